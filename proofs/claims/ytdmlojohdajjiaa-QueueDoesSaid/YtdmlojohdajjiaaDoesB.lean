/- QueueDoes: the walk, whatever came in. -/
import Derived.Test.YtdmlojohdajjiaaDoesA
namespace Go.Proofs.Ytdmlojohdajjiaa
open Go.RowKit

theorem does_walk (room : Int) (a : Option Addr) (len cap : Nat) (K : Nat → Int) (S : Nat → Value) (w : World) (_ : (Lit.int .i64 room).wf = true) (h : OpsAt w a len cap K S) :
    Calls Try.prog 3 #[.int .i64 room, .slice a len cap] w fun e w' => e = .returned (.bool true) ∧ Below w.heap.size w w' := by
  have key : Calls Try.prog 3 #[.int .i64 room, .slice a len cap] w fun e w' => e = .returned (.bool true) ∧ Fr nob w w' := by
    by_cases hl : 100 < len
    · exact does_many room a len cap w hl
    by_cases hr : room < 1 ∨ 256 < room
    · exact does_bad room hr a len cap w (by omega)
    obtain ⟨r, rfl⟩ : ∃ r : Nat, room = r := ⟨room.toNat, by omega⟩
    rcases h.2.2 with rfl | ⟨b, off, rfl, h3⟩
    · exact does_none r (by omega) (by omega) a cap w
    · exact does_some r (by omega) (by omega) b off len cap K S w (by omega) h3
  exact key.mono fun e w' ⟨he, hf⟩ => ⟨he, hf.below0⟩

end Go.Proofs.Ytdmlojohdajjiaa
