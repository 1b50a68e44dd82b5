/- PurseKeeps: the walk, as the row wants it. -/
import Derived.Test.YtdlbihndghofcaaKeepsA
import Derived.Test.YtdlbihndghofcaaPO
namespace Go.Proofs.Ytdlbihndghofcaa
open Go.RowKit

theorem keeps_walk (p : Pu) (who n : Int) (w : World) (_ : True) (_ : (Lit.int .i64 who).wf = true) (_ : (Lit.int .i64 n).wf = true) :
    Calls Try.prog 4 #[p.v, .int .i64 who, .int .i64 n] w fun e w' => e = .returned (.bool true) ∧ Below w.heap.size w w' :=
  (keeps_any p who n w).mono fun _ _ ⟨he, hf⟩ => ⟨he, hf.below0⟩

end Go.Proofs.Ytdlbihndghofcaa
