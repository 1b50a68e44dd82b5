/- Plain and Same. -/
import Derived.Test.YtlppphhgbfehcaaScA
namespace Go.Proofs.Ytlppphhgbfehcaa
open Go.RowKit

set_option maxRecDepth 100000 in
theorem plain_any (a : Option Addr) (b off cap : Nat) (ps : List Pk) (w : World) (h : PAt w a b off ps) (hb : ps.length ≤ 100000) :
    Calls Try.prog 8 #[.slice a ps.length cap] w fun e w' => ∃ v', e = .returned v' ∧ RP w' v' ps ∧ Fr nob w w' := by
  have H := Lib.hid h
  clear h
  go_enter Try.func8, Try.ntmps8
  go_wp2_with fail
  go_loopg [3, 4] ps.length (fun gk s3 i wr => ∃ k : Nat, k + gk = ps.length ∧ i = .int .i64 k ∧ wr.ownsRow w.heap.size 40 2 s3 k (cp (ps.take k)) ∧ Fr nob w wr)
  case atStart => exact ⟨0, Nat.zero_add _, rfl, World.ownsRow_nil _ _ _ _, Fr.refl _ _⟩
  case round =>
    obtain ⟨k, hk, rfl, ho, hf⟩ := hrel
    obtain ⟨a3, cap3, rfl, -, -⟩ := owns_shape ho
    have O := Lib.hid ho
    have F := Lib.hid hf
    have HK := Lib.hid hk
    have hkl : k ≤ ps.length := by omega
    clear ho hf hk
    by_cases hlt : k < ps.length
    · obtain ⟨x, hx⟩ : ∃ x, ps[k]? = some x := ⟨_, List.getElem?_eq_getElem hlt⟩
      obtain rfl := H.out.addr hx
      obtain ⟨d0, d1⟩ := (H.out.nob F.out).2 k x hx
      have HX := Lib.hid hx
      clear hx
      have hidx0 : (0 : Int) ≤ (k : Int) := Int.natCast_nonneg _
      have hidx1 : (k : Int) < (ps.length : Int) := by omega
      go_wp2_with fail
      have hb1 : (k + 1) * 16 ≤ 140737488355328 := by omega
      have hb2 : k + 1 ≤ maxLen := by simp only [maxLen]; omega
      have hb3 : w.heap.size ≤ (wr.drew.alloc (.cells #[.int .i64 x.1, .int .i64 x.2] 40)).heap.size := by have := F.out.size; simp; omega
      go_region_law ((refine step_app rfl (.tmp 11) (.tmp 23) rfl appP rfl (base := w.heap.size) (n := k) (xs := cp (ps.take k)) (World.ownsRow.alloc (w := wr.drew) O.out _) (m := 1) (news := cp [x]) rfl rfl (Src.block (w := wr.drew.alloc _) (cs := #[.int .i64 x.1, .int .i64 x.2]) (obj_new (w := wr.drew) rfl _) (cp_one [x])) hb1 hb2 hb3 ?_; intro v3 w3 ho3 hg3 _; have F3 := Lib.hid ((F.out.drew.alloc _).grown hg3 (fun i hi hl => by have := (O.out.lt i hi).1; omega)); have O3 : Hid (w3.ownsRow w.heap.size 40 2 v3 (k + 1) (cp (ps.take (k + 1)))) := Lib.hid (by rw [take_snoc HX.out, cp_app]; exact ho3); clear ho3 hg3))
      all_goals
        go_wp2
        go_roundg (gk - 1)
        case measure => have := HK.out; omega
        case rel => exact ⟨k + 1, by have := HK.out; omega, by go_num, O3.out, F3.out⟩
    · have hkk : k = ps.length := by omega
      have R : Hid (RP wr (.slice a3 k cap3) ps) := by
        have := O.out
        rw [hkk, List.take_length] at this
        rw [hkk]
        exact RP.of_owns rfl this
      go_wp2
      go_ret
      exact ⟨_, rfl, R.out, F.out⟩

end Go.Proofs.Ytlppphhgbfehcaa
