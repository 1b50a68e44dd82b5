/- The document's example, awake: it is true. -/
import Derived.Test.YtnbdomhikbfabaaStkE
namespace Go.Proofs.Ytnbdomhikbfabaa
open Go.RowKit

theorem ST.above {w : World} {p : Nat} {v : Value} {most : Int} {xs : List Int} (h : ST w p v most xs) : ∀ k, k = p ∨ v.ownBlock = some k → p ≤ k := fun k hk => by
  rcases hk with rfl | hk
  · exact Nat.le_refl _
  · exact Nat.le_of_lt (h.own_ne _ hk).1

set_option maxRecDepth 100000 in
set_option maxHeartbeats 400000 in
theorem awake_any (w : World) : Calls Try.prog 7 #[] w fun e w' => e = .returned (.bool true) ∧ Fr nob w w' := by
  go_enter Try.func7, Try.ntmps7
  go_wp2_with (go_at_call 8; refine stop ?_)
  refine Stop.go ((ints_new 2 w).mono ?_)
  rintro e w0 ⟨rfl, rfl⟩
  have F0 := Lib.hid ((Fr.refl nob w).alloc (.cells #[.int .i64 2, .slice none 0 0] 57))
  have S0 := Lib.hid (ST.new 2 w)
  go_wp2_with (go_at_call 10; refine stop ?_)
  refine Stop.go ((push_room _ _ 2 5 [] _ S0.out (by simp) (by simp)).mono ?_)
  rintro e w1 ⟨rfl, v1, h1, f1, -⟩
  have S1 := Lib.hid h1
  have F1 := Lib.hid (F0.out.keep f1 S0.out.above)
  clear h1 f1
  go_wp2_with (go_at_call 10; refine stop ?_)
  refine Stop.go ((push_room _ _ 2 6 [5] _ S1.out (by simp) (by simp)).mono ?_)
  rintro e w2 ⟨rfl, v2, h2, f2, -⟩
  have S2 := Lib.hid h2
  have F2 := Lib.hid (F1.out.keep f2 S1.out.above)
  clear h2 f2
  go_wp2_with (go_at_call 10; refine stop ?_)
  refine Stop.go ((push_full _ _ 2 7 [5, 6] _ S2.out (by simp)).mono ?_)
  rintro e w3 ⟨rfl, n3, rfl⟩
  go_wp2_with (go_at_call 12; refine stop ?_)
  refine Stop.go ((pop_some _ v2 2 6 [5] (w2.drewN n3) S2.out).mono ?_)
  rintro e w4 ⟨rfl, v4, h4, f4, -⟩
  have S4 := Lib.hid h4
  have F4 := Lib.hid ((F2.out.drewN n3).keep f4 (fun k hk => by omega))
  clear h4 f4
  go_wp2_with (go_at_call 14; refine stop ?_)
  refine Stop.go ((top_some _ _ 2 5 [] _ S4.out).mono ?_)
  rintro e w5 ⟨rfl, n5, rfl⟩
  go_wp2_with (go_at_call 16; refine stop ?_)
  refine Stop.go ((len_any _ v4 2 [5] (w4.drewN n5) S4.out).mono ?_)
  rintro e w6 ⟨rfl, rfl⟩
  go_wp2
  go_ret
  exact ⟨rfl, F4.out.drewN _⟩

end Go.Proofs.Ytnbdomhikbfabaa
