/- awake. -/
import Derived.Test.YtgjgonnlkponiaaPkI
import Derived.Test.YtgjgonnlkponiaaPkE
namespace Go.Proofs.Ytgjgonnlkponiaa
open Go.RowKit

theorem RI.three {w : World} {B : Nat} (h : w.heap[B]? = some (.cells #[.int .i64 (-1), .int .i64 0, .int .i64 127] 3 (0, 0))) : RI w (.slice (some ⟨B, 0, none⟩) 3 3) [-1, 0, 127] :=
  ⟨_, B, 0, 3, rfl, by simp, by simp [maxLen], .inr rfl, fun j x hj => by
    match j, hj with
    | 0, hj => simp at hj; subst hj; exact obj_cell h 0
    | 1, hj => simp at hj; subst hj; exact obj_cell h 1
    | 2, hj => simp at hj; subst hj; exact obj_cell h 2
    | n + 3, hj => simp at hj⟩
theorem e3 : enc7 3 = [3] := enc7_small (by decide)
theorem e128 : enc7 128 = [128, 1] := by rw [enc7_big (by decide), enc7_small (by decide)]; rfl
theorem p3E : putE [-1, 0, 127] = 0 := by decide
theorem p3L : putL [-1, 0, 127] = [3, 0, 1, 128, 1] := by
  rw [(putE_zero p3E).2.2]
  show enc7 3 ++ (enc7 0 ++ (enc7 1 ++ (enc7 128 ++ []))) = _
  rw [e3, enc7_small (n := 0) (by decide), enc7_small (n := 1) (by decide), e128]
  rfl
theorem g3 : getE [3, 0, 1, 128, 1] = 0 ∧ getL [3, 0, 1, 128, 1] = [-1, 0, 127] := by
  have := get_put p3E []
  rw [p3L] at this
  simpa using this
theorem gshort : getE [1, 128] = 16 := by decide +kernel
theorem gform : getE [1, 128, 0] = 2 := by decide +kernel

theorem PT.three {w w' : World} {e : Ending} (h : PT [-1, 0, 127] w e w') : e = .returned (.tuple #[.string ⟨#[3, 0, 1, 128, 1]⟩, .int .i64 0]) ∧ Fr nob w w' := by
  obtain ⟨h1, h2⟩ := h
  rw [p3E, p3L] at h1
  exact ⟨h1, h2⟩
theorem GT.three {w w' : World} {e : Ending} (h : GT ⟨#[3, 0, 1, 128, 1]⟩ w e w') : ∃ v, e = .returned (.tuple #[v, .int .i64 0]) ∧ RI w' v [-1, 0, 127] ∧ Fr nob w w' := by
  obtain ⟨v, h1, h2, h3⟩ := h
  have h1' : e = .returned (.tuple #[v, .int .i64 (getE [3, 0, 1, 128, 1])]) := h1
  have h2' : RI w' v (getL [3, 0, 1, 128, 1]) := h2
  rw [g3.1] at h1'
  rw [g3.2] at h2'
  exact ⟨v, h1', h2', h3⟩
theorem GT.short {w w' : World} {e : Ending} (h : GT ⟨#[1, 128]⟩ w e w') : ∃ v, e = .returned (.tuple #[v, .int .i64 16]) ∧ Fr nob w w' := by
  obtain ⟨v, h1, -, h3⟩ := h
  have h1' : e = .returned (.tuple #[v, .int .i64 (getE [1, 128])]) := h1
  rw [gshort] at h1'
  exact ⟨v, h1', h3⟩
theorem GT.form {w w' : World} {e : Ending} (h : GT ⟨#[1, 128, 0]⟩ w e w') : ∃ v, e = .returned (.tuple #[v, .int .i64 2]) ∧ Fr nob w w' := by
  obtain ⟨v, h1, -, h3⟩ := h
  have h1' : e = .returned (.tuple #[v, .int .i64 (getE [1, 128, 0])]) := h1
  rw [gform] at h1'
  exact ⟨v, h1', h3⟩

set_option maxRecDepth 100000 in
set_option maxHeartbeats 1000000 in
theorem awake_any (w : World) : Calls Try.prog 7 #[] w fun e w' => e = .returned (.bool true) ∧ Fr nob w w' := by
  go_enter Try.func7, Try.ntmps7
  go_wp2_with (go_at_call 8; refine stop ?_)
  refine Stop.go ((put_any _ [-1, 0, 127] _ (RI.three (obj_new rfl _))).mono ?_)
  intro e w1 h1
  obtain ⟨rfl, f1⟩ := h1.three
  have F1 := Lib.hid (((Fr.refl nob w).alloc _).step f1)
  clear f1 h1
  go_wp2_with (go_at_call 10; refine stop ?_)
  refine Stop.go ((get_any _ _).mono ?_)
  intro e w2 h2
  obtain ⟨v, rfl, hv, f2⟩ := h2.three
  have F2 := Lib.hid (F1.out.step f2)
  have V2 := Lib.hid hv
  clear f2 h2 hv
  go_wp2_with (go_at_call 10; refine stop ?_)
  refine Stop.go ((get_any _ _).mono ?_)
  intro e w3 h3
  obtain ⟨v3, rfl, f3⟩ := h3.short
  have F3 := Lib.hid (F2.out.step f3)
  have V3 := Lib.hid (V2.out.fr f3)
  clear f3 h3
  go_wp2_with (go_at_call 10; refine stop ?_)
  refine Stop.go ((get_any _ _).mono ?_)
  intro e w4 h4
  obtain ⟨v4, rfl, f4⟩ := h4.form
  have F4 := Lib.hid (F3.out.step f4)
  have V4 := Lib.hid (V3.out.fr f4)
  clear f4 h4 F1 F2 F3 V2 V3
  go_wp2_with (go_at_call 12; refine stop ?_)
  refine Stop.go ((ints_any _ _ [-1, 0, 127] [-1, 0, 127] _ (V4.out.fr ((Fr.refl nob w4).alloc _)) (RI.three (obj_new rfl _))).mono ?_)
  rintro e w5 ⟨rfl, f5⟩
  have F5 := Lib.hid ((F4.out.alloc _).step f5)
  clear f5
  go_wp2
  go_ret
  exact ⟨rfl, F5.out⟩

end Go.Proofs.Ytgjgonnlkponiaa
