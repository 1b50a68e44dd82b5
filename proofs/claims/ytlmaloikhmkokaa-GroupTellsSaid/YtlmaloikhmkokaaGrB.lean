/- The reference's Right. -/
import Derived.Test.YtlmaloikhmkokaaGrA
namespace Go.Proofs.Ytlmaloikhmkokaa
open Go.RowKit

theorem rightB_bad {e : Ev} (h : e.k < 0 ∨ 4 < e.k ∨ e.s < 0 ∨ 7 < e.s) : rightB e = false := by
  simp [rightB]; omega
theorem rightB_item {e : Ev} (h : 0 ≤ e.k ∧ e.k ≤ 4 ∧ 0 ≤ e.s ∧ e.s ≤ 7) (hi : e.k = 1 ∨ e.k = 2) : rightB e = (decide (0 ≤ e.y) && decide (e.y ≤ 15) && (decide (0 ≤ e.v) && decide (e.v < 2147483648))) := by
  have h1 : itemB e.k = true := by rcases hi with h | h <;> simp [itemB, h]
  have h2 : decide (e.y ≤ 15) = decide (e.y < 16) := by rw [decide_eq_decide]; omega
  simp only [rightB, h1, h2, if_true]
  have h3 : ((decide (0 ≤ e.k) && decide (e.k < 5)) && (decide (0 ≤ e.s) && decide (e.s < 8))) = true := by simp; omega
  rw [h3, Bool.true_and]
theorem rightB_none {e : Ev} (h : 0 ≤ e.k ∧ e.k ≤ 4 ∧ 0 ≤ e.s ∧ e.s ≤ 7) (hi : ¬ e.k = 1) (hj : ¬ e.k = 2) : rightB e = (e.y == 0 && e.v == 0) := by
  have h1 : itemB e.k = false := by simp [itemB, hi, hj]
  simp only [rightB, h1]
  have h3 : ((decide (0 ≤ e.k) && decide (e.k < 5)) && (decide (0 ≤ e.s) && decide (e.s < 8))) = true := by simp; omega
  rw [h3, Bool.true_and]
  rfl

set_option maxRecDepth 100000 in
set_option maxHeartbeats 1000000 in
theorem rright_any (e : Ev) (w : World) : Calls Try.prog 17 #[e.val] w fun x w' => x = .returned (.bool (rightB e)) ∧ Fr nob w w' := by
  obtain ⟨k, s, y, v⟩ := e
  have F := Lib.hid ((Fr.refl nob w).alloc (.cells #[.int .i64 k, .int .i64 s, .int .i64 y, .int .i64 v] 44))
  have c0 : (w.alloc (.cells #[.int .i64 k, .int .i64 s, .int .i64 y, .int .i64 v] 44)).cell? ⟨w.heap.size, 0, none⟩ = some (.int .i64 k) := obj_cell (heap_new w _) 0
  have c1 : (w.alloc (.cells #[.int .i64 k, .int .i64 s, .int .i64 y, .int .i64 v] 44)).cell? ⟨w.heap.size, 1, none⟩ = some (.int .i64 s) := obj_cell (heap_new w _) 1
  have c2 : (w.alloc (.cells #[.int .i64 k, .int .i64 s, .int .i64 y, .int .i64 v] 44)).cell? ⟨w.heap.size, 2, none⟩ = some (.int .i64 y) := obj_cell (heap_new w _) 2
  have c3 : (w.alloc (.cells #[.int .i64 k, .int .i64 s, .int .i64 y, .int .i64 v] 44)).cell? ⟨w.heap.size, 3, none⟩ = some (.int .i64 v) := obj_cell (heap_new w _) 3
  have CV := Lib.hid (fun w => is_any v w)
  obtain ⟨V, hV⟩ : ∃ V, V = (decide (0 ≤ v) && decide (v < 2147483648)) := ⟨_, rfl⟩
  rw [← hV] at CV
  have HV := Lib.hid hV
  clear hV
  unfold Ev.val
  simp only
  by_cases k0 : k < 0
  · have RES := Lib.hid (rightB_bad (e := ⟨k, s, y, v⟩) (.inl k0))
    go_enter Try.func17, Try.ntmps17
    go_wp2
    go_ret
    exact ⟨ret_bool RES.out.symm, F.out⟩
  by_cases k1 : 4 < k
  · have RES := Lib.hid (rightB_bad (e := ⟨k, s, y, v⟩) (.inr (.inl k1)))
    go_enter Try.func17, Try.ntmps17
    go_wp2
    go_ret
    exact ⟨ret_bool RES.out.symm, F.out⟩
  by_cases s0 : s < 0
  · have RES := Lib.hid (rightB_bad (e := ⟨k, s, y, v⟩) (.inr (.inr (.inl s0))))
    go_enter Try.func17, Try.ntmps17
    go_wp2
    go_ret
    exact ⟨ret_bool RES.out.symm, F.out⟩
  by_cases s1 : 7 < s
  · have RES := Lib.hid (rightB_bad (e := ⟨k, s, y, v⟩) (.inr (.inr (.inr s1))))
    go_enter Try.func17, Try.ntmps17
    go_wp2
    go_ret
    exact ⟨ret_bool RES.out.symm, F.out⟩
  have hr : 0 ≤ k ∧ k ≤ 4 ∧ 0 ≤ s ∧ s ≤ 7 := ⟨by omega, by omega, by omega, by omega⟩
  by_cases i1 : k = 1
  · have RES := Lib.hid (rightB_item (e := ⟨k, s, y, v⟩) hr (.inl i1))
    simp only [← HV.out] at RES
    clear hr
    subst i1
    by_cases y0 : 0 ≤ y
    · by_cases y1 : y ≤ 15
      · go_enter Try.func17, Try.ntmps17
        go_wp2_with (go_at_call 21; refine stop ?_)
        refine Stop.go ((CV.out _).mono ?_)
        rintro e w1 ⟨rfl, rfl⟩
        go_wp2
        go_ret
        exact ⟨ret_bool (by rw [RES.out]; simp [y0, y1]), F.out⟩
      · go_enter Try.func17, Try.ntmps17
        go_wp2_with (go_at_call 21; refine stop ?_)
        refine Stop.go ((CV.out _).mono ?_)
        rintro e w1 ⟨rfl, rfl⟩
        go_wp2
        go_ret
        exact ⟨ret_bool (by rw [RES.out]; simp; intros; omega), F.out⟩
    · go_enter Try.func17, Try.ntmps17
      go_wp2_with (go_at_call 21; refine stop ?_)
      refine Stop.go ((CV.out _).mono ?_)
      rintro e w1 ⟨rfl, rfl⟩
      go_wp2
      go_ret
      exact ⟨ret_bool (by rw [RES.out]; simp; intros; omega), F.out⟩
  by_cases i2 : k = 2
  · have RES := Lib.hid (rightB_item (e := ⟨k, s, y, v⟩) hr (.inr i2))
    simp only [← HV.out] at RES
    clear hr i1
    subst i2
    by_cases y0 : 0 ≤ y
    · by_cases y1 : y ≤ 15
      · go_enter Try.func17, Try.ntmps17
        go_wp2_with (go_at_call 21; refine stop ?_)
        refine Stop.go ((CV.out _).mono ?_)
        rintro e w1 ⟨rfl, rfl⟩
        go_wp2
        go_ret
        exact ⟨ret_bool (by rw [RES.out]; simp [y0, y1]), F.out⟩
      · go_enter Try.func17, Try.ntmps17
        go_wp2_with (go_at_call 21; refine stop ?_)
        refine Stop.go ((CV.out _).mono ?_)
        rintro e w1 ⟨rfl, rfl⟩
        go_wp2
        go_ret
        exact ⟨ret_bool (by rw [RES.out]; simp; intros; omega), F.out⟩
    · go_enter Try.func17, Try.ntmps17
      go_wp2_with (go_at_call 21; refine stop ?_)
      refine Stop.go ((CV.out _).mono ?_)
      rintro e w1 ⟨rfl, rfl⟩
      go_wp2
      go_ret
      exact ⟨ret_bool (by rw [RES.out]; simp; intros; omega), F.out⟩
  have RES := Lib.hid (rightB_none (e := ⟨k, s, y, v⟩) hr i1 i2)
  have b1 : (k == 1) = false := by simpa using i1
  have b2 : (k == 2) = false := by simpa using i2
  clear hr HV CV
  by_cases y0 : y = 0
  · subst y0
    go_enter Try.func17, Try.ntmps17
    go_wp2
    go_ret
    exact ⟨ret_bool (by rw [RES.out]; simp), F.out⟩
  · have b3 : (y == 0) = false := by simpa using y0
    go_enter Try.func17, Try.ntmps17
    go_wp2
    go_ret
    exact ⟨ret_bool (by rw [RES.out]; simp [b3]), F.out⟩

end Go.Proofs.Ytlmaloikhmkokaa
