/- The purse: New, All. -/
import Derived.Test.YtdlbihndghofcaaSpendB
namespace Go.Proofs.Ytdlbihndghofcaa
open Go.RowKit
set_option linter.unusedVariables false

def fresh (l : Int) (e : Q4) : Pu := ⟨l, e, ⟨0, 0, 0, 0⟩⟩
def new (l : Int) (e : Q4) : Pu × Int := if (fresh l e).ok then (fresh l e, 0) else (zero, 1)

set_option maxRecDepth 100000 in
theorem new_good (l a b c d : Int) (h : (fresh l ⟨a, b, c, d⟩).ok) (w : World) : Calls Try.prog 11 #[.int .i64 l, .agg #[.int .i64 a, .int .i64 b, .int .i64 c, .int .i64 d]] w fun e w' => e = .returned (.tuple #[.agg #[.int .i64 l, .int .i64 a, .int .i64 b, .int .i64 c, .int .i64 d, .int .i64 0, .int .i64 0, .int .i64 0, .int .i64 0], .int .i64 0]) ∧ Fr nob w w' := by
  have R := Lib.hid (fun w => right_any (fresh l ⟨a, b, c, d⟩) w)
  rw [decide_eq_true h] at R
  clear h
  unfold Pu.v fresh at *
  simp only at *
  go_enter Try.func11, Try.ntmps11
  go_wp2_with (go_at_call 13; refine stop ?_)
  refine Stop.go ((R.out _).mono ?_)
  rintro e w1 ⟨rfl, f1⟩
  have B1 : Hid (w1.heap[w.heap.size + 1]? = some (.cells #[.int .i64 0, .int .i64 0, .int .i64 0, .int .i64 0, .int .i64 0, .int .i64 0, .int .i64 0, .int .i64 0, .int .i64 0] 24 (0, 0))) := Lib.hid (f1.heap_some (obj_alloc (obj_new (by simp) _) _) (fun x => x))
  have B2 : Hid (w1.heap[w.heap.size + 1 + 1]? = some (.cells #[.int .i64 l, .int .i64 a, .int .i64 b, .int .i64 c, .int .i64 d, .int .i64 0, .int .i64 0, .int .i64 0, .int .i64 0] 24 (0, 0))) := Lib.hid (f1.heap_some (obj_new (by simp) _) (fun x => x))
  have F := Lib.hid (((((Fr.refl nob w).alloc _).alloc _).alloc _).trans f1 (U := nob) (fun _ _ x => x) (fun _ _ x => x))
  clear f1
  have z0 : w1.cell? ⟨w.heap.size + 1, 0, none⟩ = some (.int .i64 0) := obj_cell B1.out 0
  have z1 : w1.cell? ⟨w.heap.size + 1, 1, none⟩ = some (.int .i64 0) := obj_cell B1.out 1
  have z2 : w1.cell? ⟨w.heap.size + 1, 2, none⟩ = some (.int .i64 0) := obj_cell B1.out 2
  have z3 : w1.cell? ⟨w.heap.size + 1, 3, none⟩ = some (.int .i64 0) := obj_cell B1.out 3
  have z4 : w1.cell? ⟨w.heap.size + 1, 4, none⟩ = some (.int .i64 0) := obj_cell B1.out 4
  have z5 : w1.cell? ⟨w.heap.size + 1, 5, none⟩ = some (.int .i64 0) := obj_cell B1.out 5
  have z6 : w1.cell? ⟨w.heap.size + 1, 6, none⟩ = some (.int .i64 0) := obj_cell B1.out 6
  have z7 : w1.cell? ⟨w.heap.size + 1, 7, none⟩ = some (.int .i64 0) := obj_cell B1.out 7
  have z8 : w1.cell? ⟨w.heap.size + 1, 8, none⟩ = some (.int .i64 0) := obj_cell B1.out 8
  have zf0 := obj_free B1.out 0
  have zf1 := obj_free B1.out 1
  have zf2 := obj_free B1.out 2
  have zf3 := obj_free B1.out 3
  have zf4 := obj_free B1.out 4
  have zf5 := obj_free B1.out 5
  have zf6 := obj_free B1.out 6
  have zf7 := obj_free B1.out 7
  have zf8 := obj_free B1.out 8
  have k0 : w1.cell? ⟨w.heap.size + 1 + 1, 0, none⟩ = some (.int .i64 l) := obj_cell B2.out 0
  have k1 : w1.cell? ⟨w.heap.size + 1 + 1, 1, none⟩ = some (.int .i64 a) := obj_cell B2.out 1
  have k2 : w1.cell? ⟨w.heap.size + 1 + 1, 2, none⟩ = some (.int .i64 b) := obj_cell B2.out 2
  have k3 : w1.cell? ⟨w.heap.size + 1 + 1, 3, none⟩ = some (.int .i64 c) := obj_cell B2.out 3
  have k4 : w1.cell? ⟨w.heap.size + 1 + 1, 4, none⟩ = some (.int .i64 d) := obj_cell B2.out 4
  have k5 : w1.cell? ⟨w.heap.size + 1 + 1, 5, none⟩ = some (.int .i64 0) := obj_cell B2.out 5
  have k6 : w1.cell? ⟨w.heap.size + 1 + 1, 6, none⟩ = some (.int .i64 0) := obj_cell B2.out 6
  have k7 : w1.cell? ⟨w.heap.size + 1 + 1, 7, none⟩ = some (.int .i64 0) := obj_cell B2.out 7
  have k8 : w1.cell? ⟨w.heap.size + 1 + 1, 8, none⟩ = some (.int .i64 0) := obj_cell B2.out 8
  go_wp2
  refine bodyPost_ret (v := .tuple #[.agg #[.int .i64 l, .int .i64 a, .int .i64 b, .int .i64 c, .int .i64 d, .int .i64 0, .int .i64 0, .int .i64 0, .int .i64 0], .int .i64 0]) (by simp [results, Try.results11, go_sem, z0, z1, z2, z3, z4, z5, z6, z7, z8]) rfl ⟨rfl, ?_⟩
  have hle : w.heap.size ≤ w.heap.size + 1 := by omega
  exact (((((((((F.out.setNew _ hle _).setNew _ hle _).setNew _ hle _).setNew _ hle _).setNew _ hle _).setNew _ hle _).setNew _ hle _).setNew _ hle _).setNew _ hle _)

set_option maxRecDepth 100000 in
theorem new_bad (l a b c d : Int) (h : ¬ (fresh l ⟨a, b, c, d⟩).ok) (w : World) : Calls Try.prog 11 #[.int .i64 l, .agg #[.int .i64 a, .int .i64 b, .int .i64 c, .int .i64 d]] w fun e w' => e = .returned (.tuple #[.agg #[.int .i64 0, .int .i64 0, .int .i64 0, .int .i64 0, .int .i64 0, .int .i64 0, .int .i64 0, .int .i64 0, .int .i64 0], .int .i64 1]) ∧ Fr nob w w' := by
  have R := Lib.hid (fun w => right_any (fresh l ⟨a, b, c, d⟩) w)
  rw [decide_eq_false h] at R
  clear h
  unfold Pu.v fresh at *
  simp only at *
  go_enter Try.func11, Try.ntmps11
  go_wp2_with (go_at_call 13; refine stop ?_)
  refine Stop.go ((R.out _).mono ?_)
  rintro e w1 ⟨rfl, f1⟩
  have B1 : Hid (w1.heap[w.heap.size + 1]? = some (.cells #[.int .i64 0, .int .i64 0, .int .i64 0, .int .i64 0, .int .i64 0, .int .i64 0, .int .i64 0, .int .i64 0, .int .i64 0] 24 (0, 0))) := Lib.hid (f1.heap_some (obj_alloc (obj_new (by simp) _) _) (fun x => x))
  have B2 : Hid (w1.heap[w.heap.size + 1 + 1]? = some (.cells #[.int .i64 l, .int .i64 a, .int .i64 b, .int .i64 c, .int .i64 d, .int .i64 0, .int .i64 0, .int .i64 0, .int .i64 0] 24 (0, 0))) := Lib.hid (f1.heap_some (obj_new (by simp) _) (fun x => x))
  have F := Lib.hid (((((Fr.refl nob w).alloc _).alloc _).alloc _).trans f1 (U := nob) (fun _ _ x => x) (fun _ _ x => x))
  clear f1
  have z0 : w1.cell? ⟨w.heap.size + 1, 0, none⟩ = some (.int .i64 0) := obj_cell B1.out 0
  have z1 : w1.cell? ⟨w.heap.size + 1, 1, none⟩ = some (.int .i64 0) := obj_cell B1.out 1
  have z2 : w1.cell? ⟨w.heap.size + 1, 2, none⟩ = some (.int .i64 0) := obj_cell B1.out 2
  have z3 : w1.cell? ⟨w.heap.size + 1, 3, none⟩ = some (.int .i64 0) := obj_cell B1.out 3
  have z4 : w1.cell? ⟨w.heap.size + 1, 4, none⟩ = some (.int .i64 0) := obj_cell B1.out 4
  have z5 : w1.cell? ⟨w.heap.size + 1, 5, none⟩ = some (.int .i64 0) := obj_cell B1.out 5
  have z6 : w1.cell? ⟨w.heap.size + 1, 6, none⟩ = some (.int .i64 0) := obj_cell B1.out 6
  have z7 : w1.cell? ⟨w.heap.size + 1, 7, none⟩ = some (.int .i64 0) := obj_cell B1.out 7
  have z8 : w1.cell? ⟨w.heap.size + 1, 8, none⟩ = some (.int .i64 0) := obj_cell B1.out 8
  have zf0 := obj_free B1.out 0
  have zf1 := obj_free B1.out 1
  have zf2 := obj_free B1.out 2
  have zf3 := obj_free B1.out 3
  have zf4 := obj_free B1.out 4
  have zf5 := obj_free B1.out 5
  have zf6 := obj_free B1.out 6
  have zf7 := obj_free B1.out 7
  have zf8 := obj_free B1.out 8
  have k0 : w1.cell? ⟨w.heap.size + 1 + 1, 0, none⟩ = some (.int .i64 l) := obj_cell B2.out 0
  have k1 : w1.cell? ⟨w.heap.size + 1 + 1, 1, none⟩ = some (.int .i64 a) := obj_cell B2.out 1
  have k2 : w1.cell? ⟨w.heap.size + 1 + 1, 2, none⟩ = some (.int .i64 b) := obj_cell B2.out 2
  have k3 : w1.cell? ⟨w.heap.size + 1 + 1, 3, none⟩ = some (.int .i64 c) := obj_cell B2.out 3
  have k4 : w1.cell? ⟨w.heap.size + 1 + 1, 4, none⟩ = some (.int .i64 d) := obj_cell B2.out 4
  have k5 : w1.cell? ⟨w.heap.size + 1 + 1, 5, none⟩ = some (.int .i64 0) := obj_cell B2.out 5
  have k6 : w1.cell? ⟨w.heap.size + 1 + 1, 6, none⟩ = some (.int .i64 0) := obj_cell B2.out 6
  have k7 : w1.cell? ⟨w.heap.size + 1 + 1, 7, none⟩ = some (.int .i64 0) := obj_cell B2.out 7
  have k8 : w1.cell? ⟨w.heap.size + 1 + 1, 8, none⟩ = some (.int .i64 0) := obj_cell B2.out 8
  go_wp2
  refine bodyPost_ret (v := .tuple #[.agg #[.int .i64 0, .int .i64 0, .int .i64 0, .int .i64 0, .int .i64 0, .int .i64 0, .int .i64 0, .int .i64 0, .int .i64 0], .int .i64 1]) (by simp [results, Try.results11, go_sem, z0, z1, z2, z3, z4, z5, z6, z7, z8]) rfl ⟨rfl, ?_⟩
  have hle : w.heap.size ≤ w.heap.size + 1 := by omega
  exact (((((((((F.out.setNew _ hle _).setNew _ hle _).setNew _ hle _).setNew _ hle _).setNew _ hle _).setNew _ hle _).setNew _ hle _).setNew _ hle _).setNew _ hle _)

theorem new_any (l : Int) (e : Q4) (w : World) : Calls Try.prog 11 #[.int .i64 l, .agg #[.int .i64 e.a, .int .i64 e.b, .int .i64 e.c, .int .i64 e.d]] w fun r w' => r = .returned (.tuple #[(new l e).1.v, .int .i64 (new l e).2]) ∧ Fr nob w w' := by
  unfold new
  by_cases h : (fresh l e).ok
  · rw [if_pos h]; exact new_good l e.a e.b e.c e.d h w
  · rw [if_neg h]; exact new_bad l e.a e.b e.c e.d h w

set_option maxRecDepth 100000 in
theorem all_bad (p : Pu) (h : ¬ p.ok) (w : World) : Calls Try.prog 16 #[p.v] w fun e w' => e = .returned (.int .i64 0) ∧ Fr nob w w' := by
  have R := Lib.hid (fun w => right_any p w)
  rw [decide_eq_false h] at R
  clear h
  unfold Pu.v at *
  go_enter Try.func16, Try.ntmps16
  go_wp2_with (go_at_call 13; refine stop ?_)
  refine Stop.go ((R.out _).mono ?_)
  rintro e w1 ⟨rfl, f1⟩
  have F := Lib.hid (((Fr.refl nob w).alloc _).trans f1 (U := nob) (fun _ _ x => x) (fun _ _ x => x))
  clear f1
  go_wp2
  go_ret
  exact ⟨rfl, F.out⟩

set_option maxRecDepth 100000 in
set_option maxHeartbeats 1000000 in
theorem all_good (l a b c d s t u v m : Int) (h : Pu.ok ⟨l, ⟨a, b, c, d⟩, ⟨s, t, u, v⟩⟩) (hm : m = min (s + t + u + v) 2147483647) (w : World) : Calls Try.prog 16 #[.agg #[.int .i64 l, .int .i64 a, .int .i64 b, .int .i64 c, .int .i64 d, .int .i64 s, .int .i64 t, .int .i64 u, .int .i64 v]] w fun e w' => e = .returned (.int .i64 m) ∧ Fr nob w w' := by
  have R := Lib.hid (fun w => right_any ⟨l, ⟨a, b, c, d⟩, ⟨s, t, u, v⟩⟩ w)
  rw [decide_eq_true h] at R
  have HM := Lib.hid hm
  obtain ⟨hs, ht, hu, hv⟩ : (0 ≤ s ∧ s ≤ 2147483647) ∧ (0 ≤ t ∧ t ≤ 2147483647) ∧ (0 ≤ u ∧ u ≤ 2147483647) ∧ (0 ≤ v ∧ v ≤ 2147483647) := h.2.2
  clear h hm
  unfold Pu.v at *
  simp only at *
  have i0 : ∀ w, (Instr.index 22 (.agg #[.int .i64 s, .int .i64 t, .int .i64 u, .int .i64 v]) (.int .i64 0)).run Try.prog w = .ok (.int .i64 s) w := fun _ => by kernel_rfl
  have i1 : ∀ w, (Instr.index 22 (.agg #[.int .i64 s, .int .i64 t, .int .i64 u, .int .i64 v]) (.int .i64 1)).run Try.prog w = .ok (.int .i64 t) w := fun _ => by kernel_rfl
  have i2 : ∀ w, (Instr.index 22 (.agg #[.int .i64 s, .int .i64 t, .int .i64 u, .int .i64 v]) (.int .i64 2)).run Try.prog w = .ok (.int .i64 u) w := fun _ => by kernel_rfl
  have i3 : ∀ w, (Instr.index 22 (.agg #[.int .i64 s, .int .i64 t, .int .i64 u, .int .i64 v]) (.int .i64 3)).run Try.prog w = .ok (.int .i64 v) w := fun _ => by kernel_rfl
  go_enter Try.func16, Try.ntmps16
  go_wp2_with (go_at_call 13; refine stop ?_)
  refine Stop.go ((R.out _).mono ?_)
  rintro e w1 ⟨rfl, f1⟩
  have b1 : w1.heap[w.heap.size]? = some (.cells #[.int .i64 l, .int .i64 a, .int .i64 b, .int .i64 c, .int .i64 d, .int .i64 s, .int .i64 t, .int .i64 u, .int .i64 v] 24 (0, 0)) := f1.heap_some (obj_new rfl _) (fun x => x)
  have F := Lib.hid (((Fr.refl nob w).alloc _).trans f1 (U := nob) (fun _ _ x => x) (fun _ _ x => x))
  have k0 : w1.cell? ⟨w.heap.size, 0, none⟩ = some (.int .i64 l) := obj_cell b1 0
  have k1 : w1.cell? ⟨w.heap.size, 1, none⟩ = some (.int .i64 a) := obj_cell b1 1
  have k2 : w1.cell? ⟨w.heap.size, 2, none⟩ = some (.int .i64 b) := obj_cell b1 2
  have k3 : w1.cell? ⟨w.heap.size, 3, none⟩ = some (.int .i64 c) := obj_cell b1 3
  have k4 : w1.cell? ⟨w.heap.size, 4, none⟩ = some (.int .i64 d) := obj_cell b1 4
  have k5 : w1.cell? ⟨w.heap.size, 5, none⟩ = some (.int .i64 s) := obj_cell b1 5
  have k6 : w1.cell? ⟨w.heap.size, 6, none⟩ = some (.int .i64 t) := obj_cell b1 6
  have k7 : w1.cell? ⟨w.heap.size, 7, none⟩ = some (.int .i64 u) := obj_cell b1 7
  have k8 : w1.cell? ⟨w.heap.size, 8, none⟩ = some (.int .i64 v) := obj_cell b1 8
  clear f1 b1
  go_wp2_with fail
  refine wp_loop_rounds 5 ?_
  rw [rounds_succ]
  go_wp2_with fail
  rw [rounds_succ]
  go_wp2_with fail
  rw [rounds_succ]
  go_wp2_with fail
  rw [rounds_succ]
  go_wp2_with fail
  rw [rounds_succ]
  go_wp2
  all_goals
    go_ret
    refine ⟨?_, F.out⟩
    rw [HM.out]
    simp
    try omega

theorem all_any (p : Pu) (w : World) : Calls Try.prog 16 #[p.v] w fun e w' => e = .returned (.int .i64 (all p)) ∧ Fr nob w w' := by
  unfold all
  by_cases h : p.ok
  · rw [if_pos h]; exact all_good p.l p.e.a p.e.b p.e.c p.e.d p.s.a p.s.b p.s.c p.s.d _ h rfl w
  · rw [if_neg h]; exact all_bad p h w

end Go.Proofs.Ytdlbihndghofcaa
