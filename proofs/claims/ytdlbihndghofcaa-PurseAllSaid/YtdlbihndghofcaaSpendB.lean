/- The purse: Spend, where it is done. -/
import Derived.Test.YtdlbihndghofcaaSpend
namespace Go.Proofs.Ytdlbihndghofcaa
open Go.RowKit
set_option linter.unusedVariables false

set_option maxRecDepth 100000 in
set_option maxHeartbeats 1000000 in
theorem spend_good0 (l a b c d s t u v n : Int) (h : Pu.ok ⟨l, ⟨a, b, c, d⟩, ⟨s, t, u, v⟩⟩) (h3 : 0 ≤ n) (h4 : ¬ may ⟨l, ⟨a, b, c, d⟩, ⟨s, t, u, v⟩⟩ 0 n < n) (w : World) :
    Calls Try.prog 9 #[.agg #[.int .i64 l, .int .i64 a, .int .i64 b, .int .i64 c, .int .i64 d, .int .i64 s, .int .i64 t, .int .i64 u, .int .i64 v], .int .i64 0, .int .i64 n] w fun e w' => e = .returned (.tuple #[.agg #[.int .i64 (l - n), .int .i64 (a - n), .int .i64 b, .int .i64 c, .int .i64 d, .int .i64 (kp (s + n)), .int .i64 (kp t), .int .i64 (kp u), .int .i64 (kp v)], .int .i64 0]) ∧ Fr nob w w' := by
  have h2 : strat 0 := by unfold strat; omega
  have hb1 : 0 ≤ l ∧ l ≤ 2147483647 := h.1
  have hb2 : 0 ≤ a ∧ a ≤ 2147483647 := h.2.1.1
  have hb3 : 0 ≤ s ∧ s ≤ 2147483647 := h.2.2.1
  have hb : n ≤ l ∧ n ≤ a := by
    unfold may at h4
    rw [if_pos ⟨h, h2⟩, show Q4.get ⟨a, b, c, d⟩ 0 = a by simp [Q4.get]] at h4
    simp only at h4
    omega
  have R := Lib.hid (fun w => right_any ⟨l, ⟨a, b, c, d⟩, ⟨s, t, u, v⟩⟩ w)
  rw [decide_eq_true h] at R
  have S := Lib.hid (fun w => strategy_any 0 w)
  rw [show decide ((0 : Int) ≤ 0 ∧ (0 : Int) < 4) = true from decide_eq_true h2] at S
  have M := Lib.hid (fun w => may_any ⟨l, ⟨a, b, c, d⟩, ⟨s, t, u, v⟩⟩ 0 n w)
  obtain ⟨m, hm⟩ : ∃ m, m = may ⟨l, ⟨a, b, c, d⟩, ⟨s, t, u, v⟩⟩ 0 n := ⟨_, rfl⟩
  rw [← hm] at M h4
  have h5 : n ≤ m := by omega
  clear h h2 hm h4
  unfold Pu.v at *
  simp only at *
  go_enter Try.func9, Try.ntmps9
  go_wp2_with (go_at_call 13; refine stop ?_)
  refine Stop.go ((R.out _).mono ?_)
  rintro e w1 ⟨rfl, f1⟩
  have B0 : Hid (w1.heap[w.heap.size]? = some (.cells #[.int .i64 l, .int .i64 a, .int .i64 b, .int .i64 c, .int .i64 d, .int .i64 s, .int .i64 t, .int .i64 u, .int .i64 v] 24 (0, 0))) := Lib.hid (f1.heap_some (obj_alloc (obj_new (w := w) rfl _) _) (fun x => x))
  have B1 : Hid (w1.heap[w.heap.size + 1]? = some (.cells #[.int .i64 0, .int .i64 0, .int .i64 0, .int .i64 0, .int .i64 0, .int .i64 0, .int .i64 0, .int .i64 0, .int .i64 0] 24 (0, 0))) := Lib.hid (f1.heap_some (obj_new (by simp) _) (fun x => x))
  have F := Lib.hid ((((Fr.refl nob w).alloc _).alloc _).trans f1 (U := nob) (fun _ _ x => x) (fun _ _ x => x))
  clear f1
  have k0 : w1.cell? ⟨w.heap.size, 0, none⟩ = some (.int .i64 l) := obj_cell B0.out 0
  have k1 : w1.cell? ⟨w.heap.size, 1, none⟩ = some (.int .i64 a) := obj_cell B0.out 1
  have k2 : w1.cell? ⟨w.heap.size, 2, none⟩ = some (.int .i64 b) := obj_cell B0.out 2
  have k3 : w1.cell? ⟨w.heap.size, 3, none⟩ = some (.int .i64 c) := obj_cell B0.out 3
  have k4 : w1.cell? ⟨w.heap.size, 4, none⟩ = some (.int .i64 d) := obj_cell B0.out 4
  have k5 : w1.cell? ⟨w.heap.size, 5, none⟩ = some (.int .i64 s) := obj_cell B0.out 5
  have k6 : w1.cell? ⟨w.heap.size, 6, none⟩ = some (.int .i64 t) := obj_cell B0.out 6
  have k7 : w1.cell? ⟨w.heap.size, 7, none⟩ = some (.int .i64 u) := obj_cell B0.out 7
  have k8 : w1.cell? ⟨w.heap.size, 8, none⟩ = some (.int .i64 v) := obj_cell B0.out 8
  go_wp2_with (go_at_call 18; refine stop ?_)
  refine Stop.go ((S.out _).mono ?_)
  rintro e w2 ⟨rfl, rfl⟩
  go_wp2_with (go_at_call 14; refine stop ?_)
  refine Stop.go ((M.out _).mono ?_)
  rintro e w3 ⟨rfl, f3⟩
  have B0' := Lib.hid (f3.heap_some B0.out (fun x => x))
  have B1' := Lib.hid (f3.heap_some B1.out (fun x => x))
  have F3 := Lib.hid (F.out.step f3)
  clear f3 k0 k1 k2 k3 k4 k5 k6 k7 k8 R S M
  have k0 : w3.cell? ⟨w.heap.size, 0, none⟩ = some (.int .i64 l) := obj_cell B0'.out 0
  have k1 : w3.cell? ⟨w.heap.size, 1, none⟩ = some (.int .i64 a) := obj_cell B0'.out 1
  have k2 : w3.cell? ⟨w.heap.size, 2, none⟩ = some (.int .i64 b) := obj_cell B0'.out 2
  have k3 : w3.cell? ⟨w.heap.size, 3, none⟩ = some (.int .i64 c) := obj_cell B0'.out 3
  have k4 : w3.cell? ⟨w.heap.size, 4, none⟩ = some (.int .i64 d) := obj_cell B0'.out 4
  have k5 : w3.cell? ⟨w.heap.size, 5, none⟩ = some (.int .i64 s) := obj_cell B0'.out 5
  have k6 : w3.cell? ⟨w.heap.size, 6, none⟩ = some (.int .i64 t) := obj_cell B0'.out 6
  have k7 : w3.cell? ⟨w.heap.size, 7, none⟩ = some (.int .i64 u) := obj_cell B0'.out 7
  have k8 : w3.cell? ⟨w.heap.size, 8, none⟩ = some (.int .i64 v) := obj_cell B0'.out 8
  have kf0 := obj_free B0'.out 0
  have kf1 := obj_free B0'.out 1
  have kf2 := obj_free B0'.out 2
  have kf3 := obj_free B0'.out 3
  have kf4 := obj_free B0'.out 4
  have kf5 := obj_free B0'.out 5
  have kf6 := obj_free B0'.out 6
  have kf7 := obj_free B0'.out 7
  have kf8 := obj_free B0'.out 8
  go_wp2_with (go_at_call 19; refine stop ?_)
  obtain ⟨w5, hw5⟩ : ∃ w5, w5 = ((w3.setCell ⟨w.heap.size, 0, none⟩ (.int .i64 (l - n))).setCell ⟨w.heap.size, 1, none⟩ (.int .i64 (a - n))).setCell ⟨w.heap.size, 5, none⟩ (.int .i64 (s + n)) := ⟨_, rfl⟩
  simp only [← hw5]
  have B5 : Hid (w5.heap[w.heap.size]? = some (.cells #[.int .i64 (l - n), .int .i64 (a - n), .int .i64 b, .int .i64 c, .int .i64 d, .int .i64 (s + n), .int .i64 t, .int .i64 u, .int .i64 v] 24 (0, 0))) := hw5 ▸ obj_set (obj_set (obj_set B0'.out 0 _) 1 _) 5 _
  have Z5 : Hid (w5.heap[w.heap.size + 1]? = some (.cells #[.int .i64 0, .int .i64 0, .int .i64 0, .int .i64 0, .int .i64 0, .int .i64 0, .int .i64 0, .int .i64 0, .int .i64 0] 24 (0, 0))) := hw5 ▸ obj_setNe (obj_setNe (obj_setNe B1'.out _ (by show ¬ w.heap.size + 1 = w.heap.size; omega) _) _ (by show ¬ w.heap.size + 1 = w.heap.size; omega) _) _ (by show ¬ w.heap.size + 1 = w.heap.size; omega) _
  have F5 : Hid (Fr nob w w5) := hw5 ▸ ((F3.out.setNew _ (Nat.le_refl _) _).setNew _ (Nat.le_refl _) _).setNew _ (Nat.le_refl _) _
  refine Stop.go ((kept_at _ _ _ _ w5).mono ?_)
  rintro e w6 ⟨rfl, f6⟩
  have B6 := Lib.hid (f6.heap_some B5.out (fun x => x))
  have Z6 := Lib.hid (f6.heap_some Z5.out (fun x => x))
  have F6 := Lib.hid (F5.out.step f6)
  clear hw5 f6 k0 kf0 k1 kf1 k2 kf2 k3 kf3 k4 kf4 k5 kf5 k6 kf6 k7 kf7 k8 kf8
  have k0 : w6.cell? ⟨w.heap.size, 0, none⟩ = some (.int .i64 (l - n)) := obj_cell B6.out 0
  have k1 : w6.cell? ⟨w.heap.size, 1, none⟩ = some (.int .i64 (a - n)) := obj_cell B6.out 1
  have k2 : w6.cell? ⟨w.heap.size, 2, none⟩ = some (.int .i64 b) := obj_cell B6.out 2
  have k3 : w6.cell? ⟨w.heap.size, 3, none⟩ = some (.int .i64 c) := obj_cell B6.out 3
  have k4 : w6.cell? ⟨w.heap.size, 4, none⟩ = some (.int .i64 d) := obj_cell B6.out 4
  have k5 : w6.cell? ⟨w.heap.size, 5, none⟩ = some (.int .i64 (s + n)) := obj_cell B6.out 5
  have k6 : w6.cell? ⟨w.heap.size, 6, none⟩ = some (.int .i64 t) := obj_cell B6.out 6
  have k7 : w6.cell? ⟨w.heap.size, 7, none⟩ = some (.int .i64 u) := obj_cell B6.out 7
  have k8 : w6.cell? ⟨w.heap.size, 8, none⟩ = some (.int .i64 v) := obj_cell B6.out 8
  have kf0 := obj_free B6.out 0
  have kf1 := obj_free B6.out 1
  have kf2 := obj_free B6.out 2
  have kf3 := obj_free B6.out 3
  have kf4 := obj_free B6.out 4
  have kf5 := obj_free B6.out 5
  have kf6 := obj_free B6.out 6
  have kf7 := obj_free B6.out 7
  have kf8 := obj_free B6.out 8
  have z0 : w6.cell? ⟨w.heap.size + 1, 0, none⟩ = some (.int .i64 0) := obj_cell Z6.out 0
  have z1 : w6.cell? ⟨w.heap.size + 1, 1, none⟩ = some (.int .i64 0) := obj_cell Z6.out 1
  have z2 : w6.cell? ⟨w.heap.size + 1, 2, none⟩ = some (.int .i64 0) := obj_cell Z6.out 2
  have z3 : w6.cell? ⟨w.heap.size + 1, 3, none⟩ = some (.int .i64 0) := obj_cell Z6.out 3
  have z4 : w6.cell? ⟨w.heap.size + 1, 4, none⟩ = some (.int .i64 0) := obj_cell Z6.out 4
  have z5 : w6.cell? ⟨w.heap.size + 1, 5, none⟩ = some (.int .i64 0) := obj_cell Z6.out 5
  have z6 : w6.cell? ⟨w.heap.size + 1, 6, none⟩ = some (.int .i64 0) := obj_cell Z6.out 6
  have z7 : w6.cell? ⟨w.heap.size + 1, 7, none⟩ = some (.int .i64 0) := obj_cell Z6.out 7
  have z8 : w6.cell? ⟨w.heap.size + 1, 8, none⟩ = some (.int .i64 0) := obj_cell Z6.out 8
  have zf0 := obj_free Z6.out 0
  have zf1 := obj_free Z6.out 1
  have zf2 := obj_free Z6.out 2
  have zf3 := obj_free Z6.out 3
  have zf4 := obj_free Z6.out 4
  have zf5 := obj_free Z6.out 5
  have zf6 := obj_free Z6.out 6
  have zf7 := obj_free Z6.out 7
  have zf8 := obj_free Z6.out 8
  go_wp2
  refine bodyPost_ret (v := .tuple #[.agg #[.int .i64 (l - n), .int .i64 (a - n), .int .i64 b, .int .i64 c, .int .i64 d, .int .i64 (kp (s + n)), .int .i64 (kp t), .int .i64 (kp u), .int .i64 (kp v)], .int .i64 0]) (by simp [results, Try.results9, go_sem, z0, z1, z2, z3, z4, z5, z6, z7, z8]) rfl ⟨rfl, ?_⟩
  have hle : w.heap.size ≤ w.heap.size + 1 := by omega
  exact (((((((((((((F6.out.setNew _ (Nat.le_refl _) _).setNew _ (Nat.le_refl _) _).setNew _ (Nat.le_refl _) _).setNew _ (Nat.le_refl _) _).setNew _ hle _).setNew _ hle _).setNew _ hle _).setNew _ hle _).setNew _ hle _).setNew _ hle _).setNew _ hle _).setNew _ hle _).setNew _ hle _)

set_option maxRecDepth 100000 in
set_option maxHeartbeats 1000000 in
theorem spend_good1 (l a b c d s t u v n : Int) (h : Pu.ok ⟨l, ⟨a, b, c, d⟩, ⟨s, t, u, v⟩⟩) (h3 : 0 ≤ n) (h4 : ¬ may ⟨l, ⟨a, b, c, d⟩, ⟨s, t, u, v⟩⟩ 1 n < n) (w : World) :
    Calls Try.prog 9 #[.agg #[.int .i64 l, .int .i64 a, .int .i64 b, .int .i64 c, .int .i64 d, .int .i64 s, .int .i64 t, .int .i64 u, .int .i64 v], .int .i64 1, .int .i64 n] w fun e w' => e = .returned (.tuple #[.agg #[.int .i64 (l - n), .int .i64 a, .int .i64 (b - n), .int .i64 c, .int .i64 d, .int .i64 (kp s), .int .i64 (kp (t + n)), .int .i64 (kp u), .int .i64 (kp v)], .int .i64 0]) ∧ Fr nob w w' := by
  have h2 : strat 1 := by unfold strat; omega
  have hb1 : 0 ≤ l ∧ l ≤ 2147483647 := h.1
  have hb2 : 0 ≤ b ∧ b ≤ 2147483647 := h.2.1.2.1
  have hb3 : 0 ≤ t ∧ t ≤ 2147483647 := h.2.2.2.1
  have hb : n ≤ l ∧ n ≤ b := by
    unfold may at h4
    rw [if_pos ⟨h, h2⟩, show Q4.get ⟨a, b, c, d⟩ 1 = b by simp [Q4.get]] at h4
    simp only at h4
    omega
  have R := Lib.hid (fun w => right_any ⟨l, ⟨a, b, c, d⟩, ⟨s, t, u, v⟩⟩ w)
  rw [decide_eq_true h] at R
  have S := Lib.hid (fun w => strategy_any 1 w)
  rw [show decide ((0 : Int) ≤ 1 ∧ (1 : Int) < 4) = true from decide_eq_true h2] at S
  have M := Lib.hid (fun w => may_any ⟨l, ⟨a, b, c, d⟩, ⟨s, t, u, v⟩⟩ 1 n w)
  obtain ⟨m, hm⟩ : ∃ m, m = may ⟨l, ⟨a, b, c, d⟩, ⟨s, t, u, v⟩⟩ 1 n := ⟨_, rfl⟩
  rw [← hm] at M h4
  have h5 : n ≤ m := by omega
  clear h h2 hm h4
  unfold Pu.v at *
  simp only at *
  go_enter Try.func9, Try.ntmps9
  go_wp2_with (go_at_call 13; refine stop ?_)
  refine Stop.go ((R.out _).mono ?_)
  rintro e w1 ⟨rfl, f1⟩
  have B0 : Hid (w1.heap[w.heap.size]? = some (.cells #[.int .i64 l, .int .i64 a, .int .i64 b, .int .i64 c, .int .i64 d, .int .i64 s, .int .i64 t, .int .i64 u, .int .i64 v] 24 (0, 0))) := Lib.hid (f1.heap_some (obj_alloc (obj_new (w := w) rfl _) _) (fun x => x))
  have B1 : Hid (w1.heap[w.heap.size + 1]? = some (.cells #[.int .i64 0, .int .i64 0, .int .i64 0, .int .i64 0, .int .i64 0, .int .i64 0, .int .i64 0, .int .i64 0, .int .i64 0] 24 (0, 0))) := Lib.hid (f1.heap_some (obj_new (by simp) _) (fun x => x))
  have F := Lib.hid ((((Fr.refl nob w).alloc _).alloc _).trans f1 (U := nob) (fun _ _ x => x) (fun _ _ x => x))
  clear f1
  have k0 : w1.cell? ⟨w.heap.size, 0, none⟩ = some (.int .i64 l) := obj_cell B0.out 0
  have k1 : w1.cell? ⟨w.heap.size, 1, none⟩ = some (.int .i64 a) := obj_cell B0.out 1
  have k2 : w1.cell? ⟨w.heap.size, 2, none⟩ = some (.int .i64 b) := obj_cell B0.out 2
  have k3 : w1.cell? ⟨w.heap.size, 3, none⟩ = some (.int .i64 c) := obj_cell B0.out 3
  have k4 : w1.cell? ⟨w.heap.size, 4, none⟩ = some (.int .i64 d) := obj_cell B0.out 4
  have k5 : w1.cell? ⟨w.heap.size, 5, none⟩ = some (.int .i64 s) := obj_cell B0.out 5
  have k6 : w1.cell? ⟨w.heap.size, 6, none⟩ = some (.int .i64 t) := obj_cell B0.out 6
  have k7 : w1.cell? ⟨w.heap.size, 7, none⟩ = some (.int .i64 u) := obj_cell B0.out 7
  have k8 : w1.cell? ⟨w.heap.size, 8, none⟩ = some (.int .i64 v) := obj_cell B0.out 8
  go_wp2_with (go_at_call 18; refine stop ?_)
  refine Stop.go ((S.out _).mono ?_)
  rintro e w2 ⟨rfl, rfl⟩
  go_wp2_with (go_at_call 14; refine stop ?_)
  refine Stop.go ((M.out _).mono ?_)
  rintro e w3 ⟨rfl, f3⟩
  have B0' := Lib.hid (f3.heap_some B0.out (fun x => x))
  have B1' := Lib.hid (f3.heap_some B1.out (fun x => x))
  have F3 := Lib.hid (F.out.step f3)
  clear f3 k0 k1 k2 k3 k4 k5 k6 k7 k8 R S M
  have k0 : w3.cell? ⟨w.heap.size, 0, none⟩ = some (.int .i64 l) := obj_cell B0'.out 0
  have k1 : w3.cell? ⟨w.heap.size, 1, none⟩ = some (.int .i64 a) := obj_cell B0'.out 1
  have k2 : w3.cell? ⟨w.heap.size, 2, none⟩ = some (.int .i64 b) := obj_cell B0'.out 2
  have k3 : w3.cell? ⟨w.heap.size, 3, none⟩ = some (.int .i64 c) := obj_cell B0'.out 3
  have k4 : w3.cell? ⟨w.heap.size, 4, none⟩ = some (.int .i64 d) := obj_cell B0'.out 4
  have k5 : w3.cell? ⟨w.heap.size, 5, none⟩ = some (.int .i64 s) := obj_cell B0'.out 5
  have k6 : w3.cell? ⟨w.heap.size, 6, none⟩ = some (.int .i64 t) := obj_cell B0'.out 6
  have k7 : w3.cell? ⟨w.heap.size, 7, none⟩ = some (.int .i64 u) := obj_cell B0'.out 7
  have k8 : w3.cell? ⟨w.heap.size, 8, none⟩ = some (.int .i64 v) := obj_cell B0'.out 8
  have kf0 := obj_free B0'.out 0
  have kf1 := obj_free B0'.out 1
  have kf2 := obj_free B0'.out 2
  have kf3 := obj_free B0'.out 3
  have kf4 := obj_free B0'.out 4
  have kf5 := obj_free B0'.out 5
  have kf6 := obj_free B0'.out 6
  have kf7 := obj_free B0'.out 7
  have kf8 := obj_free B0'.out 8
  go_wp2_with (go_at_call 19; refine stop ?_)
  obtain ⟨w5, hw5⟩ : ∃ w5, w5 = ((w3.setCell ⟨w.heap.size, 0, none⟩ (.int .i64 (l - n))).setCell ⟨w.heap.size, 2, none⟩ (.int .i64 (b - n))).setCell ⟨w.heap.size, 6, none⟩ (.int .i64 (t + n)) := ⟨_, rfl⟩
  simp only [← hw5]
  have B5 : Hid (w5.heap[w.heap.size]? = some (.cells #[.int .i64 (l - n), .int .i64 a, .int .i64 (b - n), .int .i64 c, .int .i64 d, .int .i64 s, .int .i64 (t + n), .int .i64 u, .int .i64 v] 24 (0, 0))) := hw5 ▸ obj_set (obj_set (obj_set B0'.out 0 _) 2 _) 6 _
  have Z5 : Hid (w5.heap[w.heap.size + 1]? = some (.cells #[.int .i64 0, .int .i64 0, .int .i64 0, .int .i64 0, .int .i64 0, .int .i64 0, .int .i64 0, .int .i64 0, .int .i64 0] 24 (0, 0))) := hw5 ▸ obj_setNe (obj_setNe (obj_setNe B1'.out _ (by show ¬ w.heap.size + 1 = w.heap.size; omega) _) _ (by show ¬ w.heap.size + 1 = w.heap.size; omega) _) _ (by show ¬ w.heap.size + 1 = w.heap.size; omega) _
  have F5 : Hid (Fr nob w w5) := hw5 ▸ ((F3.out.setNew _ (Nat.le_refl _) _).setNew _ (Nat.le_refl _) _).setNew _ (Nat.le_refl _) _
  refine Stop.go ((kept_at _ _ _ _ w5).mono ?_)
  rintro e w6 ⟨rfl, f6⟩
  have B6 := Lib.hid (f6.heap_some B5.out (fun x => x))
  have Z6 := Lib.hid (f6.heap_some Z5.out (fun x => x))
  have F6 := Lib.hid (F5.out.step f6)
  clear hw5 f6 k0 kf0 k1 kf1 k2 kf2 k3 kf3 k4 kf4 k5 kf5 k6 kf6 k7 kf7 k8 kf8
  have k0 : w6.cell? ⟨w.heap.size, 0, none⟩ = some (.int .i64 (l - n)) := obj_cell B6.out 0
  have k1 : w6.cell? ⟨w.heap.size, 1, none⟩ = some (.int .i64 a) := obj_cell B6.out 1
  have k2 : w6.cell? ⟨w.heap.size, 2, none⟩ = some (.int .i64 (b - n)) := obj_cell B6.out 2
  have k3 : w6.cell? ⟨w.heap.size, 3, none⟩ = some (.int .i64 c) := obj_cell B6.out 3
  have k4 : w6.cell? ⟨w.heap.size, 4, none⟩ = some (.int .i64 d) := obj_cell B6.out 4
  have k5 : w6.cell? ⟨w.heap.size, 5, none⟩ = some (.int .i64 s) := obj_cell B6.out 5
  have k6 : w6.cell? ⟨w.heap.size, 6, none⟩ = some (.int .i64 (t + n)) := obj_cell B6.out 6
  have k7 : w6.cell? ⟨w.heap.size, 7, none⟩ = some (.int .i64 u) := obj_cell B6.out 7
  have k8 : w6.cell? ⟨w.heap.size, 8, none⟩ = some (.int .i64 v) := obj_cell B6.out 8
  have kf0 := obj_free B6.out 0
  have kf1 := obj_free B6.out 1
  have kf2 := obj_free B6.out 2
  have kf3 := obj_free B6.out 3
  have kf4 := obj_free B6.out 4
  have kf5 := obj_free B6.out 5
  have kf6 := obj_free B6.out 6
  have kf7 := obj_free B6.out 7
  have kf8 := obj_free B6.out 8
  have z0 : w6.cell? ⟨w.heap.size + 1, 0, none⟩ = some (.int .i64 0) := obj_cell Z6.out 0
  have z1 : w6.cell? ⟨w.heap.size + 1, 1, none⟩ = some (.int .i64 0) := obj_cell Z6.out 1
  have z2 : w6.cell? ⟨w.heap.size + 1, 2, none⟩ = some (.int .i64 0) := obj_cell Z6.out 2
  have z3 : w6.cell? ⟨w.heap.size + 1, 3, none⟩ = some (.int .i64 0) := obj_cell Z6.out 3
  have z4 : w6.cell? ⟨w.heap.size + 1, 4, none⟩ = some (.int .i64 0) := obj_cell Z6.out 4
  have z5 : w6.cell? ⟨w.heap.size + 1, 5, none⟩ = some (.int .i64 0) := obj_cell Z6.out 5
  have z6 : w6.cell? ⟨w.heap.size + 1, 6, none⟩ = some (.int .i64 0) := obj_cell Z6.out 6
  have z7 : w6.cell? ⟨w.heap.size + 1, 7, none⟩ = some (.int .i64 0) := obj_cell Z6.out 7
  have z8 : w6.cell? ⟨w.heap.size + 1, 8, none⟩ = some (.int .i64 0) := obj_cell Z6.out 8
  have zf0 := obj_free Z6.out 0
  have zf1 := obj_free Z6.out 1
  have zf2 := obj_free Z6.out 2
  have zf3 := obj_free Z6.out 3
  have zf4 := obj_free Z6.out 4
  have zf5 := obj_free Z6.out 5
  have zf6 := obj_free Z6.out 6
  have zf7 := obj_free Z6.out 7
  have zf8 := obj_free Z6.out 8
  go_wp2
  refine bodyPost_ret (v := .tuple #[.agg #[.int .i64 (l - n), .int .i64 a, .int .i64 (b - n), .int .i64 c, .int .i64 d, .int .i64 (kp s), .int .i64 (kp (t + n)), .int .i64 (kp u), .int .i64 (kp v)], .int .i64 0]) (by simp [results, Try.results9, go_sem, z0, z1, z2, z3, z4, z5, z6, z7, z8]) rfl ⟨rfl, ?_⟩
  have hle : w.heap.size ≤ w.heap.size + 1 := by omega
  exact (((((((((((((F6.out.setNew _ (Nat.le_refl _) _).setNew _ (Nat.le_refl _) _).setNew _ (Nat.le_refl _) _).setNew _ (Nat.le_refl _) _).setNew _ hle _).setNew _ hle _).setNew _ hle _).setNew _ hle _).setNew _ hle _).setNew _ hle _).setNew _ hle _).setNew _ hle _).setNew _ hle _)

set_option maxRecDepth 100000 in
set_option maxHeartbeats 1000000 in
theorem spend_good2 (l a b c d s t u v n : Int) (h : Pu.ok ⟨l, ⟨a, b, c, d⟩, ⟨s, t, u, v⟩⟩) (h3 : 0 ≤ n) (h4 : ¬ may ⟨l, ⟨a, b, c, d⟩, ⟨s, t, u, v⟩⟩ 2 n < n) (w : World) :
    Calls Try.prog 9 #[.agg #[.int .i64 l, .int .i64 a, .int .i64 b, .int .i64 c, .int .i64 d, .int .i64 s, .int .i64 t, .int .i64 u, .int .i64 v], .int .i64 2, .int .i64 n] w fun e w' => e = .returned (.tuple #[.agg #[.int .i64 (l - n), .int .i64 a, .int .i64 b, .int .i64 (c - n), .int .i64 d, .int .i64 (kp s), .int .i64 (kp t), .int .i64 (kp (u + n)), .int .i64 (kp v)], .int .i64 0]) ∧ Fr nob w w' := by
  have h2 : strat 2 := by unfold strat; omega
  have hb1 : 0 ≤ l ∧ l ≤ 2147483647 := h.1
  have hb2 : 0 ≤ c ∧ c ≤ 2147483647 := h.2.1.2.2.1
  have hb3 : 0 ≤ u ∧ u ≤ 2147483647 := h.2.2.2.2.1
  have hb : n ≤ l ∧ n ≤ c := by
    unfold may at h4
    rw [if_pos ⟨h, h2⟩, show Q4.get ⟨a, b, c, d⟩ 2 = c by simp [Q4.get]] at h4
    simp only at h4
    omega
  have R := Lib.hid (fun w => right_any ⟨l, ⟨a, b, c, d⟩, ⟨s, t, u, v⟩⟩ w)
  rw [decide_eq_true h] at R
  have S := Lib.hid (fun w => strategy_any 2 w)
  rw [show decide ((0 : Int) ≤ 2 ∧ (2 : Int) < 4) = true from decide_eq_true h2] at S
  have M := Lib.hid (fun w => may_any ⟨l, ⟨a, b, c, d⟩, ⟨s, t, u, v⟩⟩ 2 n w)
  obtain ⟨m, hm⟩ : ∃ m, m = may ⟨l, ⟨a, b, c, d⟩, ⟨s, t, u, v⟩⟩ 2 n := ⟨_, rfl⟩
  rw [← hm] at M h4
  have h5 : n ≤ m := by omega
  clear h h2 hm h4
  unfold Pu.v at *
  simp only at *
  go_enter Try.func9, Try.ntmps9
  go_wp2_with (go_at_call 13; refine stop ?_)
  refine Stop.go ((R.out _).mono ?_)
  rintro e w1 ⟨rfl, f1⟩
  have B0 : Hid (w1.heap[w.heap.size]? = some (.cells #[.int .i64 l, .int .i64 a, .int .i64 b, .int .i64 c, .int .i64 d, .int .i64 s, .int .i64 t, .int .i64 u, .int .i64 v] 24 (0, 0))) := Lib.hid (f1.heap_some (obj_alloc (obj_new (w := w) rfl _) _) (fun x => x))
  have B1 : Hid (w1.heap[w.heap.size + 1]? = some (.cells #[.int .i64 0, .int .i64 0, .int .i64 0, .int .i64 0, .int .i64 0, .int .i64 0, .int .i64 0, .int .i64 0, .int .i64 0] 24 (0, 0))) := Lib.hid (f1.heap_some (obj_new (by simp) _) (fun x => x))
  have F := Lib.hid ((((Fr.refl nob w).alloc _).alloc _).trans f1 (U := nob) (fun _ _ x => x) (fun _ _ x => x))
  clear f1
  have k0 : w1.cell? ⟨w.heap.size, 0, none⟩ = some (.int .i64 l) := obj_cell B0.out 0
  have k1 : w1.cell? ⟨w.heap.size, 1, none⟩ = some (.int .i64 a) := obj_cell B0.out 1
  have k2 : w1.cell? ⟨w.heap.size, 2, none⟩ = some (.int .i64 b) := obj_cell B0.out 2
  have k3 : w1.cell? ⟨w.heap.size, 3, none⟩ = some (.int .i64 c) := obj_cell B0.out 3
  have k4 : w1.cell? ⟨w.heap.size, 4, none⟩ = some (.int .i64 d) := obj_cell B0.out 4
  have k5 : w1.cell? ⟨w.heap.size, 5, none⟩ = some (.int .i64 s) := obj_cell B0.out 5
  have k6 : w1.cell? ⟨w.heap.size, 6, none⟩ = some (.int .i64 t) := obj_cell B0.out 6
  have k7 : w1.cell? ⟨w.heap.size, 7, none⟩ = some (.int .i64 u) := obj_cell B0.out 7
  have k8 : w1.cell? ⟨w.heap.size, 8, none⟩ = some (.int .i64 v) := obj_cell B0.out 8
  go_wp2_with (go_at_call 18; refine stop ?_)
  refine Stop.go ((S.out _).mono ?_)
  rintro e w2 ⟨rfl, rfl⟩
  go_wp2_with (go_at_call 14; refine stop ?_)
  refine Stop.go ((M.out _).mono ?_)
  rintro e w3 ⟨rfl, f3⟩
  have B0' := Lib.hid (f3.heap_some B0.out (fun x => x))
  have B1' := Lib.hid (f3.heap_some B1.out (fun x => x))
  have F3 := Lib.hid (F.out.step f3)
  clear f3 k0 k1 k2 k3 k4 k5 k6 k7 k8 R S M
  have k0 : w3.cell? ⟨w.heap.size, 0, none⟩ = some (.int .i64 l) := obj_cell B0'.out 0
  have k1 : w3.cell? ⟨w.heap.size, 1, none⟩ = some (.int .i64 a) := obj_cell B0'.out 1
  have k2 : w3.cell? ⟨w.heap.size, 2, none⟩ = some (.int .i64 b) := obj_cell B0'.out 2
  have k3 : w3.cell? ⟨w.heap.size, 3, none⟩ = some (.int .i64 c) := obj_cell B0'.out 3
  have k4 : w3.cell? ⟨w.heap.size, 4, none⟩ = some (.int .i64 d) := obj_cell B0'.out 4
  have k5 : w3.cell? ⟨w.heap.size, 5, none⟩ = some (.int .i64 s) := obj_cell B0'.out 5
  have k6 : w3.cell? ⟨w.heap.size, 6, none⟩ = some (.int .i64 t) := obj_cell B0'.out 6
  have k7 : w3.cell? ⟨w.heap.size, 7, none⟩ = some (.int .i64 u) := obj_cell B0'.out 7
  have k8 : w3.cell? ⟨w.heap.size, 8, none⟩ = some (.int .i64 v) := obj_cell B0'.out 8
  have kf0 := obj_free B0'.out 0
  have kf1 := obj_free B0'.out 1
  have kf2 := obj_free B0'.out 2
  have kf3 := obj_free B0'.out 3
  have kf4 := obj_free B0'.out 4
  have kf5 := obj_free B0'.out 5
  have kf6 := obj_free B0'.out 6
  have kf7 := obj_free B0'.out 7
  have kf8 := obj_free B0'.out 8
  go_wp2_with (go_at_call 19; refine stop ?_)
  obtain ⟨w5, hw5⟩ : ∃ w5, w5 = ((w3.setCell ⟨w.heap.size, 0, none⟩ (.int .i64 (l - n))).setCell ⟨w.heap.size, 3, none⟩ (.int .i64 (c - n))).setCell ⟨w.heap.size, 7, none⟩ (.int .i64 (u + n)) := ⟨_, rfl⟩
  simp only [← hw5]
  have B5 : Hid (w5.heap[w.heap.size]? = some (.cells #[.int .i64 (l - n), .int .i64 a, .int .i64 b, .int .i64 (c - n), .int .i64 d, .int .i64 s, .int .i64 t, .int .i64 (u + n), .int .i64 v] 24 (0, 0))) := hw5 ▸ obj_set (obj_set (obj_set B0'.out 0 _) 3 _) 7 _
  have Z5 : Hid (w5.heap[w.heap.size + 1]? = some (.cells #[.int .i64 0, .int .i64 0, .int .i64 0, .int .i64 0, .int .i64 0, .int .i64 0, .int .i64 0, .int .i64 0, .int .i64 0] 24 (0, 0))) := hw5 ▸ obj_setNe (obj_setNe (obj_setNe B1'.out _ (by show ¬ w.heap.size + 1 = w.heap.size; omega) _) _ (by show ¬ w.heap.size + 1 = w.heap.size; omega) _) _ (by show ¬ w.heap.size + 1 = w.heap.size; omega) _
  have F5 : Hid (Fr nob w w5) := hw5 ▸ ((F3.out.setNew _ (Nat.le_refl _) _).setNew _ (Nat.le_refl _) _).setNew _ (Nat.le_refl _) _
  refine Stop.go ((kept_at _ _ _ _ w5).mono ?_)
  rintro e w6 ⟨rfl, f6⟩
  have B6 := Lib.hid (f6.heap_some B5.out (fun x => x))
  have Z6 := Lib.hid (f6.heap_some Z5.out (fun x => x))
  have F6 := Lib.hid (F5.out.step f6)
  clear hw5 f6 k0 kf0 k1 kf1 k2 kf2 k3 kf3 k4 kf4 k5 kf5 k6 kf6 k7 kf7 k8 kf8
  have k0 : w6.cell? ⟨w.heap.size, 0, none⟩ = some (.int .i64 (l - n)) := obj_cell B6.out 0
  have k1 : w6.cell? ⟨w.heap.size, 1, none⟩ = some (.int .i64 a) := obj_cell B6.out 1
  have k2 : w6.cell? ⟨w.heap.size, 2, none⟩ = some (.int .i64 b) := obj_cell B6.out 2
  have k3 : w6.cell? ⟨w.heap.size, 3, none⟩ = some (.int .i64 (c - n)) := obj_cell B6.out 3
  have k4 : w6.cell? ⟨w.heap.size, 4, none⟩ = some (.int .i64 d) := obj_cell B6.out 4
  have k5 : w6.cell? ⟨w.heap.size, 5, none⟩ = some (.int .i64 s) := obj_cell B6.out 5
  have k6 : w6.cell? ⟨w.heap.size, 6, none⟩ = some (.int .i64 t) := obj_cell B6.out 6
  have k7 : w6.cell? ⟨w.heap.size, 7, none⟩ = some (.int .i64 (u + n)) := obj_cell B6.out 7
  have k8 : w6.cell? ⟨w.heap.size, 8, none⟩ = some (.int .i64 v) := obj_cell B6.out 8
  have kf0 := obj_free B6.out 0
  have kf1 := obj_free B6.out 1
  have kf2 := obj_free B6.out 2
  have kf3 := obj_free B6.out 3
  have kf4 := obj_free B6.out 4
  have kf5 := obj_free B6.out 5
  have kf6 := obj_free B6.out 6
  have kf7 := obj_free B6.out 7
  have kf8 := obj_free B6.out 8
  have z0 : w6.cell? ⟨w.heap.size + 1, 0, none⟩ = some (.int .i64 0) := obj_cell Z6.out 0
  have z1 : w6.cell? ⟨w.heap.size + 1, 1, none⟩ = some (.int .i64 0) := obj_cell Z6.out 1
  have z2 : w6.cell? ⟨w.heap.size + 1, 2, none⟩ = some (.int .i64 0) := obj_cell Z6.out 2
  have z3 : w6.cell? ⟨w.heap.size + 1, 3, none⟩ = some (.int .i64 0) := obj_cell Z6.out 3
  have z4 : w6.cell? ⟨w.heap.size + 1, 4, none⟩ = some (.int .i64 0) := obj_cell Z6.out 4
  have z5 : w6.cell? ⟨w.heap.size + 1, 5, none⟩ = some (.int .i64 0) := obj_cell Z6.out 5
  have z6 : w6.cell? ⟨w.heap.size + 1, 6, none⟩ = some (.int .i64 0) := obj_cell Z6.out 6
  have z7 : w6.cell? ⟨w.heap.size + 1, 7, none⟩ = some (.int .i64 0) := obj_cell Z6.out 7
  have z8 : w6.cell? ⟨w.heap.size + 1, 8, none⟩ = some (.int .i64 0) := obj_cell Z6.out 8
  have zf0 := obj_free Z6.out 0
  have zf1 := obj_free Z6.out 1
  have zf2 := obj_free Z6.out 2
  have zf3 := obj_free Z6.out 3
  have zf4 := obj_free Z6.out 4
  have zf5 := obj_free Z6.out 5
  have zf6 := obj_free Z6.out 6
  have zf7 := obj_free Z6.out 7
  have zf8 := obj_free Z6.out 8
  go_wp2
  refine bodyPost_ret (v := .tuple #[.agg #[.int .i64 (l - n), .int .i64 a, .int .i64 b, .int .i64 (c - n), .int .i64 d, .int .i64 (kp s), .int .i64 (kp t), .int .i64 (kp (u + n)), .int .i64 (kp v)], .int .i64 0]) (by simp [results, Try.results9, go_sem, z0, z1, z2, z3, z4, z5, z6, z7, z8]) rfl ⟨rfl, ?_⟩
  have hle : w.heap.size ≤ w.heap.size + 1 := by omega
  exact (((((((((((((F6.out.setNew _ (Nat.le_refl _) _).setNew _ (Nat.le_refl _) _).setNew _ (Nat.le_refl _) _).setNew _ (Nat.le_refl _) _).setNew _ hle _).setNew _ hle _).setNew _ hle _).setNew _ hle _).setNew _ hle _).setNew _ hle _).setNew _ hle _).setNew _ hle _).setNew _ hle _)

set_option maxRecDepth 100000 in
set_option maxHeartbeats 1000000 in
theorem spend_good3 (l a b c d s t u v n : Int) (h : Pu.ok ⟨l, ⟨a, b, c, d⟩, ⟨s, t, u, v⟩⟩) (h3 : 0 ≤ n) (h4 : ¬ may ⟨l, ⟨a, b, c, d⟩, ⟨s, t, u, v⟩⟩ 3 n < n) (w : World) :
    Calls Try.prog 9 #[.agg #[.int .i64 l, .int .i64 a, .int .i64 b, .int .i64 c, .int .i64 d, .int .i64 s, .int .i64 t, .int .i64 u, .int .i64 v], .int .i64 3, .int .i64 n] w fun e w' => e = .returned (.tuple #[.agg #[.int .i64 (l - n), .int .i64 a, .int .i64 b, .int .i64 c, .int .i64 (d - n), .int .i64 (kp s), .int .i64 (kp t), .int .i64 (kp u), .int .i64 (kp (v + n))], .int .i64 0]) ∧ Fr nob w w' := by
  have h2 : strat 3 := by unfold strat; omega
  have hb1 : 0 ≤ l ∧ l ≤ 2147483647 := h.1
  have hb2 : 0 ≤ d ∧ d ≤ 2147483647 := h.2.1.2.2.2
  have hb3 : 0 ≤ v ∧ v ≤ 2147483647 := h.2.2.2.2.2
  have hb : n ≤ l ∧ n ≤ d := by
    unfold may at h4
    rw [if_pos ⟨h, h2⟩, show Q4.get ⟨a, b, c, d⟩ 3 = d by simp [Q4.get]] at h4
    simp only at h4
    omega
  have R := Lib.hid (fun w => right_any ⟨l, ⟨a, b, c, d⟩, ⟨s, t, u, v⟩⟩ w)
  rw [decide_eq_true h] at R
  have S := Lib.hid (fun w => strategy_any 3 w)
  rw [show decide ((0 : Int) ≤ 3 ∧ (3 : Int) < 4) = true from decide_eq_true h2] at S
  have M := Lib.hid (fun w => may_any ⟨l, ⟨a, b, c, d⟩, ⟨s, t, u, v⟩⟩ 3 n w)
  obtain ⟨m, hm⟩ : ∃ m, m = may ⟨l, ⟨a, b, c, d⟩, ⟨s, t, u, v⟩⟩ 3 n := ⟨_, rfl⟩
  rw [← hm] at M h4
  have h5 : n ≤ m := by omega
  clear h h2 hm h4
  unfold Pu.v at *
  simp only at *
  go_enter Try.func9, Try.ntmps9
  go_wp2_with (go_at_call 13; refine stop ?_)
  refine Stop.go ((R.out _).mono ?_)
  rintro e w1 ⟨rfl, f1⟩
  have B0 : Hid (w1.heap[w.heap.size]? = some (.cells #[.int .i64 l, .int .i64 a, .int .i64 b, .int .i64 c, .int .i64 d, .int .i64 s, .int .i64 t, .int .i64 u, .int .i64 v] 24 (0, 0))) := Lib.hid (f1.heap_some (obj_alloc (obj_new (w := w) rfl _) _) (fun x => x))
  have B1 : Hid (w1.heap[w.heap.size + 1]? = some (.cells #[.int .i64 0, .int .i64 0, .int .i64 0, .int .i64 0, .int .i64 0, .int .i64 0, .int .i64 0, .int .i64 0, .int .i64 0] 24 (0, 0))) := Lib.hid (f1.heap_some (obj_new (by simp) _) (fun x => x))
  have F := Lib.hid ((((Fr.refl nob w).alloc _).alloc _).trans f1 (U := nob) (fun _ _ x => x) (fun _ _ x => x))
  clear f1
  have k0 : w1.cell? ⟨w.heap.size, 0, none⟩ = some (.int .i64 l) := obj_cell B0.out 0
  have k1 : w1.cell? ⟨w.heap.size, 1, none⟩ = some (.int .i64 a) := obj_cell B0.out 1
  have k2 : w1.cell? ⟨w.heap.size, 2, none⟩ = some (.int .i64 b) := obj_cell B0.out 2
  have k3 : w1.cell? ⟨w.heap.size, 3, none⟩ = some (.int .i64 c) := obj_cell B0.out 3
  have k4 : w1.cell? ⟨w.heap.size, 4, none⟩ = some (.int .i64 d) := obj_cell B0.out 4
  have k5 : w1.cell? ⟨w.heap.size, 5, none⟩ = some (.int .i64 s) := obj_cell B0.out 5
  have k6 : w1.cell? ⟨w.heap.size, 6, none⟩ = some (.int .i64 t) := obj_cell B0.out 6
  have k7 : w1.cell? ⟨w.heap.size, 7, none⟩ = some (.int .i64 u) := obj_cell B0.out 7
  have k8 : w1.cell? ⟨w.heap.size, 8, none⟩ = some (.int .i64 v) := obj_cell B0.out 8
  go_wp2_with (go_at_call 18; refine stop ?_)
  refine Stop.go ((S.out _).mono ?_)
  rintro e w2 ⟨rfl, rfl⟩
  go_wp2_with (go_at_call 14; refine stop ?_)
  refine Stop.go ((M.out _).mono ?_)
  rintro e w3 ⟨rfl, f3⟩
  have B0' := Lib.hid (f3.heap_some B0.out (fun x => x))
  have B1' := Lib.hid (f3.heap_some B1.out (fun x => x))
  have F3 := Lib.hid (F.out.step f3)
  clear f3 k0 k1 k2 k3 k4 k5 k6 k7 k8 R S M
  have k0 : w3.cell? ⟨w.heap.size, 0, none⟩ = some (.int .i64 l) := obj_cell B0'.out 0
  have k1 : w3.cell? ⟨w.heap.size, 1, none⟩ = some (.int .i64 a) := obj_cell B0'.out 1
  have k2 : w3.cell? ⟨w.heap.size, 2, none⟩ = some (.int .i64 b) := obj_cell B0'.out 2
  have k3 : w3.cell? ⟨w.heap.size, 3, none⟩ = some (.int .i64 c) := obj_cell B0'.out 3
  have k4 : w3.cell? ⟨w.heap.size, 4, none⟩ = some (.int .i64 d) := obj_cell B0'.out 4
  have k5 : w3.cell? ⟨w.heap.size, 5, none⟩ = some (.int .i64 s) := obj_cell B0'.out 5
  have k6 : w3.cell? ⟨w.heap.size, 6, none⟩ = some (.int .i64 t) := obj_cell B0'.out 6
  have k7 : w3.cell? ⟨w.heap.size, 7, none⟩ = some (.int .i64 u) := obj_cell B0'.out 7
  have k8 : w3.cell? ⟨w.heap.size, 8, none⟩ = some (.int .i64 v) := obj_cell B0'.out 8
  have kf0 := obj_free B0'.out 0
  have kf1 := obj_free B0'.out 1
  have kf2 := obj_free B0'.out 2
  have kf3 := obj_free B0'.out 3
  have kf4 := obj_free B0'.out 4
  have kf5 := obj_free B0'.out 5
  have kf6 := obj_free B0'.out 6
  have kf7 := obj_free B0'.out 7
  have kf8 := obj_free B0'.out 8
  go_wp2_with (go_at_call 19; refine stop ?_)
  obtain ⟨w5, hw5⟩ : ∃ w5, w5 = ((w3.setCell ⟨w.heap.size, 0, none⟩ (.int .i64 (l - n))).setCell ⟨w.heap.size, 4, none⟩ (.int .i64 (d - n))).setCell ⟨w.heap.size, 8, none⟩ (.int .i64 (v + n)) := ⟨_, rfl⟩
  simp only [← hw5]
  have B5 : Hid (w5.heap[w.heap.size]? = some (.cells #[.int .i64 (l - n), .int .i64 a, .int .i64 b, .int .i64 c, .int .i64 (d - n), .int .i64 s, .int .i64 t, .int .i64 u, .int .i64 (v + n)] 24 (0, 0))) := hw5 ▸ obj_set (obj_set (obj_set B0'.out 0 _) 4 _) 8 _
  have Z5 : Hid (w5.heap[w.heap.size + 1]? = some (.cells #[.int .i64 0, .int .i64 0, .int .i64 0, .int .i64 0, .int .i64 0, .int .i64 0, .int .i64 0, .int .i64 0, .int .i64 0] 24 (0, 0))) := hw5 ▸ obj_setNe (obj_setNe (obj_setNe B1'.out _ (by show ¬ w.heap.size + 1 = w.heap.size; omega) _) _ (by show ¬ w.heap.size + 1 = w.heap.size; omega) _) _ (by show ¬ w.heap.size + 1 = w.heap.size; omega) _
  have F5 : Hid (Fr nob w w5) := hw5 ▸ ((F3.out.setNew _ (Nat.le_refl _) _).setNew _ (Nat.le_refl _) _).setNew _ (Nat.le_refl _) _
  refine Stop.go ((kept_at _ _ _ _ w5).mono ?_)
  rintro e w6 ⟨rfl, f6⟩
  have B6 := Lib.hid (f6.heap_some B5.out (fun x => x))
  have Z6 := Lib.hid (f6.heap_some Z5.out (fun x => x))
  have F6 := Lib.hid (F5.out.step f6)
  clear hw5 f6 k0 kf0 k1 kf1 k2 kf2 k3 kf3 k4 kf4 k5 kf5 k6 kf6 k7 kf7 k8 kf8
  have k0 : w6.cell? ⟨w.heap.size, 0, none⟩ = some (.int .i64 (l - n)) := obj_cell B6.out 0
  have k1 : w6.cell? ⟨w.heap.size, 1, none⟩ = some (.int .i64 a) := obj_cell B6.out 1
  have k2 : w6.cell? ⟨w.heap.size, 2, none⟩ = some (.int .i64 b) := obj_cell B6.out 2
  have k3 : w6.cell? ⟨w.heap.size, 3, none⟩ = some (.int .i64 c) := obj_cell B6.out 3
  have k4 : w6.cell? ⟨w.heap.size, 4, none⟩ = some (.int .i64 (d - n)) := obj_cell B6.out 4
  have k5 : w6.cell? ⟨w.heap.size, 5, none⟩ = some (.int .i64 s) := obj_cell B6.out 5
  have k6 : w6.cell? ⟨w.heap.size, 6, none⟩ = some (.int .i64 t) := obj_cell B6.out 6
  have k7 : w6.cell? ⟨w.heap.size, 7, none⟩ = some (.int .i64 u) := obj_cell B6.out 7
  have k8 : w6.cell? ⟨w.heap.size, 8, none⟩ = some (.int .i64 (v + n)) := obj_cell B6.out 8
  have kf0 := obj_free B6.out 0
  have kf1 := obj_free B6.out 1
  have kf2 := obj_free B6.out 2
  have kf3 := obj_free B6.out 3
  have kf4 := obj_free B6.out 4
  have kf5 := obj_free B6.out 5
  have kf6 := obj_free B6.out 6
  have kf7 := obj_free B6.out 7
  have kf8 := obj_free B6.out 8
  have z0 : w6.cell? ⟨w.heap.size + 1, 0, none⟩ = some (.int .i64 0) := obj_cell Z6.out 0
  have z1 : w6.cell? ⟨w.heap.size + 1, 1, none⟩ = some (.int .i64 0) := obj_cell Z6.out 1
  have z2 : w6.cell? ⟨w.heap.size + 1, 2, none⟩ = some (.int .i64 0) := obj_cell Z6.out 2
  have z3 : w6.cell? ⟨w.heap.size + 1, 3, none⟩ = some (.int .i64 0) := obj_cell Z6.out 3
  have z4 : w6.cell? ⟨w.heap.size + 1, 4, none⟩ = some (.int .i64 0) := obj_cell Z6.out 4
  have z5 : w6.cell? ⟨w.heap.size + 1, 5, none⟩ = some (.int .i64 0) := obj_cell Z6.out 5
  have z6 : w6.cell? ⟨w.heap.size + 1, 6, none⟩ = some (.int .i64 0) := obj_cell Z6.out 6
  have z7 : w6.cell? ⟨w.heap.size + 1, 7, none⟩ = some (.int .i64 0) := obj_cell Z6.out 7
  have z8 : w6.cell? ⟨w.heap.size + 1, 8, none⟩ = some (.int .i64 0) := obj_cell Z6.out 8
  have zf0 := obj_free Z6.out 0
  have zf1 := obj_free Z6.out 1
  have zf2 := obj_free Z6.out 2
  have zf3 := obj_free Z6.out 3
  have zf4 := obj_free Z6.out 4
  have zf5 := obj_free Z6.out 5
  have zf6 := obj_free Z6.out 6
  have zf7 := obj_free Z6.out 7
  have zf8 := obj_free Z6.out 8
  go_wp2
  refine bodyPost_ret (v := .tuple #[.agg #[.int .i64 (l - n), .int .i64 a, .int .i64 b, .int .i64 c, .int .i64 (d - n), .int .i64 (kp s), .int .i64 (kp t), .int .i64 (kp u), .int .i64 (kp (v + n))], .int .i64 0]) (by simp [results, Try.results9, go_sem, z0, z1, z2, z3, z4, z5, z6, z7, z8]) rfl ⟨rfl, ?_⟩
  have hle : w.heap.size ≤ w.heap.size + 1 := by omega
  exact (((((((((((((F6.out.setNew _ (Nat.le_refl _) _).setNew _ (Nat.le_refl _) _).setNew _ (Nat.le_refl _) _).setNew _ (Nat.le_refl _) _).setNew _ hle _).setNew _ hle _).setNew _ hle _).setNew _ hle _).setNew _ hle _).setNew _ hle _).setNew _ hle _).setNew _ hle _).setNew _ hle _)

theorem spend_any (p : Pu) (who n : Int) (w : World) : Calls Try.prog 9 #[p.v, .int .i64 who, .int .i64 n] w fun e w' => e = .returned (.tuple #[(spend p who n).1.v, .int .i64 (spend p who n).2]) ∧ Fr nob w w' := by
  unfold spend
  by_cases h : p.ok
  · by_cases h2 : strat who
    · by_cases h3 : 0 ≤ n
      · rw [if_neg (fun x => x ⟨h, h2, h3⟩)]
        by_cases h4 : may p who n < n
        · rw [if_pos h4]; exact spend_full p who n h h2 h3 h4 w
        · rw [if_neg h4]
          obtain ⟨l, ⟨a, b, c, d⟩, ⟨s, t, u, v⟩⟩ := p
          obtain rfl | rfl | rfl | rfl : who = 0 ∨ who = 1 ∨ who = 2 ∨ who = 3 := by unfold strat at h2; omega
          · exact spend_good0 l a b c d s t u v n h h3 h4 w
          · exact spend_good1 l a b c d s t u v n h h3 h4 w
          · exact spend_good2 l a b c d s t u v n h h3 h4 w
          · exact spend_good3 l a b c d s t u v n h h3 h4 w
      · rw [if_pos (fun x => h3 x.2.2)]; exact spend_neg p who n h h2 (by omega) w
    · rw [if_pos (fun x => h2 x.2.1)]; exact spend_who p who n h h2 w
  · rw [if_pos (fun x => h x.1)]; exact spend_bad p who n h w

end Go.Proofs.Ytdlbihndghofcaa
