/- The reference's purse: Spend. -/
import Derived.Test.YtdlbihndghofcaaRef
namespace Go.Proofs.Ytdlbihndghofcaa
open Go.RowKit
set_option linter.unusedVariables false

set_option maxRecDepth 100000 in
set_option maxHeartbeats 1000000 in
theorem rspend_bad (p : Pu) (who n : Int) (h : ¬ (p.ok ∧ strat who ∧ 0 ≤ n)) (w : World) : Calls Try.prog 10 #[p.v, .int .i64 who, .int .i64 n] w fun e w' => e = .returned (.tuple #[zero.v, .int .i64 1]) ∧ Fr nob w w' := by
  have R := Lib.hid (fun w => rright_any p w)
  obtain ⟨r, hr⟩ : ∃ r, r = decide p.ok := ⟨_, rfl⟩
  rw [← hr] at R
  have key : Hid (r = false ∨ who < 0 ∨ 3 < who ∨ n < 0) := by
    show _ ∨ _
    by_cases h1 : p.ok
    · right; unfold strat at h; have : ¬ ((0 ≤ who ∧ who < 4) ∧ 0 ≤ n) := fun x => h ⟨h1, x.1, x.2⟩
      omega
    · left; rw [hr]; exact decide_eq_false h1
  clear h hr
  obtain ⟨l, ⟨a, b, c, d⟩, ⟨s, t, u, v⟩⟩ := p
  unfold Pu.v zero at *
  simp only at *
  go_enter Try.func10, Try.ntmps10
  go_wp2_with (go_at_call 12; refine stop ?_)
  refine Stop.go ((R.out _).mono ?_)
  rintro e w1 ⟨rfl, f1⟩
  have B0 : Hid (w1.heap[w.heap.size]? = some (.cells #[.int .i64 l, .int .i64 a, .int .i64 b, .int .i64 c, .int .i64 d, .int .i64 s, .int .i64 t, .int .i64 u, .int .i64 v] 26 (0, 0))) := Lib.hid (f1.heap_some (obj_alloc (obj_new (w := w) rfl _) _) (fun x => x))
  have B1 : Hid (w1.heap[w.heap.size + 1]? = some (.cells #[.int .i64 0, .int .i64 0, .int .i64 0, .int .i64 0, .int .i64 0, .int .i64 0, .int .i64 0, .int .i64 0, .int .i64 0] 26 (0, 0))) := Lib.hid (f1.heap_some (obj_new (by simp) _) (fun x => x))
  have F := Lib.hid ((((Fr.refl nob w).alloc _).alloc _).trans f1 (U := nob) (fun _ _ x => x) (fun _ _ x => x))
  clear f1
  have z0 : w1.cell? ⟨w.heap.size + 1, 0, none⟩ = some (.int .i64 0) := obj_cell B1.out 0
  have z1 : w1.cell? ⟨w.heap.size + 1, 1, none⟩ = some (.int .i64 0) := obj_cell B1.out 1
  have z2 : w1.cell? ⟨w.heap.size + 1, 2, none⟩ = some (.int .i64 0) := obj_cell B1.out 2
  have z3 : w1.cell? ⟨w.heap.size + 1, 3, none⟩ = some (.int .i64 0) := obj_cell B1.out 3
  have z4 : w1.cell? ⟨w.heap.size + 1, 4, none⟩ = some (.int .i64 0) := obj_cell B1.out 4
  have z5 : w1.cell? ⟨w.heap.size + 1, 5, none⟩ = some (.int .i64 0) := obj_cell B1.out 5
  have z6 : w1.cell? ⟨w.heap.size + 1, 6, none⟩ = some (.int .i64 0) := obj_cell B1.out 6
  have z7 : w1.cell? ⟨w.heap.size + 1, 7, none⟩ = some (.int .i64 0) := obj_cell B1.out 7
  have z8 : w1.cell? ⟨w.heap.size + 1, 8, none⟩ = some (.int .i64 0) := obj_cell B1.out 8
  have zf0 := obj_free B1.out 0
  have zf1 := obj_free B1.out 1
  have zf2 := obj_free B1.out 2
  have zf3 := obj_free B1.out 3
  have zf4 := obj_free B1.out 4
  have zf5 := obj_free B1.out 5
  have zf6 := obj_free B1.out 6
  have zf7 := obj_free B1.out 7
  have zf8 := obj_free B1.out 8
  cases r
  · go_wp2
    refine bodyPost_ret (v := .tuple #[.agg #[.int .i64 0, .int .i64 0, .int .i64 0, .int .i64 0, .int .i64 0, .int .i64 0, .int .i64 0, .int .i64 0, .int .i64 0], .int .i64 1]) (by simp [results, Try.results10, go_sem, z0, z1, z2, z3, z4, z5, z6, z7, z8]) rfl ⟨rfl, ?_⟩
    have hle : w.heap.size ≤ w.heap.size + 1 := by omega
    exact (((((((((F.out.setNew _ hle _).setNew _ hle _).setNew _ hle _).setNew _ hle _).setNew _ hle _).setNew _ hle _).setNew _ hle _).setNew _ hle _).setNew _ hle _)
  · have K := key.out.resolve_left (by simp)
    by_cases h1 : who < 0
    · go_wp2
      refine bodyPost_ret (v := .tuple #[.agg #[.int .i64 0, .int .i64 0, .int .i64 0, .int .i64 0, .int .i64 0, .int .i64 0, .int .i64 0, .int .i64 0, .int .i64 0], .int .i64 1]) (by simp [results, Try.results10, go_sem, z0, z1, z2, z3, z4, z5, z6, z7, z8]) rfl ⟨rfl, ?_⟩
      have hle : w.heap.size ≤ w.heap.size + 1 := by omega
      exact (((((((((F.out.setNew _ hle _).setNew _ hle _).setNew _ hle _).setNew _ hle _).setNew _ hle _).setNew _ hle _).setNew _ hle _).setNew _ hle _).setNew _ hle _)
    · have d1 : decide (who < 0) = false := decide_eq_false h1
      by_cases h2 : 3 < who
      · go_wp2
        refine bodyPost_ret (v := .tuple #[.agg #[.int .i64 0, .int .i64 0, .int .i64 0, .int .i64 0, .int .i64 0, .int .i64 0, .int .i64 0, .int .i64 0, .int .i64 0], .int .i64 1]) (by simp [results, Try.results10, go_sem, z0, z1, z2, z3, z4, z5, z6, z7, z8]) rfl ⟨rfl, ?_⟩
        have hle : w.heap.size ≤ w.heap.size + 1 := by omega
        exact (((((((((F.out.setNew _ hle _).setNew _ hle _).setNew _ hle _).setNew _ hle _).setNew _ hle _).setNew _ hle _).setNew _ hle _).setNew _ hle _).setNew _ hle _)
      · have d2 : decide (3 < who) = false := decide_eq_false h2
        have h3 : n < 0 := by omega
        go_wp2
        refine bodyPost_ret (v := .tuple #[.agg #[.int .i64 0, .int .i64 0, .int .i64 0, .int .i64 0, .int .i64 0, .int .i64 0, .int .i64 0, .int .i64 0, .int .i64 0], .int .i64 1]) (by simp [results, Try.results10, go_sem, z0, z1, z2, z3, z4, z5, z6, z7, z8]) rfl ⟨rfl, ?_⟩
        have hle : w.heap.size ≤ w.heap.size + 1 := by omega
        exact (((((((((F.out.setNew _ hle _).setNew _ hle _).setNew _ hle _).setNew _ hle _).setNew _ hle _).setNew _ hle _).setNew _ hle _).setNew _ hle _).setNew _ hle _)

set_option maxRecDepth 100000 in
set_option maxHeartbeats 1000000 in
theorem rspend_full (p : Pu) (who n : Int) (h : p.ok) (h2 : strat who) (h3 : 0 ≤ n) (h4 : may p who n < n) (w : World) : Calls Try.prog 10 #[p.v, .int .i64 who, .int .i64 n] w fun e w' => e = .returned (.tuple #[zero.v, .int .i64 15]) ∧ Fr nob w w' := by
  have R := Lib.hid (fun w => rright_any p w)
  rw [decide_eq_true h] at R
  have M := Lib.hid (fun w => rmay_any p who n w)
  obtain ⟨m, hm⟩ : ∃ m, m = may p who n := ⟨_, rfl⟩
  rw [← hm] at M h4
  unfold strat at h2
  have d1 : decide (who < 0) = false := decide_eq_false (by omega)
  have d2 : decide (3 < who) = false := decide_eq_false (by omega)
  have d3 : decide (n < 0) = false := decide_eq_false (by omega)
  clear h hm h2 h3
  obtain ⟨l, ⟨a, b, c, d⟩, ⟨s, t, u, v⟩⟩ := p
  unfold Pu.v zero at *
  simp only at *
  go_enter Try.func10, Try.ntmps10
  go_wp2_with (go_at_call 12; refine stop ?_)
  refine Stop.go ((R.out _).mono ?_)
  rintro e w1 ⟨rfl, f1⟩
  have B0 : Hid (w1.heap[w.heap.size]? = some (.cells #[.int .i64 l, .int .i64 a, .int .i64 b, .int .i64 c, .int .i64 d, .int .i64 s, .int .i64 t, .int .i64 u, .int .i64 v] 26 (0, 0))) := Lib.hid (f1.heap_some (obj_alloc (obj_new (w := w) rfl _) _) (fun x => x))
  have B1 : Hid (w1.heap[w.heap.size + 1]? = some (.cells #[.int .i64 0, .int .i64 0, .int .i64 0, .int .i64 0, .int .i64 0, .int .i64 0, .int .i64 0, .int .i64 0, .int .i64 0] 26 (0, 0))) := Lib.hid (f1.heap_some (obj_new (by simp) _) (fun x => x))
  have F := Lib.hid ((((Fr.refl nob w).alloc _).alloc _).trans f1 (U := nob) (fun _ _ x => x) (fun _ _ x => x))
  clear f1
  have k0 : w1.cell? ⟨w.heap.size, 0, none⟩ = some (.int .i64 l) := obj_cell B0.out 0
  have k1 : w1.cell? ⟨w.heap.size, 1, none⟩ = some (.int .i64 a) := obj_cell B0.out 1
  have k2 : w1.cell? ⟨w.heap.size, 2, none⟩ = some (.int .i64 b) := obj_cell B0.out 2
  have k3 : w1.cell? ⟨w.heap.size, 3, none⟩ = some (.int .i64 c) := obj_cell B0.out 3
  have k4 : w1.cell? ⟨w.heap.size, 4, none⟩ = some (.int .i64 d) := obj_cell B0.out 4
  have k5 : w1.cell? ⟨w.heap.size, 5, none⟩ = some (.int .i64 s) := obj_cell B0.out 5
  have k6 : w1.cell? ⟨w.heap.size, 6, none⟩ = some (.int .i64 t) := obj_cell B0.out 6
  have k7 : w1.cell? ⟨w.heap.size, 7, none⟩ = some (.int .i64 u) := obj_cell B0.out 7
  have k8 : w1.cell? ⟨w.heap.size, 8, none⟩ = some (.int .i64 v) := obj_cell B0.out 8
  go_wp2_with (go_at_call 15; refine stop ?_)
  refine Stop.go ((M.out _).mono ?_)
  rintro e w3 ⟨rfl, f3⟩
  have B0' := Lib.hid (f3.heap_some B0.out (fun x => x))
  have B1' := Lib.hid (f3.heap_some B1.out (fun x => x))
  have F3 := Lib.hid (F.out.step f3)
  clear f3 k0 k1 k2 k3 k4 k5 k6 k7 k8
  have z0 : w3.cell? ⟨w.heap.size + 1, 0, none⟩ = some (.int .i64 0) := obj_cell B1'.out 0
  have z1 : w3.cell? ⟨w.heap.size + 1, 1, none⟩ = some (.int .i64 0) := obj_cell B1'.out 1
  have z2 : w3.cell? ⟨w.heap.size + 1, 2, none⟩ = some (.int .i64 0) := obj_cell B1'.out 2
  have z3 : w3.cell? ⟨w.heap.size + 1, 3, none⟩ = some (.int .i64 0) := obj_cell B1'.out 3
  have z4 : w3.cell? ⟨w.heap.size + 1, 4, none⟩ = some (.int .i64 0) := obj_cell B1'.out 4
  have z5 : w3.cell? ⟨w.heap.size + 1, 5, none⟩ = some (.int .i64 0) := obj_cell B1'.out 5
  have z6 : w3.cell? ⟨w.heap.size + 1, 6, none⟩ = some (.int .i64 0) := obj_cell B1'.out 6
  have z7 : w3.cell? ⟨w.heap.size + 1, 7, none⟩ = some (.int .i64 0) := obj_cell B1'.out 7
  have z8 : w3.cell? ⟨w.heap.size + 1, 8, none⟩ = some (.int .i64 0) := obj_cell B1'.out 8
  have zf0 := obj_free B1'.out 0
  have zf1 := obj_free B1'.out 1
  have zf2 := obj_free B1'.out 2
  have zf3 := obj_free B1'.out 3
  have zf4 := obj_free B1'.out 4
  have zf5 := obj_free B1'.out 5
  have zf6 := obj_free B1'.out 6
  have zf7 := obj_free B1'.out 7
  have zf8 := obj_free B1'.out 8
  go_wp2
  refine bodyPost_ret (v := .tuple #[.agg #[.int .i64 0, .int .i64 0, .int .i64 0, .int .i64 0, .int .i64 0, .int .i64 0, .int .i64 0, .int .i64 0, .int .i64 0], .int .i64 15]) (by simp [results, Try.results10, go_sem, z0, z1, z2, z3, z4, z5, z6, z7, z8]) rfl ⟨rfl, ?_⟩
  have hle : w.heap.size ≤ w.heap.size + 1 := by omega
  exact (((((((((F3.out.setNew _ hle _).setNew _ hle _).setNew _ hle _).setNew _ hle _).setNew _ hle _).setNew _ hle _).setNew _ hle _).setNew _ hle _).setNew _ hle _)

set_option maxRecDepth 100000 in
set_option maxHeartbeats 1000000 in
theorem rspend_good0 (l a b c d s t u v n m9 : Int) (h : Pu.ok ⟨l, ⟨a, b, c, d⟩, ⟨s, t, u, v⟩⟩) (h3 : 0 ≤ n) (h4 : ¬ may ⟨l, ⟨a, b, c, d⟩, ⟨s, t, u, v⟩⟩ 0 n < n) (h9 : m9 = kp (s + n)) (w : World) :
    Calls Try.prog 10 #[.agg #[.int .i64 l, .int .i64 a, .int .i64 b, .int .i64 c, .int .i64 d, .int .i64 s, .int .i64 t, .int .i64 u, .int .i64 v], .int .i64 0, .int .i64 n] w fun e w' => e = .returned (.tuple #[.agg #[.int .i64 (l - n), .int .i64 (a - n), .int .i64 b, .int .i64 c, .int .i64 d, .int .i64 m9, .int .i64 t, .int .i64 u, .int .i64 v], .int .i64 0]) ∧ Fr nob w w' := by
  have h2 : strat 0 := by unfold strat; omega
  have hb1 : 0 ≤ l ∧ l ≤ 2147483647 := h.1
  have hb2 : 0 ≤ a ∧ a ≤ 2147483647 := h.2.1.1
  have hb3 : 0 ≤ s ∧ s ≤ 2147483647 := h.2.2.1
  have hb : n ≤ l ∧ n ≤ a := by
    unfold may at h4
    rw [if_pos ⟨h, h2⟩, show Q4.get ⟨a, b, c, d⟩ 0 = a by simp [Q4.get]] at h4
    simp only at h4
    omega
  have H9 : Hid (m9 = min (s + n) 2147483647) := by
    show m9 = _
    rw [h9]; unfold kp; omega
  have R := Lib.hid (fun w => rright_any ⟨l, ⟨a, b, c, d⟩, ⟨s, t, u, v⟩⟩ w)
  rw [decide_eq_true h] at R
  have M := Lib.hid (fun w => rmay_any ⟨l, ⟨a, b, c, d⟩, ⟨s, t, u, v⟩⟩ 0 n w)
  obtain ⟨m, hm⟩ : ∃ m, m = may ⟨l, ⟨a, b, c, d⟩, ⟨s, t, u, v⟩⟩ 0 n := ⟨_, rfl⟩
  rw [← hm] at M h4
  have h5 : n ≤ m := by omega
  have d3 : decide (n < 0) = false := decide_eq_false (by omega)
  clear h h2 hm h4 h9
  unfold Pu.v at *
  simp only at *
  go_enter Try.func10, Try.ntmps10
  go_wp2_with (go_at_call 12; refine stop ?_)
  refine Stop.go ((R.out _).mono ?_)
  rintro e w1 ⟨rfl, f1⟩
  have B0 : Hid (w1.heap[w.heap.size]? = some (.cells #[.int .i64 l, .int .i64 a, .int .i64 b, .int .i64 c, .int .i64 d, .int .i64 s, .int .i64 t, .int .i64 u, .int .i64 v] 26 (0, 0))) := Lib.hid (f1.heap_some (obj_alloc (obj_new (w := w) rfl _) _) (fun x => x))
  have B1 : Hid (w1.heap[w.heap.size + 1]? = some (.cells #[.int .i64 0, .int .i64 0, .int .i64 0, .int .i64 0, .int .i64 0, .int .i64 0, .int .i64 0, .int .i64 0, .int .i64 0] 26 (0, 0))) := Lib.hid (f1.heap_some (obj_new (by simp) _) (fun x => x))
  have F := Lib.hid ((((Fr.refl nob w).alloc _).alloc _).trans f1 (U := nob) (fun _ _ x => x) (fun _ _ x => x))
  clear f1
  have k0 : w1.cell? ⟨w.heap.size, 0, none⟩ = some (.int .i64 l) := obj_cell B0.out 0
  have k1 : w1.cell? ⟨w.heap.size, 1, none⟩ = some (.int .i64 a) := obj_cell B0.out 1
  have k2 : w1.cell? ⟨w.heap.size, 2, none⟩ = some (.int .i64 b) := obj_cell B0.out 2
  have k3 : w1.cell? ⟨w.heap.size, 3, none⟩ = some (.int .i64 c) := obj_cell B0.out 3
  have k4 : w1.cell? ⟨w.heap.size, 4, none⟩ = some (.int .i64 d) := obj_cell B0.out 4
  have k5 : w1.cell? ⟨w.heap.size, 5, none⟩ = some (.int .i64 s) := obj_cell B0.out 5
  have k6 : w1.cell? ⟨w.heap.size, 6, none⟩ = some (.int .i64 t) := obj_cell B0.out 6
  have k7 : w1.cell? ⟨w.heap.size, 7, none⟩ = some (.int .i64 u) := obj_cell B0.out 7
  have k8 : w1.cell? ⟨w.heap.size, 8, none⟩ = some (.int .i64 v) := obj_cell B0.out 8
  go_wp2_with (go_at_call 15; refine stop ?_)
  refine Stop.go ((M.out _).mono ?_)
  rintro e w3 ⟨rfl, f3⟩
  have B0' := Lib.hid (f3.heap_some B0.out (fun x => x))
  have B1' := Lib.hid (f3.heap_some B1.out (fun x => x))
  have F3 := Lib.hid (F.out.step f3)
  clear f3 d3 k0 k1 k2 k3 k4 k5 k6 k7 k8 R M
  have k0 : w3.cell? ⟨w.heap.size, 0, none⟩ = some (.int .i64 l) := obj_cell B0'.out 0
  have k1 : w3.cell? ⟨w.heap.size, 1, none⟩ = some (.int .i64 a) := obj_cell B0'.out 1
  have k2 : w3.cell? ⟨w.heap.size, 2, none⟩ = some (.int .i64 b) := obj_cell B0'.out 2
  have k3 : w3.cell? ⟨w.heap.size, 3, none⟩ = some (.int .i64 c) := obj_cell B0'.out 3
  have k4 : w3.cell? ⟨w.heap.size, 4, none⟩ = some (.int .i64 d) := obj_cell B0'.out 4
  have k5 : w3.cell? ⟨w.heap.size, 5, none⟩ = some (.int .i64 s) := obj_cell B0'.out 5
  have k6 : w3.cell? ⟨w.heap.size, 6, none⟩ = some (.int .i64 t) := obj_cell B0'.out 6
  have k7 : w3.cell? ⟨w.heap.size, 7, none⟩ = some (.int .i64 u) := obj_cell B0'.out 7
  have k8 : w3.cell? ⟨w.heap.size, 8, none⟩ = some (.int .i64 v) := obj_cell B0'.out 8
  have kf0 := obj_free B0'.out 0
  have kf1 := obj_free B0'.out 1
  have kf2 := obj_free B0'.out 2
  have kf3 := obj_free B0'.out 3
  have kf4 := obj_free B0'.out 4
  have kf5 := obj_free B0'.out 5
  have kf6 := obj_free B0'.out 6
  have kf7 := obj_free B0'.out 7
  have kf8 := obj_free B0'.out 8
  have z0 : w3.cell? ⟨w.heap.size + 1, 0, none⟩ = some (.int .i64 0) := obj_cell B1'.out 0
  have z1 : w3.cell? ⟨w.heap.size + 1, 1, none⟩ = some (.int .i64 0) := obj_cell B1'.out 1
  have z2 : w3.cell? ⟨w.heap.size + 1, 2, none⟩ = some (.int .i64 0) := obj_cell B1'.out 2
  have z3 : w3.cell? ⟨w.heap.size + 1, 3, none⟩ = some (.int .i64 0) := obj_cell B1'.out 3
  have z4 : w3.cell? ⟨w.heap.size + 1, 4, none⟩ = some (.int .i64 0) := obj_cell B1'.out 4
  have z5 : w3.cell? ⟨w.heap.size + 1, 5, none⟩ = some (.int .i64 0) := obj_cell B1'.out 5
  have z6 : w3.cell? ⟨w.heap.size + 1, 6, none⟩ = some (.int .i64 0) := obj_cell B1'.out 6
  have z7 : w3.cell? ⟨w.heap.size + 1, 7, none⟩ = some (.int .i64 0) := obj_cell B1'.out 7
  have z8 : w3.cell? ⟨w.heap.size + 1, 8, none⟩ = some (.int .i64 0) := obj_cell B1'.out 8
  have zf0 := obj_free B1'.out 0
  have zf1 := obj_free B1'.out 1
  have zf2 := obj_free B1'.out 2
  have zf3 := obj_free B1'.out 3
  have zf4 := obj_free B1'.out 4
  have zf5 := obj_free B1'.out 5
  have zf6 := obj_free B1'.out 6
  have zf7 := obj_free B1'.out 7
  have zf8 := obj_free B1'.out 8
  by_cases hm : s + n ≤ 2147483647
  · have e9 : m9 = s + n := by rw [H9.out]; omega
    subst e9
    go_wp2
    refine bodyPost_ret (v := .tuple #[.agg #[.int .i64 (l - n), .int .i64 (a - n), .int .i64 b, .int .i64 c, .int .i64 d, .int .i64 (s + n), .int .i64 t, .int .i64 u, .int .i64 v], .int .i64 0]) (by simp [results, Try.results10, go_sem, z0, z1, z2, z3, z4, z5, z6, z7, z8]) rfl ⟨rfl, ?_⟩
    have hle : w.heap.size ≤ w.heap.size + 1 := by omega
    exact ((((((((((((F3.out.setNew _ (Nat.le_refl _) _).setNew _ (Nat.le_refl _) _).setNew _ (Nat.le_refl _) _).setNew _ hle _).setNew _ hle _).setNew _ hle _).setNew _ hle _).setNew _ hle _).setNew _ hle _).setNew _ hle _).setNew _ hle _).setNew _ hle _)
  · have e9 : m9 = 2147483647 := by rw [H9.out]; omega
    subst e9
    go_wp2
    refine bodyPost_ret (v := .tuple #[.agg #[.int .i64 (l - n), .int .i64 (a - n), .int .i64 b, .int .i64 c, .int .i64 d, .int .i64 2147483647, .int .i64 t, .int .i64 u, .int .i64 v], .int .i64 0]) (by simp [results, Try.results10, go_sem, z0, z1, z2, z3, z4, z5, z6, z7, z8]) rfl ⟨rfl, ?_⟩
    have hle : w.heap.size ≤ w.heap.size + 1 := by omega
    exact ((((((((((((F3.out.setNew _ (Nat.le_refl _) _).setNew _ (Nat.le_refl _) _).setNew _ (Nat.le_refl _) _).setNew _ hle _).setNew _ hle _).setNew _ hle _).setNew _ hle _).setNew _ hle _).setNew _ hle _).setNew _ hle _).setNew _ hle _).setNew _ hle _)

set_option maxRecDepth 100000 in
set_option maxHeartbeats 1000000 in
theorem rspend_good1 (l a b c d s t u v n m9 : Int) (h : Pu.ok ⟨l, ⟨a, b, c, d⟩, ⟨s, t, u, v⟩⟩) (h3 : 0 ≤ n) (h4 : ¬ may ⟨l, ⟨a, b, c, d⟩, ⟨s, t, u, v⟩⟩ 1 n < n) (h9 : m9 = kp (t + n)) (w : World) :
    Calls Try.prog 10 #[.agg #[.int .i64 l, .int .i64 a, .int .i64 b, .int .i64 c, .int .i64 d, .int .i64 s, .int .i64 t, .int .i64 u, .int .i64 v], .int .i64 1, .int .i64 n] w fun e w' => e = .returned (.tuple #[.agg #[.int .i64 (l - n), .int .i64 a, .int .i64 (b - n), .int .i64 c, .int .i64 d, .int .i64 s, .int .i64 m9, .int .i64 u, .int .i64 v], .int .i64 0]) ∧ Fr nob w w' := by
  have h2 : strat 1 := by unfold strat; omega
  have hb1 : 0 ≤ l ∧ l ≤ 2147483647 := h.1
  have hb2 : 0 ≤ b ∧ b ≤ 2147483647 := h.2.1.2.1
  have hb3 : 0 ≤ t ∧ t ≤ 2147483647 := h.2.2.2.1
  have hb : n ≤ l ∧ n ≤ b := by
    unfold may at h4
    rw [if_pos ⟨h, h2⟩, show Q4.get ⟨a, b, c, d⟩ 1 = b by simp [Q4.get]] at h4
    simp only at h4
    omega
  have H9 : Hid (m9 = min (t + n) 2147483647) := by
    show m9 = _
    rw [h9]; unfold kp; omega
  have R := Lib.hid (fun w => rright_any ⟨l, ⟨a, b, c, d⟩, ⟨s, t, u, v⟩⟩ w)
  rw [decide_eq_true h] at R
  have M := Lib.hid (fun w => rmay_any ⟨l, ⟨a, b, c, d⟩, ⟨s, t, u, v⟩⟩ 1 n w)
  obtain ⟨m, hm⟩ : ∃ m, m = may ⟨l, ⟨a, b, c, d⟩, ⟨s, t, u, v⟩⟩ 1 n := ⟨_, rfl⟩
  rw [← hm] at M h4
  have h5 : n ≤ m := by omega
  have d3 : decide (n < 0) = false := decide_eq_false (by omega)
  clear h h2 hm h4 h9
  unfold Pu.v at *
  simp only at *
  go_enter Try.func10, Try.ntmps10
  go_wp2_with (go_at_call 12; refine stop ?_)
  refine Stop.go ((R.out _).mono ?_)
  rintro e w1 ⟨rfl, f1⟩
  have B0 : Hid (w1.heap[w.heap.size]? = some (.cells #[.int .i64 l, .int .i64 a, .int .i64 b, .int .i64 c, .int .i64 d, .int .i64 s, .int .i64 t, .int .i64 u, .int .i64 v] 26 (0, 0))) := Lib.hid (f1.heap_some (obj_alloc (obj_new (w := w) rfl _) _) (fun x => x))
  have B1 : Hid (w1.heap[w.heap.size + 1]? = some (.cells #[.int .i64 0, .int .i64 0, .int .i64 0, .int .i64 0, .int .i64 0, .int .i64 0, .int .i64 0, .int .i64 0, .int .i64 0] 26 (0, 0))) := Lib.hid (f1.heap_some (obj_new (by simp) _) (fun x => x))
  have F := Lib.hid ((((Fr.refl nob w).alloc _).alloc _).trans f1 (U := nob) (fun _ _ x => x) (fun _ _ x => x))
  clear f1
  have k0 : w1.cell? ⟨w.heap.size, 0, none⟩ = some (.int .i64 l) := obj_cell B0.out 0
  have k1 : w1.cell? ⟨w.heap.size, 1, none⟩ = some (.int .i64 a) := obj_cell B0.out 1
  have k2 : w1.cell? ⟨w.heap.size, 2, none⟩ = some (.int .i64 b) := obj_cell B0.out 2
  have k3 : w1.cell? ⟨w.heap.size, 3, none⟩ = some (.int .i64 c) := obj_cell B0.out 3
  have k4 : w1.cell? ⟨w.heap.size, 4, none⟩ = some (.int .i64 d) := obj_cell B0.out 4
  have k5 : w1.cell? ⟨w.heap.size, 5, none⟩ = some (.int .i64 s) := obj_cell B0.out 5
  have k6 : w1.cell? ⟨w.heap.size, 6, none⟩ = some (.int .i64 t) := obj_cell B0.out 6
  have k7 : w1.cell? ⟨w.heap.size, 7, none⟩ = some (.int .i64 u) := obj_cell B0.out 7
  have k8 : w1.cell? ⟨w.heap.size, 8, none⟩ = some (.int .i64 v) := obj_cell B0.out 8
  go_wp2_with (go_at_call 15; refine stop ?_)
  refine Stop.go ((M.out _).mono ?_)
  rintro e w3 ⟨rfl, f3⟩
  have B0' := Lib.hid (f3.heap_some B0.out (fun x => x))
  have B1' := Lib.hid (f3.heap_some B1.out (fun x => x))
  have F3 := Lib.hid (F.out.step f3)
  clear f3 d3 k0 k1 k2 k3 k4 k5 k6 k7 k8 R M
  have k0 : w3.cell? ⟨w.heap.size, 0, none⟩ = some (.int .i64 l) := obj_cell B0'.out 0
  have k1 : w3.cell? ⟨w.heap.size, 1, none⟩ = some (.int .i64 a) := obj_cell B0'.out 1
  have k2 : w3.cell? ⟨w.heap.size, 2, none⟩ = some (.int .i64 b) := obj_cell B0'.out 2
  have k3 : w3.cell? ⟨w.heap.size, 3, none⟩ = some (.int .i64 c) := obj_cell B0'.out 3
  have k4 : w3.cell? ⟨w.heap.size, 4, none⟩ = some (.int .i64 d) := obj_cell B0'.out 4
  have k5 : w3.cell? ⟨w.heap.size, 5, none⟩ = some (.int .i64 s) := obj_cell B0'.out 5
  have k6 : w3.cell? ⟨w.heap.size, 6, none⟩ = some (.int .i64 t) := obj_cell B0'.out 6
  have k7 : w3.cell? ⟨w.heap.size, 7, none⟩ = some (.int .i64 u) := obj_cell B0'.out 7
  have k8 : w3.cell? ⟨w.heap.size, 8, none⟩ = some (.int .i64 v) := obj_cell B0'.out 8
  have kf0 := obj_free B0'.out 0
  have kf1 := obj_free B0'.out 1
  have kf2 := obj_free B0'.out 2
  have kf3 := obj_free B0'.out 3
  have kf4 := obj_free B0'.out 4
  have kf5 := obj_free B0'.out 5
  have kf6 := obj_free B0'.out 6
  have kf7 := obj_free B0'.out 7
  have kf8 := obj_free B0'.out 8
  have z0 : w3.cell? ⟨w.heap.size + 1, 0, none⟩ = some (.int .i64 0) := obj_cell B1'.out 0
  have z1 : w3.cell? ⟨w.heap.size + 1, 1, none⟩ = some (.int .i64 0) := obj_cell B1'.out 1
  have z2 : w3.cell? ⟨w.heap.size + 1, 2, none⟩ = some (.int .i64 0) := obj_cell B1'.out 2
  have z3 : w3.cell? ⟨w.heap.size + 1, 3, none⟩ = some (.int .i64 0) := obj_cell B1'.out 3
  have z4 : w3.cell? ⟨w.heap.size + 1, 4, none⟩ = some (.int .i64 0) := obj_cell B1'.out 4
  have z5 : w3.cell? ⟨w.heap.size + 1, 5, none⟩ = some (.int .i64 0) := obj_cell B1'.out 5
  have z6 : w3.cell? ⟨w.heap.size + 1, 6, none⟩ = some (.int .i64 0) := obj_cell B1'.out 6
  have z7 : w3.cell? ⟨w.heap.size + 1, 7, none⟩ = some (.int .i64 0) := obj_cell B1'.out 7
  have z8 : w3.cell? ⟨w.heap.size + 1, 8, none⟩ = some (.int .i64 0) := obj_cell B1'.out 8
  have zf0 := obj_free B1'.out 0
  have zf1 := obj_free B1'.out 1
  have zf2 := obj_free B1'.out 2
  have zf3 := obj_free B1'.out 3
  have zf4 := obj_free B1'.out 4
  have zf5 := obj_free B1'.out 5
  have zf6 := obj_free B1'.out 6
  have zf7 := obj_free B1'.out 7
  have zf8 := obj_free B1'.out 8
  by_cases hm : t + n ≤ 2147483647
  · have e9 : m9 = t + n := by rw [H9.out]; omega
    subst e9
    go_wp2
    refine bodyPost_ret (v := .tuple #[.agg #[.int .i64 (l - n), .int .i64 a, .int .i64 (b - n), .int .i64 c, .int .i64 d, .int .i64 s, .int .i64 (t + n), .int .i64 u, .int .i64 v], .int .i64 0]) (by simp [results, Try.results10, go_sem, z0, z1, z2, z3, z4, z5, z6, z7, z8]) rfl ⟨rfl, ?_⟩
    have hle : w.heap.size ≤ w.heap.size + 1 := by omega
    exact ((((((((((((F3.out.setNew _ (Nat.le_refl _) _).setNew _ (Nat.le_refl _) _).setNew _ (Nat.le_refl _) _).setNew _ hle _).setNew _ hle _).setNew _ hle _).setNew _ hle _).setNew _ hle _).setNew _ hle _).setNew _ hle _).setNew _ hle _).setNew _ hle _)
  · have e9 : m9 = 2147483647 := by rw [H9.out]; omega
    subst e9
    go_wp2
    refine bodyPost_ret (v := .tuple #[.agg #[.int .i64 (l - n), .int .i64 a, .int .i64 (b - n), .int .i64 c, .int .i64 d, .int .i64 s, .int .i64 2147483647, .int .i64 u, .int .i64 v], .int .i64 0]) (by simp [results, Try.results10, go_sem, z0, z1, z2, z3, z4, z5, z6, z7, z8]) rfl ⟨rfl, ?_⟩
    have hle : w.heap.size ≤ w.heap.size + 1 := by omega
    exact ((((((((((((F3.out.setNew _ (Nat.le_refl _) _).setNew _ (Nat.le_refl _) _).setNew _ (Nat.le_refl _) _).setNew _ hle _).setNew _ hle _).setNew _ hle _).setNew _ hle _).setNew _ hle _).setNew _ hle _).setNew _ hle _).setNew _ hle _).setNew _ hle _)

set_option maxRecDepth 100000 in
set_option maxHeartbeats 1000000 in
theorem rspend_good2 (l a b c d s t u v n m9 : Int) (h : Pu.ok ⟨l, ⟨a, b, c, d⟩, ⟨s, t, u, v⟩⟩) (h3 : 0 ≤ n) (h4 : ¬ may ⟨l, ⟨a, b, c, d⟩, ⟨s, t, u, v⟩⟩ 2 n < n) (h9 : m9 = kp (u + n)) (w : World) :
    Calls Try.prog 10 #[.agg #[.int .i64 l, .int .i64 a, .int .i64 b, .int .i64 c, .int .i64 d, .int .i64 s, .int .i64 t, .int .i64 u, .int .i64 v], .int .i64 2, .int .i64 n] w fun e w' => e = .returned (.tuple #[.agg #[.int .i64 (l - n), .int .i64 a, .int .i64 b, .int .i64 (c - n), .int .i64 d, .int .i64 s, .int .i64 t, .int .i64 m9, .int .i64 v], .int .i64 0]) ∧ Fr nob w w' := by
  have h2 : strat 2 := by unfold strat; omega
  have hb1 : 0 ≤ l ∧ l ≤ 2147483647 := h.1
  have hb2 : 0 ≤ c ∧ c ≤ 2147483647 := h.2.1.2.2.1
  have hb3 : 0 ≤ u ∧ u ≤ 2147483647 := h.2.2.2.2.1
  have hb : n ≤ l ∧ n ≤ c := by
    unfold may at h4
    rw [if_pos ⟨h, h2⟩, show Q4.get ⟨a, b, c, d⟩ 2 = c by simp [Q4.get]] at h4
    simp only at h4
    omega
  have H9 : Hid (m9 = min (u + n) 2147483647) := by
    show m9 = _
    rw [h9]; unfold kp; omega
  have R := Lib.hid (fun w => rright_any ⟨l, ⟨a, b, c, d⟩, ⟨s, t, u, v⟩⟩ w)
  rw [decide_eq_true h] at R
  have M := Lib.hid (fun w => rmay_any ⟨l, ⟨a, b, c, d⟩, ⟨s, t, u, v⟩⟩ 2 n w)
  obtain ⟨m, hm⟩ : ∃ m, m = may ⟨l, ⟨a, b, c, d⟩, ⟨s, t, u, v⟩⟩ 2 n := ⟨_, rfl⟩
  rw [← hm] at M h4
  have h5 : n ≤ m := by omega
  have d3 : decide (n < 0) = false := decide_eq_false (by omega)
  clear h h2 hm h4 h9
  unfold Pu.v at *
  simp only at *
  go_enter Try.func10, Try.ntmps10
  go_wp2_with (go_at_call 12; refine stop ?_)
  refine Stop.go ((R.out _).mono ?_)
  rintro e w1 ⟨rfl, f1⟩
  have B0 : Hid (w1.heap[w.heap.size]? = some (.cells #[.int .i64 l, .int .i64 a, .int .i64 b, .int .i64 c, .int .i64 d, .int .i64 s, .int .i64 t, .int .i64 u, .int .i64 v] 26 (0, 0))) := Lib.hid (f1.heap_some (obj_alloc (obj_new (w := w) rfl _) _) (fun x => x))
  have B1 : Hid (w1.heap[w.heap.size + 1]? = some (.cells #[.int .i64 0, .int .i64 0, .int .i64 0, .int .i64 0, .int .i64 0, .int .i64 0, .int .i64 0, .int .i64 0, .int .i64 0] 26 (0, 0))) := Lib.hid (f1.heap_some (obj_new (by simp) _) (fun x => x))
  have F := Lib.hid ((((Fr.refl nob w).alloc _).alloc _).trans f1 (U := nob) (fun _ _ x => x) (fun _ _ x => x))
  clear f1
  have k0 : w1.cell? ⟨w.heap.size, 0, none⟩ = some (.int .i64 l) := obj_cell B0.out 0
  have k1 : w1.cell? ⟨w.heap.size, 1, none⟩ = some (.int .i64 a) := obj_cell B0.out 1
  have k2 : w1.cell? ⟨w.heap.size, 2, none⟩ = some (.int .i64 b) := obj_cell B0.out 2
  have k3 : w1.cell? ⟨w.heap.size, 3, none⟩ = some (.int .i64 c) := obj_cell B0.out 3
  have k4 : w1.cell? ⟨w.heap.size, 4, none⟩ = some (.int .i64 d) := obj_cell B0.out 4
  have k5 : w1.cell? ⟨w.heap.size, 5, none⟩ = some (.int .i64 s) := obj_cell B0.out 5
  have k6 : w1.cell? ⟨w.heap.size, 6, none⟩ = some (.int .i64 t) := obj_cell B0.out 6
  have k7 : w1.cell? ⟨w.heap.size, 7, none⟩ = some (.int .i64 u) := obj_cell B0.out 7
  have k8 : w1.cell? ⟨w.heap.size, 8, none⟩ = some (.int .i64 v) := obj_cell B0.out 8
  go_wp2_with (go_at_call 15; refine stop ?_)
  refine Stop.go ((M.out _).mono ?_)
  rintro e w3 ⟨rfl, f3⟩
  have B0' := Lib.hid (f3.heap_some B0.out (fun x => x))
  have B1' := Lib.hid (f3.heap_some B1.out (fun x => x))
  have F3 := Lib.hid (F.out.step f3)
  clear f3 d3 k0 k1 k2 k3 k4 k5 k6 k7 k8 R M
  have k0 : w3.cell? ⟨w.heap.size, 0, none⟩ = some (.int .i64 l) := obj_cell B0'.out 0
  have k1 : w3.cell? ⟨w.heap.size, 1, none⟩ = some (.int .i64 a) := obj_cell B0'.out 1
  have k2 : w3.cell? ⟨w.heap.size, 2, none⟩ = some (.int .i64 b) := obj_cell B0'.out 2
  have k3 : w3.cell? ⟨w.heap.size, 3, none⟩ = some (.int .i64 c) := obj_cell B0'.out 3
  have k4 : w3.cell? ⟨w.heap.size, 4, none⟩ = some (.int .i64 d) := obj_cell B0'.out 4
  have k5 : w3.cell? ⟨w.heap.size, 5, none⟩ = some (.int .i64 s) := obj_cell B0'.out 5
  have k6 : w3.cell? ⟨w.heap.size, 6, none⟩ = some (.int .i64 t) := obj_cell B0'.out 6
  have k7 : w3.cell? ⟨w.heap.size, 7, none⟩ = some (.int .i64 u) := obj_cell B0'.out 7
  have k8 : w3.cell? ⟨w.heap.size, 8, none⟩ = some (.int .i64 v) := obj_cell B0'.out 8
  have kf0 := obj_free B0'.out 0
  have kf1 := obj_free B0'.out 1
  have kf2 := obj_free B0'.out 2
  have kf3 := obj_free B0'.out 3
  have kf4 := obj_free B0'.out 4
  have kf5 := obj_free B0'.out 5
  have kf6 := obj_free B0'.out 6
  have kf7 := obj_free B0'.out 7
  have kf8 := obj_free B0'.out 8
  have z0 : w3.cell? ⟨w.heap.size + 1, 0, none⟩ = some (.int .i64 0) := obj_cell B1'.out 0
  have z1 : w3.cell? ⟨w.heap.size + 1, 1, none⟩ = some (.int .i64 0) := obj_cell B1'.out 1
  have z2 : w3.cell? ⟨w.heap.size + 1, 2, none⟩ = some (.int .i64 0) := obj_cell B1'.out 2
  have z3 : w3.cell? ⟨w.heap.size + 1, 3, none⟩ = some (.int .i64 0) := obj_cell B1'.out 3
  have z4 : w3.cell? ⟨w.heap.size + 1, 4, none⟩ = some (.int .i64 0) := obj_cell B1'.out 4
  have z5 : w3.cell? ⟨w.heap.size + 1, 5, none⟩ = some (.int .i64 0) := obj_cell B1'.out 5
  have z6 : w3.cell? ⟨w.heap.size + 1, 6, none⟩ = some (.int .i64 0) := obj_cell B1'.out 6
  have z7 : w3.cell? ⟨w.heap.size + 1, 7, none⟩ = some (.int .i64 0) := obj_cell B1'.out 7
  have z8 : w3.cell? ⟨w.heap.size + 1, 8, none⟩ = some (.int .i64 0) := obj_cell B1'.out 8
  have zf0 := obj_free B1'.out 0
  have zf1 := obj_free B1'.out 1
  have zf2 := obj_free B1'.out 2
  have zf3 := obj_free B1'.out 3
  have zf4 := obj_free B1'.out 4
  have zf5 := obj_free B1'.out 5
  have zf6 := obj_free B1'.out 6
  have zf7 := obj_free B1'.out 7
  have zf8 := obj_free B1'.out 8
  by_cases hm : u + n ≤ 2147483647
  · have e9 : m9 = u + n := by rw [H9.out]; omega
    subst e9
    go_wp2
    refine bodyPost_ret (v := .tuple #[.agg #[.int .i64 (l - n), .int .i64 a, .int .i64 b, .int .i64 (c - n), .int .i64 d, .int .i64 s, .int .i64 t, .int .i64 (u + n), .int .i64 v], .int .i64 0]) (by simp [results, Try.results10, go_sem, z0, z1, z2, z3, z4, z5, z6, z7, z8]) rfl ⟨rfl, ?_⟩
    have hle : w.heap.size ≤ w.heap.size + 1 := by omega
    exact ((((((((((((F3.out.setNew _ (Nat.le_refl _) _).setNew _ (Nat.le_refl _) _).setNew _ (Nat.le_refl _) _).setNew _ hle _).setNew _ hle _).setNew _ hle _).setNew _ hle _).setNew _ hle _).setNew _ hle _).setNew _ hle _).setNew _ hle _).setNew _ hle _)
  · have e9 : m9 = 2147483647 := by rw [H9.out]; omega
    subst e9
    go_wp2
    refine bodyPost_ret (v := .tuple #[.agg #[.int .i64 (l - n), .int .i64 a, .int .i64 b, .int .i64 (c - n), .int .i64 d, .int .i64 s, .int .i64 t, .int .i64 2147483647, .int .i64 v], .int .i64 0]) (by simp [results, Try.results10, go_sem, z0, z1, z2, z3, z4, z5, z6, z7, z8]) rfl ⟨rfl, ?_⟩
    have hle : w.heap.size ≤ w.heap.size + 1 := by omega
    exact ((((((((((((F3.out.setNew _ (Nat.le_refl _) _).setNew _ (Nat.le_refl _) _).setNew _ (Nat.le_refl _) _).setNew _ hle _).setNew _ hle _).setNew _ hle _).setNew _ hle _).setNew _ hle _).setNew _ hle _).setNew _ hle _).setNew _ hle _).setNew _ hle _)

set_option maxRecDepth 100000 in
set_option maxHeartbeats 1000000 in
theorem rspend_good3 (l a b c d s t u v n m9 : Int) (h : Pu.ok ⟨l, ⟨a, b, c, d⟩, ⟨s, t, u, v⟩⟩) (h3 : 0 ≤ n) (h4 : ¬ may ⟨l, ⟨a, b, c, d⟩, ⟨s, t, u, v⟩⟩ 3 n < n) (h9 : m9 = kp (v + n)) (w : World) :
    Calls Try.prog 10 #[.agg #[.int .i64 l, .int .i64 a, .int .i64 b, .int .i64 c, .int .i64 d, .int .i64 s, .int .i64 t, .int .i64 u, .int .i64 v], .int .i64 3, .int .i64 n] w fun e w' => e = .returned (.tuple #[.agg #[.int .i64 (l - n), .int .i64 a, .int .i64 b, .int .i64 c, .int .i64 (d - n), .int .i64 s, .int .i64 t, .int .i64 u, .int .i64 m9], .int .i64 0]) ∧ Fr nob w w' := by
  have h2 : strat 3 := by unfold strat; omega
  have hb1 : 0 ≤ l ∧ l ≤ 2147483647 := h.1
  have hb2 : 0 ≤ d ∧ d ≤ 2147483647 := h.2.1.2.2.2
  have hb3 : 0 ≤ v ∧ v ≤ 2147483647 := h.2.2.2.2.2
  have hb : n ≤ l ∧ n ≤ d := by
    unfold may at h4
    rw [if_pos ⟨h, h2⟩, show Q4.get ⟨a, b, c, d⟩ 3 = d by simp [Q4.get]] at h4
    simp only at h4
    omega
  have H9 : Hid (m9 = min (v + n) 2147483647) := by
    show m9 = _
    rw [h9]; unfold kp; omega
  have R := Lib.hid (fun w => rright_any ⟨l, ⟨a, b, c, d⟩, ⟨s, t, u, v⟩⟩ w)
  rw [decide_eq_true h] at R
  have M := Lib.hid (fun w => rmay_any ⟨l, ⟨a, b, c, d⟩, ⟨s, t, u, v⟩⟩ 3 n w)
  obtain ⟨m, hm⟩ : ∃ m, m = may ⟨l, ⟨a, b, c, d⟩, ⟨s, t, u, v⟩⟩ 3 n := ⟨_, rfl⟩
  rw [← hm] at M h4
  have h5 : n ≤ m := by omega
  have d3 : decide (n < 0) = false := decide_eq_false (by omega)
  clear h h2 hm h4 h9
  unfold Pu.v at *
  simp only at *
  go_enter Try.func10, Try.ntmps10
  go_wp2_with (go_at_call 12; refine stop ?_)
  refine Stop.go ((R.out _).mono ?_)
  rintro e w1 ⟨rfl, f1⟩
  have B0 : Hid (w1.heap[w.heap.size]? = some (.cells #[.int .i64 l, .int .i64 a, .int .i64 b, .int .i64 c, .int .i64 d, .int .i64 s, .int .i64 t, .int .i64 u, .int .i64 v] 26 (0, 0))) := Lib.hid (f1.heap_some (obj_alloc (obj_new (w := w) rfl _) _) (fun x => x))
  have B1 : Hid (w1.heap[w.heap.size + 1]? = some (.cells #[.int .i64 0, .int .i64 0, .int .i64 0, .int .i64 0, .int .i64 0, .int .i64 0, .int .i64 0, .int .i64 0, .int .i64 0] 26 (0, 0))) := Lib.hid (f1.heap_some (obj_new (by simp) _) (fun x => x))
  have F := Lib.hid ((((Fr.refl nob w).alloc _).alloc _).trans f1 (U := nob) (fun _ _ x => x) (fun _ _ x => x))
  clear f1
  have k0 : w1.cell? ⟨w.heap.size, 0, none⟩ = some (.int .i64 l) := obj_cell B0.out 0
  have k1 : w1.cell? ⟨w.heap.size, 1, none⟩ = some (.int .i64 a) := obj_cell B0.out 1
  have k2 : w1.cell? ⟨w.heap.size, 2, none⟩ = some (.int .i64 b) := obj_cell B0.out 2
  have k3 : w1.cell? ⟨w.heap.size, 3, none⟩ = some (.int .i64 c) := obj_cell B0.out 3
  have k4 : w1.cell? ⟨w.heap.size, 4, none⟩ = some (.int .i64 d) := obj_cell B0.out 4
  have k5 : w1.cell? ⟨w.heap.size, 5, none⟩ = some (.int .i64 s) := obj_cell B0.out 5
  have k6 : w1.cell? ⟨w.heap.size, 6, none⟩ = some (.int .i64 t) := obj_cell B0.out 6
  have k7 : w1.cell? ⟨w.heap.size, 7, none⟩ = some (.int .i64 u) := obj_cell B0.out 7
  have k8 : w1.cell? ⟨w.heap.size, 8, none⟩ = some (.int .i64 v) := obj_cell B0.out 8
  go_wp2_with (go_at_call 15; refine stop ?_)
  refine Stop.go ((M.out _).mono ?_)
  rintro e w3 ⟨rfl, f3⟩
  have B0' := Lib.hid (f3.heap_some B0.out (fun x => x))
  have B1' := Lib.hid (f3.heap_some B1.out (fun x => x))
  have F3 := Lib.hid (F.out.step f3)
  clear f3 d3 k0 k1 k2 k3 k4 k5 k6 k7 k8 R M
  have k0 : w3.cell? ⟨w.heap.size, 0, none⟩ = some (.int .i64 l) := obj_cell B0'.out 0
  have k1 : w3.cell? ⟨w.heap.size, 1, none⟩ = some (.int .i64 a) := obj_cell B0'.out 1
  have k2 : w3.cell? ⟨w.heap.size, 2, none⟩ = some (.int .i64 b) := obj_cell B0'.out 2
  have k3 : w3.cell? ⟨w.heap.size, 3, none⟩ = some (.int .i64 c) := obj_cell B0'.out 3
  have k4 : w3.cell? ⟨w.heap.size, 4, none⟩ = some (.int .i64 d) := obj_cell B0'.out 4
  have k5 : w3.cell? ⟨w.heap.size, 5, none⟩ = some (.int .i64 s) := obj_cell B0'.out 5
  have k6 : w3.cell? ⟨w.heap.size, 6, none⟩ = some (.int .i64 t) := obj_cell B0'.out 6
  have k7 : w3.cell? ⟨w.heap.size, 7, none⟩ = some (.int .i64 u) := obj_cell B0'.out 7
  have k8 : w3.cell? ⟨w.heap.size, 8, none⟩ = some (.int .i64 v) := obj_cell B0'.out 8
  have kf0 := obj_free B0'.out 0
  have kf1 := obj_free B0'.out 1
  have kf2 := obj_free B0'.out 2
  have kf3 := obj_free B0'.out 3
  have kf4 := obj_free B0'.out 4
  have kf5 := obj_free B0'.out 5
  have kf6 := obj_free B0'.out 6
  have kf7 := obj_free B0'.out 7
  have kf8 := obj_free B0'.out 8
  have z0 : w3.cell? ⟨w.heap.size + 1, 0, none⟩ = some (.int .i64 0) := obj_cell B1'.out 0
  have z1 : w3.cell? ⟨w.heap.size + 1, 1, none⟩ = some (.int .i64 0) := obj_cell B1'.out 1
  have z2 : w3.cell? ⟨w.heap.size + 1, 2, none⟩ = some (.int .i64 0) := obj_cell B1'.out 2
  have z3 : w3.cell? ⟨w.heap.size + 1, 3, none⟩ = some (.int .i64 0) := obj_cell B1'.out 3
  have z4 : w3.cell? ⟨w.heap.size + 1, 4, none⟩ = some (.int .i64 0) := obj_cell B1'.out 4
  have z5 : w3.cell? ⟨w.heap.size + 1, 5, none⟩ = some (.int .i64 0) := obj_cell B1'.out 5
  have z6 : w3.cell? ⟨w.heap.size + 1, 6, none⟩ = some (.int .i64 0) := obj_cell B1'.out 6
  have z7 : w3.cell? ⟨w.heap.size + 1, 7, none⟩ = some (.int .i64 0) := obj_cell B1'.out 7
  have z8 : w3.cell? ⟨w.heap.size + 1, 8, none⟩ = some (.int .i64 0) := obj_cell B1'.out 8
  have zf0 := obj_free B1'.out 0
  have zf1 := obj_free B1'.out 1
  have zf2 := obj_free B1'.out 2
  have zf3 := obj_free B1'.out 3
  have zf4 := obj_free B1'.out 4
  have zf5 := obj_free B1'.out 5
  have zf6 := obj_free B1'.out 6
  have zf7 := obj_free B1'.out 7
  have zf8 := obj_free B1'.out 8
  by_cases hm : v + n ≤ 2147483647
  · have e9 : m9 = v + n := by rw [H9.out]; omega
    subst e9
    go_wp2
    refine bodyPost_ret (v := .tuple #[.agg #[.int .i64 (l - n), .int .i64 a, .int .i64 b, .int .i64 c, .int .i64 (d - n), .int .i64 s, .int .i64 t, .int .i64 u, .int .i64 (v + n)], .int .i64 0]) (by simp [results, Try.results10, go_sem, z0, z1, z2, z3, z4, z5, z6, z7, z8]) rfl ⟨rfl, ?_⟩
    have hle : w.heap.size ≤ w.heap.size + 1 := by omega
    exact ((((((((((((F3.out.setNew _ (Nat.le_refl _) _).setNew _ (Nat.le_refl _) _).setNew _ (Nat.le_refl _) _).setNew _ hle _).setNew _ hle _).setNew _ hle _).setNew _ hle _).setNew _ hle _).setNew _ hle _).setNew _ hle _).setNew _ hle _).setNew _ hle _)
  · have e9 : m9 = 2147483647 := by rw [H9.out]; omega
    subst e9
    go_wp2
    refine bodyPost_ret (v := .tuple #[.agg #[.int .i64 (l - n), .int .i64 a, .int .i64 b, .int .i64 c, .int .i64 (d - n), .int .i64 s, .int .i64 t, .int .i64 u, .int .i64 2147483647], .int .i64 0]) (by simp [results, Try.results10, go_sem, z0, z1, z2, z3, z4, z5, z6, z7, z8]) rfl ⟨rfl, ?_⟩
    have hle : w.heap.size ≤ w.heap.size + 1 := by omega
    exact ((((((((((((F3.out.setNew _ (Nat.le_refl _) _).setNew _ (Nat.le_refl _) _).setNew _ (Nat.le_refl _) _).setNew _ hle _).setNew _ hle _).setNew _ hle _).setNew _ hle _).setNew _ hle _).setNew _ hle _).setNew _ hle _).setNew _ hle _).setNew _ hle _)

theorem rspend_any (p : Pu) (who n : Int) (w : World) : Calls Try.prog 10 #[p.v, .int .i64 who, .int .i64 n] w fun e w' => e = .returned (.tuple #[(spend p who n).1.v, .int .i64 (spend p who n).2]) ∧ Fr nob w w' := by
  unfold spend
  by_cases h : p.ok ∧ strat who ∧ 0 ≤ n
  · rw [if_neg (fun x => x h)]
    by_cases h4 : may p who n < n
    · rw [if_pos h4]; exact rspend_full p who n h.1 h.2.1 h.2.2 h4 w
    · rw [if_neg h4]
      obtain ⟨l, ⟨a, b, c, d⟩, ⟨s, t, u, v⟩⟩ := p
      have hs : inN s ∧ inN t ∧ inN u ∧ inN v := h.1.2.2
      have es := (kp_iff s).2 hs.1
      have et := (kp_iff t).2 hs.2.1
      have eu := (kp_iff u).2 hs.2.2.1
      have ev := (kp_iff v).2 hs.2.2.2
      obtain rfl | rfl | rfl | rfl : who = 0 ∨ who = 1 ∨ who = 2 ∨ who = 3 := by have := h.2.1; unfold strat at this; omega
      · have := rspend_good0 l a b c d s t u v n _ h.1 h.2.2 h4 rfl w
        simpa [spent, Q4.get, Q4.set, Q4.kept, Pu.v, es, et, eu, ev] using this
      · have := rspend_good1 l a b c d s t u v n _ h.1 h.2.2 h4 rfl w
        simpa [spent, Q4.get, Q4.set, Q4.kept, Pu.v, es, et, eu, ev] using this
      · have := rspend_good2 l a b c d s t u v n _ h.1 h.2.2 h4 rfl w
        simpa [spent, Q4.get, Q4.set, Q4.kept, Pu.v, es, et, eu, ev] using this
      · have := rspend_good3 l a b c d s t u v n _ h.1 h.2.2 h4 rfl w
        simpa [spent, Q4.get, Q4.set, Q4.kept, Pu.v, es, et, eu, ev] using this
  · rw [if_pos h]; exact rspend_bad p who n h w

end Go.Proofs.Ytdlbihndghofcaa
