/- The purse: Spend. -/
import Derived.Test.YtdlbihndghofcaaMay
namespace Go.Proofs.Ytdlbihndghofcaa
open Go.RowKit
set_option linter.unusedVariables false

def Q4.set (q : Q4) (i x : Int) : Q4 := if i = 0 then { q with a := x } else if i = 1 then { q with b := x } else if i = 2 then { q with c := x } else { q with d := x }
def zero : Pu := ⟨0, ⟨0, 0, 0, 0⟩, ⟨0, 0, 0, 0⟩⟩
def spent (p : Pu) (who n : Int) : Pu := ⟨p.l - n, p.e.set who (p.e.get who - n), (p.s.set who (p.s.get who + n)).kept⟩
/-- The purse behind it, and the number of the error. -/
def spend (p : Pu) (who n : Int) : Pu × Int := if ¬ (p.ok ∧ strat who ∧ 0 ≤ n) then (zero, 1) else if may p who n < n then (zero, 15) else (spent p who n, 0)

set_option maxRecDepth 100000 in
set_option maxHeartbeats 1000000 in
theorem spend_bad (p : Pu) (who n : Int) (h : ¬ p.ok) (w : World) : Calls Try.prog 9 #[p.v, .int .i64 who, .int .i64 n] w fun e w' => e = .returned (.tuple #[zero.v, .int .i64 1]) ∧ Fr nob w w' := by
  have R := Lib.hid (fun w => right_any p w)
  rw [decide_eq_false h] at R
  clear h
  obtain ⟨l, ⟨a, b, c, d⟩, ⟨s, t, u, v⟩⟩ := p
  unfold Pu.v zero at *
  simp only at *
  go_enter Try.func9, Try.ntmps9
  go_wp2_with (go_at_call 13; refine stop ?_)
  refine Stop.go ((R.out _).mono ?_)
  rintro e w1 ⟨rfl, f1⟩
  have B0 : Hid (w1.heap[w.heap.size]? = some (.cells #[.int .i64 l, .int .i64 a, .int .i64 b, .int .i64 c, .int .i64 d, .int .i64 s, .int .i64 t, .int .i64 u, .int .i64 v] 24 (0, 0))) := Lib.hid (f1.heap_some (obj_alloc (obj_new (w := w) rfl _) _) (fun x => x))
  have B1 : Hid (w1.heap[w.heap.size + 1]? = some (.cells #[.int .i64 0, .int .i64 0, .int .i64 0, .int .i64 0, .int .i64 0, .int .i64 0, .int .i64 0, .int .i64 0, .int .i64 0] 24 (0, 0))) := Lib.hid (f1.heap_some (obj_new (by simp) _) (fun x => x))
  have F := Lib.hid ((((Fr.refl nob w).alloc _).alloc _).trans f1 (U := nob) (fun _ _ x => x) (fun _ _ x => x))
  clear f1
  have z0 : w1.cell? ⟨w.heap.size + 1, 0, none⟩ = some (.int .i64 0) := obj_cell B1.out 0
  have z1 : w1.cell? ⟨w.heap.size + 1, 1, none⟩ = some (.int .i64 0) := obj_cell B1.out 1
  have z2 : w1.cell? ⟨w.heap.size + 1, 2, none⟩ = some (.int .i64 0) := obj_cell B1.out 2
  have z3 : w1.cell? ⟨w.heap.size + 1, 3, none⟩ = some (.int .i64 0) := obj_cell B1.out 3
  have z4 : w1.cell? ⟨w.heap.size + 1, 4, none⟩ = some (.int .i64 0) := obj_cell B1.out 4
  have z5 : w1.cell? ⟨w.heap.size + 1, 5, none⟩ = some (.int .i64 0) := obj_cell B1.out 5
  have z6 : w1.cell? ⟨w.heap.size + 1, 6, none⟩ = some (.int .i64 0) := obj_cell B1.out 6
  have z7 : w1.cell? ⟨w.heap.size + 1, 7, none⟩ = some (.int .i64 0) := obj_cell B1.out 7
  have z8 : w1.cell? ⟨w.heap.size + 1, 8, none⟩ = some (.int .i64 0) := obj_cell B1.out 8
  have zf0 := obj_free B1.out 0
  have zf1 := obj_free B1.out 1
  have zf2 := obj_free B1.out 2
  have zf3 := obj_free B1.out 3
  have zf4 := obj_free B1.out 4
  have zf5 := obj_free B1.out 5
  have zf6 := obj_free B1.out 6
  have zf7 := obj_free B1.out 7
  have zf8 := obj_free B1.out 8
  go_wp2
  refine bodyPost_ret (v := .tuple #[.agg #[.int .i64 0, .int .i64 0, .int .i64 0, .int .i64 0, .int .i64 0, .int .i64 0, .int .i64 0, .int .i64 0, .int .i64 0], .int .i64 1]) (by simp [results, Try.results9, go_sem, z0, z1, z2, z3, z4, z5, z6, z7, z8]) rfl ⟨rfl, ?_⟩
  have hle : w.heap.size ≤ w.heap.size + 1 := by omega
  exact (((((((((F.out.setNew _ hle _).setNew _ hle _).setNew _ hle _).setNew _ hle _).setNew _ hle _).setNew _ hle _).setNew _ hle _).setNew _ hle _).setNew _ hle _)

set_option maxRecDepth 100000 in
set_option maxHeartbeats 1000000 in
theorem spend_who (p : Pu) (who n : Int) (h : p.ok) (h2 : ¬ strat who) (w : World) : Calls Try.prog 9 #[p.v, .int .i64 who, .int .i64 n] w fun e w' => e = .returned (.tuple #[zero.v, .int .i64 1]) ∧ Fr nob w w' := by
  have R := Lib.hid (fun w => right_any p w)
  rw [decide_eq_true h] at R
  have S := Lib.hid (fun w => strategy_any who w)
  rw [show decide (0 ≤ who ∧ who < 4) = false from decide_eq_false h2] at S
  clear h h2
  obtain ⟨l, ⟨a, b, c, d⟩, ⟨s, t, u, v⟩⟩ := p
  unfold Pu.v zero at *
  simp only at *
  go_enter Try.func9, Try.ntmps9
  go_wp2_with (go_at_call 13; refine stop ?_)
  refine Stop.go ((R.out _).mono ?_)
  rintro e w1 ⟨rfl, f1⟩
  have B0 : Hid (w1.heap[w.heap.size]? = some (.cells #[.int .i64 l, .int .i64 a, .int .i64 b, .int .i64 c, .int .i64 d, .int .i64 s, .int .i64 t, .int .i64 u, .int .i64 v] 24 (0, 0))) := Lib.hid (f1.heap_some (obj_alloc (obj_new (w := w) rfl _) _) (fun x => x))
  have B1 : Hid (w1.heap[w.heap.size + 1]? = some (.cells #[.int .i64 0, .int .i64 0, .int .i64 0, .int .i64 0, .int .i64 0, .int .i64 0, .int .i64 0, .int .i64 0, .int .i64 0] 24 (0, 0))) := Lib.hid (f1.heap_some (obj_new (by simp) _) (fun x => x))
  have F := Lib.hid ((((Fr.refl nob w).alloc _).alloc _).trans f1 (U := nob) (fun _ _ x => x) (fun _ _ x => x))
  clear f1
  have z0 : w1.cell? ⟨w.heap.size + 1, 0, none⟩ = some (.int .i64 0) := obj_cell B1.out 0
  have z1 : w1.cell? ⟨w.heap.size + 1, 1, none⟩ = some (.int .i64 0) := obj_cell B1.out 1
  have z2 : w1.cell? ⟨w.heap.size + 1, 2, none⟩ = some (.int .i64 0) := obj_cell B1.out 2
  have z3 : w1.cell? ⟨w.heap.size + 1, 3, none⟩ = some (.int .i64 0) := obj_cell B1.out 3
  have z4 : w1.cell? ⟨w.heap.size + 1, 4, none⟩ = some (.int .i64 0) := obj_cell B1.out 4
  have z5 : w1.cell? ⟨w.heap.size + 1, 5, none⟩ = some (.int .i64 0) := obj_cell B1.out 5
  have z6 : w1.cell? ⟨w.heap.size + 1, 6, none⟩ = some (.int .i64 0) := obj_cell B1.out 6
  have z7 : w1.cell? ⟨w.heap.size + 1, 7, none⟩ = some (.int .i64 0) := obj_cell B1.out 7
  have z8 : w1.cell? ⟨w.heap.size + 1, 8, none⟩ = some (.int .i64 0) := obj_cell B1.out 8
  have zf0 := obj_free B1.out 0
  have zf1 := obj_free B1.out 1
  have zf2 := obj_free B1.out 2
  have zf3 := obj_free B1.out 3
  have zf4 := obj_free B1.out 4
  have zf5 := obj_free B1.out 5
  have zf6 := obj_free B1.out 6
  have zf7 := obj_free B1.out 7
  have zf8 := obj_free B1.out 8
  go_wp2_with (go_at_call 18; refine stop ?_)
  refine Stop.go ((S.out _).mono ?_)
  rintro e w2 ⟨rfl, rfl⟩
  go_wp2
  refine bodyPost_ret (v := .tuple #[.agg #[.int .i64 0, .int .i64 0, .int .i64 0, .int .i64 0, .int .i64 0, .int .i64 0, .int .i64 0, .int .i64 0, .int .i64 0], .int .i64 1]) (by simp [results, Try.results9, go_sem, z0, z1, z2, z3, z4, z5, z6, z7, z8]) rfl ⟨rfl, ?_⟩
  have hle : w.heap.size ≤ w.heap.size + 1 := by omega
  exact (((((((((F.out.setNew _ hle _).setNew _ hle _).setNew _ hle _).setNew _ hle _).setNew _ hle _).setNew _ hle _).setNew _ hle _).setNew _ hle _).setNew _ hle _)

set_option maxRecDepth 100000 in
set_option maxHeartbeats 1000000 in
theorem spend_neg (p : Pu) (who n : Int) (h : p.ok) (h2 : strat who) (h3 : n < 0) (w : World) : Calls Try.prog 9 #[p.v, .int .i64 who, .int .i64 n] w fun e w' => e = .returned (.tuple #[zero.v, .int .i64 1]) ∧ Fr nob w w' := by
  have R := Lib.hid (fun w => right_any p w)
  rw [decide_eq_true h] at R
  have S := Lib.hid (fun w => strategy_any who w)
  rw [show decide (0 ≤ who ∧ who < 4) = true from decide_eq_true h2] at S
  clear h h2
  obtain ⟨l, ⟨a, b, c, d⟩, ⟨s, t, u, v⟩⟩ := p
  unfold Pu.v zero at *
  simp only at *
  go_enter Try.func9, Try.ntmps9
  go_wp2_with (go_at_call 13; refine stop ?_)
  refine Stop.go ((R.out _).mono ?_)
  rintro e w1 ⟨rfl, f1⟩
  have B0 : Hid (w1.heap[w.heap.size]? = some (.cells #[.int .i64 l, .int .i64 a, .int .i64 b, .int .i64 c, .int .i64 d, .int .i64 s, .int .i64 t, .int .i64 u, .int .i64 v] 24 (0, 0))) := Lib.hid (f1.heap_some (obj_alloc (obj_new (w := w) rfl _) _) (fun x => x))
  have B1 : Hid (w1.heap[w.heap.size + 1]? = some (.cells #[.int .i64 0, .int .i64 0, .int .i64 0, .int .i64 0, .int .i64 0, .int .i64 0, .int .i64 0, .int .i64 0, .int .i64 0] 24 (0, 0))) := Lib.hid (f1.heap_some (obj_new (by simp) _) (fun x => x))
  have F := Lib.hid ((((Fr.refl nob w).alloc _).alloc _).trans f1 (U := nob) (fun _ _ x => x) (fun _ _ x => x))
  clear f1
  have z0 : w1.cell? ⟨w.heap.size + 1, 0, none⟩ = some (.int .i64 0) := obj_cell B1.out 0
  have z1 : w1.cell? ⟨w.heap.size + 1, 1, none⟩ = some (.int .i64 0) := obj_cell B1.out 1
  have z2 : w1.cell? ⟨w.heap.size + 1, 2, none⟩ = some (.int .i64 0) := obj_cell B1.out 2
  have z3 : w1.cell? ⟨w.heap.size + 1, 3, none⟩ = some (.int .i64 0) := obj_cell B1.out 3
  have z4 : w1.cell? ⟨w.heap.size + 1, 4, none⟩ = some (.int .i64 0) := obj_cell B1.out 4
  have z5 : w1.cell? ⟨w.heap.size + 1, 5, none⟩ = some (.int .i64 0) := obj_cell B1.out 5
  have z6 : w1.cell? ⟨w.heap.size + 1, 6, none⟩ = some (.int .i64 0) := obj_cell B1.out 6
  have z7 : w1.cell? ⟨w.heap.size + 1, 7, none⟩ = some (.int .i64 0) := obj_cell B1.out 7
  have z8 : w1.cell? ⟨w.heap.size + 1, 8, none⟩ = some (.int .i64 0) := obj_cell B1.out 8
  have zf0 := obj_free B1.out 0
  have zf1 := obj_free B1.out 1
  have zf2 := obj_free B1.out 2
  have zf3 := obj_free B1.out 3
  have zf4 := obj_free B1.out 4
  have zf5 := obj_free B1.out 5
  have zf6 := obj_free B1.out 6
  have zf7 := obj_free B1.out 7
  have zf8 := obj_free B1.out 8
  go_wp2_with (go_at_call 18; refine stop ?_)
  refine Stop.go ((S.out _).mono ?_)
  rintro e w2 ⟨rfl, rfl⟩
  go_wp2
  refine bodyPost_ret (v := .tuple #[.agg #[.int .i64 0, .int .i64 0, .int .i64 0, .int .i64 0, .int .i64 0, .int .i64 0, .int .i64 0, .int .i64 0, .int .i64 0], .int .i64 1]) (by simp [results, Try.results9, go_sem, z0, z1, z2, z3, z4, z5, z6, z7, z8]) rfl ⟨rfl, ?_⟩
  have hle : w.heap.size ≤ w.heap.size + 1 := by omega
  exact (((((((((F.out.setNew _ hle _).setNew _ hle _).setNew _ hle _).setNew _ hle _).setNew _ hle _).setNew _ hle _).setNew _ hle _).setNew _ hle _).setNew _ hle _)

set_option maxRecDepth 100000 in
set_option maxHeartbeats 1000000 in
theorem spend_full (p : Pu) (who n : Int) (h : p.ok) (h2 : strat who) (h3 : 0 ≤ n) (h4 : may p who n < n) (w : World) : Calls Try.prog 9 #[p.v, .int .i64 who, .int .i64 n] w fun e w' => e = .returned (.tuple #[zero.v, .int .i64 15]) ∧ Fr nob w w' := by
  have R := Lib.hid (fun w => right_any p w)
  rw [decide_eq_true h] at R
  have S := Lib.hid (fun w => strategy_any who w)
  rw [show decide (0 ≤ who ∧ who < 4) = true from decide_eq_true h2] at S
  have M := Lib.hid (fun w => may_any p who n w)
  obtain ⟨m, hm⟩ : ∃ m, m = may p who n := ⟨_, rfl⟩
  rw [← hm] at M h4
  clear h h2 hm
  obtain ⟨l, ⟨a, b, c, d⟩, ⟨s, t, u, v⟩⟩ := p
  unfold Pu.v zero at *
  simp only at *
  go_enter Try.func9, Try.ntmps9
  go_wp2_with (go_at_call 13; refine stop ?_)
  refine Stop.go ((R.out _).mono ?_)
  rintro e w1 ⟨rfl, f1⟩
  have B0 : Hid (w1.heap[w.heap.size]? = some (.cells #[.int .i64 l, .int .i64 a, .int .i64 b, .int .i64 c, .int .i64 d, .int .i64 s, .int .i64 t, .int .i64 u, .int .i64 v] 24 (0, 0))) := Lib.hid (f1.heap_some (obj_alloc (obj_new (w := w) rfl _) _) (fun x => x))
  have B1 : Hid (w1.heap[w.heap.size + 1]? = some (.cells #[.int .i64 0, .int .i64 0, .int .i64 0, .int .i64 0, .int .i64 0, .int .i64 0, .int .i64 0, .int .i64 0, .int .i64 0] 24 (0, 0))) := Lib.hid (f1.heap_some (obj_new (by simp) _) (fun x => x))
  have F := Lib.hid ((((Fr.refl nob w).alloc _).alloc _).trans f1 (U := nob) (fun _ _ x => x) (fun _ _ x => x))
  clear f1
  have k0 : w1.cell? ⟨w.heap.size, 0, none⟩ = some (.int .i64 l) := obj_cell B0.out 0
  have k1 : w1.cell? ⟨w.heap.size, 1, none⟩ = some (.int .i64 a) := obj_cell B0.out 1
  have k2 : w1.cell? ⟨w.heap.size, 2, none⟩ = some (.int .i64 b) := obj_cell B0.out 2
  have k3 : w1.cell? ⟨w.heap.size, 3, none⟩ = some (.int .i64 c) := obj_cell B0.out 3
  have k4 : w1.cell? ⟨w.heap.size, 4, none⟩ = some (.int .i64 d) := obj_cell B0.out 4
  have k5 : w1.cell? ⟨w.heap.size, 5, none⟩ = some (.int .i64 s) := obj_cell B0.out 5
  have k6 : w1.cell? ⟨w.heap.size, 6, none⟩ = some (.int .i64 t) := obj_cell B0.out 6
  have k7 : w1.cell? ⟨w.heap.size, 7, none⟩ = some (.int .i64 u) := obj_cell B0.out 7
  have k8 : w1.cell? ⟨w.heap.size, 8, none⟩ = some (.int .i64 v) := obj_cell B0.out 8
  go_wp2_with (go_at_call 18; refine stop ?_)
  refine Stop.go ((S.out _).mono ?_)
  rintro e w2 ⟨rfl, rfl⟩
  go_wp2_with (go_at_call 14; refine stop ?_)
  refine Stop.go ((M.out _).mono ?_)
  rintro e w3 ⟨rfl, f3⟩
  have B0' := Lib.hid (f3.heap_some B0.out (fun x => x))
  have B1' := Lib.hid (f3.heap_some B1.out (fun x => x))
  have F3 := Lib.hid (F.out.step f3)
  clear f3 k0 k1 k2 k3 k4 k5 k6 k7 k8
  have z0 : w3.cell? ⟨w.heap.size + 1, 0, none⟩ = some (.int .i64 0) := obj_cell B1'.out 0
  have z1 : w3.cell? ⟨w.heap.size + 1, 1, none⟩ = some (.int .i64 0) := obj_cell B1'.out 1
  have z2 : w3.cell? ⟨w.heap.size + 1, 2, none⟩ = some (.int .i64 0) := obj_cell B1'.out 2
  have z3 : w3.cell? ⟨w.heap.size + 1, 3, none⟩ = some (.int .i64 0) := obj_cell B1'.out 3
  have z4 : w3.cell? ⟨w.heap.size + 1, 4, none⟩ = some (.int .i64 0) := obj_cell B1'.out 4
  have z5 : w3.cell? ⟨w.heap.size + 1, 5, none⟩ = some (.int .i64 0) := obj_cell B1'.out 5
  have z6 : w3.cell? ⟨w.heap.size + 1, 6, none⟩ = some (.int .i64 0) := obj_cell B1'.out 6
  have z7 : w3.cell? ⟨w.heap.size + 1, 7, none⟩ = some (.int .i64 0) := obj_cell B1'.out 7
  have z8 : w3.cell? ⟨w.heap.size + 1, 8, none⟩ = some (.int .i64 0) := obj_cell B1'.out 8
  have zf0 := obj_free B1'.out 0
  have zf1 := obj_free B1'.out 1
  have zf2 := obj_free B1'.out 2
  have zf3 := obj_free B1'.out 3
  have zf4 := obj_free B1'.out 4
  have zf5 := obj_free B1'.out 5
  have zf6 := obj_free B1'.out 6
  have zf7 := obj_free B1'.out 7
  have zf8 := obj_free B1'.out 8
  go_wp2
  refine bodyPost_ret (v := .tuple #[.agg #[.int .i64 0, .int .i64 0, .int .i64 0, .int .i64 0, .int .i64 0, .int .i64 0, .int .i64 0, .int .i64 0, .int .i64 0], .int .i64 15]) (by simp [results, Try.results9, go_sem, z0, z1, z2, z3, z4, z5, z6, z7, z8]) rfl ⟨rfl, ?_⟩
  have hle : w.heap.size ≤ w.heap.size + 1 := by omega
  exact (((((((((F3.out.setNew _ hle _).setNew _ hle _).setNew _ hle _).setNew _ hle _).setNew _ hle _).setNew _ hle _).setNew _ hle _).setNew _ hle _).setNew _ hle _)


end Go.Proofs.Ytdlbihndghofcaa
