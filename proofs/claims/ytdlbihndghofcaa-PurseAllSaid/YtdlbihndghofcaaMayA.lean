/- PurseMay: the walk. -/
import Derived.Test.YtdlbihndghofcaaKeepsA
namespace Go.Proofs.Ytdlbihndghofcaa
open Go.RowKit
set_option linter.unusedVariables false

set_option maxRecDepth 100000 in
set_option maxHeartbeats 2000000 in
theorem mayl_bad (l a b c d s t u v who aa bb : Int) (w : World) (ri : ∀ w, Calls Try.prog 13 #[.agg #[.int .i64 l, .int .i64 a, .int .i64 b, .int .i64 c, .int .i64 d, .int .i64 s, .int .i64 t, .int .i64 u, .int .i64 v]] w fun e w' => e = .returned (.bool false) ∧ Fr nob w w') :
    Calls Try.prog 5 #[.agg #[.int .i64 l, .int .i64 a, .int .i64 b, .int .i64 c, .int .i64 d, .int .i64 s, .int .i64 t, .int .i64 u, .int .i64 v, .int .i64 who, .int .i64 aa, .int .i64 bb]] w fun e w' => e = .returned (.bool true) ∧ Fr nob w w' := by
  have Hri := Lib.hid ri
  clear ri
  go_enter Try.func5, Try.ntmps5
  go_wp2_with (go_at_call 7; refine stop ?_)
  refine Stop.go ((awake_any _).mono ?_)
  rintro e w1 ⟨rfl, f⟩
  have A1 : Hid (w1.heap[w.heap.size + 1]? = some (.cells #[.int .i64 l, .int .i64 a, .int .i64 b, .int .i64 c, .int .i64 d, .int .i64 s, .int .i64 t, .int .i64 u, .int .i64 v] 24 (0, 0))) := Lib.hid (f.heap_some (obj_new (by simp) _) (fun x => x))
  obtain ⟨h, hh⟩ : ∃ h, h = w.heap.size + 1 := ⟨_, rfl⟩
  rw [← hh] at A1
  rw [← hh]
  have F1 := Lib.hid ((((Fr.refl nob w).alloc _).alloc _).trans f (U := nob) (fun _ _ x => x) (fun _ _ x => x))
  clear f hh
  have k0 : w1.cell? ⟨h, 0, none⟩ = some (.int .i64 l) := obj_cell A1.out 0
  have k1 : w1.cell? ⟨h, 1, none⟩ = some (.int .i64 a) := obj_cell A1.out 1
  have k2 : w1.cell? ⟨h, 2, none⟩ = some (.int .i64 b) := obj_cell A1.out 2
  have k3 : w1.cell? ⟨h, 3, none⟩ = some (.int .i64 c) := obj_cell A1.out 3
  have k4 : w1.cell? ⟨h, 4, none⟩ = some (.int .i64 d) := obj_cell A1.out 4
  have k5 : w1.cell? ⟨h, 5, none⟩ = some (.int .i64 s) := obj_cell A1.out 5
  have k6 : w1.cell? ⟨h, 6, none⟩ = some (.int .i64 t) := obj_cell A1.out 6
  have k7 : w1.cell? ⟨h, 7, none⟩ = some (.int .i64 u) := obj_cell A1.out 7
  have k8 : w1.cell? ⟨h, 8, none⟩ = some (.int .i64 v) := obj_cell A1.out 8
  go_wp2_with (go_at_call 13; refine stop ?_)
  clear k0 k1 k2 k3 k4 k5 k6 k7 k8
  refine Stop.go ((Hri.out w1).mono ?_)
  rintro e w2 ⟨rfl, f⟩
  have F2 := Lib.hid (F1.out.step f)
  have A2 := Lib.hid (f.heap_some A1.out (fun x => x))
  clear f Hri
  go_wp2
  go_ret
  exact ⟨rfl, F2.out⟩

set_option maxRecDepth 100000 in
set_option maxHeartbeats 2000000 in
theorem mayl_c0 (l a b c d s t u v who aa bb : Int) (w : World) (ri : ∀ w, Calls Try.prog 13 #[.agg #[.int .i64 l, .int .i64 a, .int .i64 b, .int .i64 c, .int .i64 d, .int .i64 s, .int .i64 t, .int .i64 u, .int .i64 v]] w fun e w' => e = .returned (.bool true) ∧ Fr nob w w') (y : who < 0) :
    Calls Try.prog 5 #[.agg #[.int .i64 l, .int .i64 a, .int .i64 b, .int .i64 c, .int .i64 d, .int .i64 s, .int .i64 t, .int .i64 u, .int .i64 v, .int .i64 who, .int .i64 aa, .int .i64 bb]] w fun e w' => e = .returned (.bool true) ∧ Fr nob w w' := by
  have Hri := Lib.hid ri
  clear ri
  go_enter Try.func5, Try.ntmps5
  go_wp2_with (go_at_call 7; refine stop ?_)
  refine Stop.go ((awake_any _).mono ?_)
  rintro e w1 ⟨rfl, f⟩
  have A1 : Hid (w1.heap[w.heap.size + 1]? = some (.cells #[.int .i64 l, .int .i64 a, .int .i64 b, .int .i64 c, .int .i64 d, .int .i64 s, .int .i64 t, .int .i64 u, .int .i64 v] 24 (0, 0))) := Lib.hid (f.heap_some (obj_new (by simp) _) (fun x => x))
  obtain ⟨h, hh⟩ : ∃ h, h = w.heap.size + 1 := ⟨_, rfl⟩
  rw [← hh] at A1
  rw [← hh]
  have F1 := Lib.hid ((((Fr.refl nob w).alloc _).alloc _).trans f (U := nob) (fun _ _ x => x) (fun _ _ x => x))
  clear f hh
  have k0 : w1.cell? ⟨h, 0, none⟩ = some (.int .i64 l) := obj_cell A1.out 0
  have k1 : w1.cell? ⟨h, 1, none⟩ = some (.int .i64 a) := obj_cell A1.out 1
  have k2 : w1.cell? ⟨h, 2, none⟩ = some (.int .i64 b) := obj_cell A1.out 2
  have k3 : w1.cell? ⟨h, 3, none⟩ = some (.int .i64 c) := obj_cell A1.out 3
  have k4 : w1.cell? ⟨h, 4, none⟩ = some (.int .i64 d) := obj_cell A1.out 4
  have k5 : w1.cell? ⟨h, 5, none⟩ = some (.int .i64 s) := obj_cell A1.out 5
  have k6 : w1.cell? ⟨h, 6, none⟩ = some (.int .i64 t) := obj_cell A1.out 6
  have k7 : w1.cell? ⟨h, 7, none⟩ = some (.int .i64 u) := obj_cell A1.out 7
  have k8 : w1.cell? ⟨h, 8, none⟩ = some (.int .i64 v) := obj_cell A1.out 8
  go_wp2_with (go_at_call 13; refine stop ?_)
  clear k0 k1 k2 k3 k4 k5 k6 k7 k8
  refine Stop.go ((Hri.out w1).mono ?_)
  rintro e w2 ⟨rfl, f⟩
  have F2 := Lib.hid (F1.out.step f)
  have A2 := Lib.hid (f.heap_some A1.out (fun x => x))
  clear f Hri
  go_wp2
  go_ret
  exact ⟨rfl, F2.out⟩

set_option maxRecDepth 100000 in
set_option maxHeartbeats 2000000 in
theorem mayl_c1 (l a b c d s t u v who aa bb : Int) (w : World) (ri : ∀ w, Calls Try.prog 13 #[.agg #[.int .i64 l, .int .i64 a, .int .i64 b, .int .i64 c, .int .i64 d, .int .i64 s, .int .i64 t, .int .i64 u, .int .i64 v]] w fun e w' => e = .returned (.bool true) ∧ Fr nob w w') (n0 : ¬ who < 0) (y : 4 ≤ who) :
    Calls Try.prog 5 #[.agg #[.int .i64 l, .int .i64 a, .int .i64 b, .int .i64 c, .int .i64 d, .int .i64 s, .int .i64 t, .int .i64 u, .int .i64 v, .int .i64 who, .int .i64 aa, .int .i64 bb]] w fun e w' => e = .returned (.bool true) ∧ Fr nob w w' := by
  have d0 : decide (who < 0) = false := decide_eq_false n0
  have Hri := Lib.hid ri
  clear ri
  go_enter Try.func5, Try.ntmps5
  go_wp2_with (go_at_call 7; refine stop ?_)
  refine Stop.go ((awake_any _).mono ?_)
  rintro e w1 ⟨rfl, f⟩
  have A1 : Hid (w1.heap[w.heap.size + 1]? = some (.cells #[.int .i64 l, .int .i64 a, .int .i64 b, .int .i64 c, .int .i64 d, .int .i64 s, .int .i64 t, .int .i64 u, .int .i64 v] 24 (0, 0))) := Lib.hid (f.heap_some (obj_new (by simp) _) (fun x => x))
  obtain ⟨h, hh⟩ : ∃ h, h = w.heap.size + 1 := ⟨_, rfl⟩
  rw [← hh] at A1
  rw [← hh]
  have F1 := Lib.hid ((((Fr.refl nob w).alloc _).alloc _).trans f (U := nob) (fun _ _ x => x) (fun _ _ x => x))
  clear f hh
  have k0 : w1.cell? ⟨h, 0, none⟩ = some (.int .i64 l) := obj_cell A1.out 0
  have k1 : w1.cell? ⟨h, 1, none⟩ = some (.int .i64 a) := obj_cell A1.out 1
  have k2 : w1.cell? ⟨h, 2, none⟩ = some (.int .i64 b) := obj_cell A1.out 2
  have k3 : w1.cell? ⟨h, 3, none⟩ = some (.int .i64 c) := obj_cell A1.out 3
  have k4 : w1.cell? ⟨h, 4, none⟩ = some (.int .i64 d) := obj_cell A1.out 4
  have k5 : w1.cell? ⟨h, 5, none⟩ = some (.int .i64 s) := obj_cell A1.out 5
  have k6 : w1.cell? ⟨h, 6, none⟩ = some (.int .i64 t) := obj_cell A1.out 6
  have k7 : w1.cell? ⟨h, 7, none⟩ = some (.int .i64 u) := obj_cell A1.out 7
  have k8 : w1.cell? ⟨h, 8, none⟩ = some (.int .i64 v) := obj_cell A1.out 8
  go_wp2_with (go_at_call 13; refine stop ?_)
  clear k0 k1 k2 k3 k4 k5 k6 k7 k8
  refine Stop.go ((Hri.out w1).mono ?_)
  rintro e w2 ⟨rfl, f⟩
  have F2 := Lib.hid (F1.out.step f)
  have A2 := Lib.hid (f.heap_some A1.out (fun x => x))
  clear f Hri
  go_wp2
  go_ret
  exact ⟨rfl, F2.out⟩

set_option maxRecDepth 100000 in
set_option maxHeartbeats 2000000 in
theorem mayl_c2 (l a b c d s t u v who aa bb : Int) (w : World) (ri : ∀ w, Calls Try.prog 13 #[.agg #[.int .i64 l, .int .i64 a, .int .i64 b, .int .i64 c, .int .i64 d, .int .i64 s, .int .i64 t, .int .i64 u, .int .i64 v]] w fun e w' => e = .returned (.bool true) ∧ Fr nob w w') (n0 : ¬ who < 0) (n1 : ¬ 4 ≤ who) (y : aa < 0) :
    Calls Try.prog 5 #[.agg #[.int .i64 l, .int .i64 a, .int .i64 b, .int .i64 c, .int .i64 d, .int .i64 s, .int .i64 t, .int .i64 u, .int .i64 v, .int .i64 who, .int .i64 aa, .int .i64 bb]] w fun e w' => e = .returned (.bool true) ∧ Fr nob w w' := by
  have d0 : decide (who < 0) = false := decide_eq_false n0
  have d1 : decide (4 ≤ who) = false := decide_eq_false n1
  have Hri := Lib.hid ri
  clear ri
  go_enter Try.func5, Try.ntmps5
  go_wp2_with (go_at_call 7; refine stop ?_)
  refine Stop.go ((awake_any _).mono ?_)
  rintro e w1 ⟨rfl, f⟩
  have A1 : Hid (w1.heap[w.heap.size + 1]? = some (.cells #[.int .i64 l, .int .i64 a, .int .i64 b, .int .i64 c, .int .i64 d, .int .i64 s, .int .i64 t, .int .i64 u, .int .i64 v] 24 (0, 0))) := Lib.hid (f.heap_some (obj_new (by simp) _) (fun x => x))
  obtain ⟨h, hh⟩ : ∃ h, h = w.heap.size + 1 := ⟨_, rfl⟩
  rw [← hh] at A1
  rw [← hh]
  have F1 := Lib.hid ((((Fr.refl nob w).alloc _).alloc _).trans f (U := nob) (fun _ _ x => x) (fun _ _ x => x))
  clear f hh
  have k0 : w1.cell? ⟨h, 0, none⟩ = some (.int .i64 l) := obj_cell A1.out 0
  have k1 : w1.cell? ⟨h, 1, none⟩ = some (.int .i64 a) := obj_cell A1.out 1
  have k2 : w1.cell? ⟨h, 2, none⟩ = some (.int .i64 b) := obj_cell A1.out 2
  have k3 : w1.cell? ⟨h, 3, none⟩ = some (.int .i64 c) := obj_cell A1.out 3
  have k4 : w1.cell? ⟨h, 4, none⟩ = some (.int .i64 d) := obj_cell A1.out 4
  have k5 : w1.cell? ⟨h, 5, none⟩ = some (.int .i64 s) := obj_cell A1.out 5
  have k6 : w1.cell? ⟨h, 6, none⟩ = some (.int .i64 t) := obj_cell A1.out 6
  have k7 : w1.cell? ⟨h, 7, none⟩ = some (.int .i64 u) := obj_cell A1.out 7
  have k8 : w1.cell? ⟨h, 8, none⟩ = some (.int .i64 v) := obj_cell A1.out 8
  go_wp2_with (go_at_call 13; refine stop ?_)
  clear k0 k1 k2 k3 k4 k5 k6 k7 k8
  refine Stop.go ((Hri.out w1).mono ?_)
  rintro e w2 ⟨rfl, f⟩
  have F2 := Lib.hid (F1.out.step f)
  have A2 := Lib.hid (f.heap_some A1.out (fun x => x))
  clear f Hri
  go_wp2
  go_ret
  exact ⟨rfl, F2.out⟩

set_option maxRecDepth 100000 in
set_option maxHeartbeats 2000000 in
theorem mayl_c3 (l a b c d s t u v who aa bb : Int) (w : World) (ri : ∀ w, Calls Try.prog 13 #[.agg #[.int .i64 l, .int .i64 a, .int .i64 b, .int .i64 c, .int .i64 d, .int .i64 s, .int .i64 t, .int .i64 u, .int .i64 v]] w fun e w' => e = .returned (.bool true) ∧ Fr nob w w') (n0 : ¬ who < 0) (n1 : ¬ 4 ≤ who) (n2 : ¬ aa < 0) (y : 1000000000 < aa) :
    Calls Try.prog 5 #[.agg #[.int .i64 l, .int .i64 a, .int .i64 b, .int .i64 c, .int .i64 d, .int .i64 s, .int .i64 t, .int .i64 u, .int .i64 v, .int .i64 who, .int .i64 aa, .int .i64 bb]] w fun e w' => e = .returned (.bool true) ∧ Fr nob w w' := by
  have d0 : decide (who < 0) = false := decide_eq_false n0
  have d1 : decide (4 ≤ who) = false := decide_eq_false n1
  have d2 : decide (aa < 0) = false := decide_eq_false n2
  have Hri := Lib.hid ri
  clear ri
  go_enter Try.func5, Try.ntmps5
  go_wp2_with (go_at_call 7; refine stop ?_)
  refine Stop.go ((awake_any _).mono ?_)
  rintro e w1 ⟨rfl, f⟩
  have A1 : Hid (w1.heap[w.heap.size + 1]? = some (.cells #[.int .i64 l, .int .i64 a, .int .i64 b, .int .i64 c, .int .i64 d, .int .i64 s, .int .i64 t, .int .i64 u, .int .i64 v] 24 (0, 0))) := Lib.hid (f.heap_some (obj_new (by simp) _) (fun x => x))
  obtain ⟨h, hh⟩ : ∃ h, h = w.heap.size + 1 := ⟨_, rfl⟩
  rw [← hh] at A1
  rw [← hh]
  have F1 := Lib.hid ((((Fr.refl nob w).alloc _).alloc _).trans f (U := nob) (fun _ _ x => x) (fun _ _ x => x))
  clear f hh
  have k0 : w1.cell? ⟨h, 0, none⟩ = some (.int .i64 l) := obj_cell A1.out 0
  have k1 : w1.cell? ⟨h, 1, none⟩ = some (.int .i64 a) := obj_cell A1.out 1
  have k2 : w1.cell? ⟨h, 2, none⟩ = some (.int .i64 b) := obj_cell A1.out 2
  have k3 : w1.cell? ⟨h, 3, none⟩ = some (.int .i64 c) := obj_cell A1.out 3
  have k4 : w1.cell? ⟨h, 4, none⟩ = some (.int .i64 d) := obj_cell A1.out 4
  have k5 : w1.cell? ⟨h, 5, none⟩ = some (.int .i64 s) := obj_cell A1.out 5
  have k6 : w1.cell? ⟨h, 6, none⟩ = some (.int .i64 t) := obj_cell A1.out 6
  have k7 : w1.cell? ⟨h, 7, none⟩ = some (.int .i64 u) := obj_cell A1.out 7
  have k8 : w1.cell? ⟨h, 8, none⟩ = some (.int .i64 v) := obj_cell A1.out 8
  go_wp2_with (go_at_call 13; refine stop ?_)
  clear k0 k1 k2 k3 k4 k5 k6 k7 k8
  refine Stop.go ((Hri.out w1).mono ?_)
  rintro e w2 ⟨rfl, f⟩
  have F2 := Lib.hid (F1.out.step f)
  have A2 := Lib.hid (f.heap_some A1.out (fun x => x))
  clear f Hri
  go_wp2
  go_ret
  exact ⟨rfl, F2.out⟩

set_option maxRecDepth 100000 in
set_option maxHeartbeats 2000000 in
theorem mayl_c4 (l a b c d s t u v who aa bb : Int) (w : World) (ri : ∀ w, Calls Try.prog 13 #[.agg #[.int .i64 l, .int .i64 a, .int .i64 b, .int .i64 c, .int .i64 d, .int .i64 s, .int .i64 t, .int .i64 u, .int .i64 v]] w fun e w' => e = .returned (.bool true) ∧ Fr nob w w') (n0 : ¬ who < 0) (n1 : ¬ 4 ≤ who) (n2 : ¬ aa < 0) (n3 : ¬ 1000000000 < aa) (y : bb < 0) :
    Calls Try.prog 5 #[.agg #[.int .i64 l, .int .i64 a, .int .i64 b, .int .i64 c, .int .i64 d, .int .i64 s, .int .i64 t, .int .i64 u, .int .i64 v, .int .i64 who, .int .i64 aa, .int .i64 bb]] w fun e w' => e = .returned (.bool true) ∧ Fr nob w w' := by
  have d0 : decide (who < 0) = false := decide_eq_false n0
  have d1 : decide (4 ≤ who) = false := decide_eq_false n1
  have d2 : decide (aa < 0) = false := decide_eq_false n2
  have d3 : decide (1000000000 < aa) = false := decide_eq_false n3
  have Hri := Lib.hid ri
  clear ri
  go_enter Try.func5, Try.ntmps5
  go_wp2_with (go_at_call 7; refine stop ?_)
  refine Stop.go ((awake_any _).mono ?_)
  rintro e w1 ⟨rfl, f⟩
  have A1 : Hid (w1.heap[w.heap.size + 1]? = some (.cells #[.int .i64 l, .int .i64 a, .int .i64 b, .int .i64 c, .int .i64 d, .int .i64 s, .int .i64 t, .int .i64 u, .int .i64 v] 24 (0, 0))) := Lib.hid (f.heap_some (obj_new (by simp) _) (fun x => x))
  obtain ⟨h, hh⟩ : ∃ h, h = w.heap.size + 1 := ⟨_, rfl⟩
  rw [← hh] at A1
  rw [← hh]
  have F1 := Lib.hid ((((Fr.refl nob w).alloc _).alloc _).trans f (U := nob) (fun _ _ x => x) (fun _ _ x => x))
  clear f hh
  have k0 : w1.cell? ⟨h, 0, none⟩ = some (.int .i64 l) := obj_cell A1.out 0
  have k1 : w1.cell? ⟨h, 1, none⟩ = some (.int .i64 a) := obj_cell A1.out 1
  have k2 : w1.cell? ⟨h, 2, none⟩ = some (.int .i64 b) := obj_cell A1.out 2
  have k3 : w1.cell? ⟨h, 3, none⟩ = some (.int .i64 c) := obj_cell A1.out 3
  have k4 : w1.cell? ⟨h, 4, none⟩ = some (.int .i64 d) := obj_cell A1.out 4
  have k5 : w1.cell? ⟨h, 5, none⟩ = some (.int .i64 s) := obj_cell A1.out 5
  have k6 : w1.cell? ⟨h, 6, none⟩ = some (.int .i64 t) := obj_cell A1.out 6
  have k7 : w1.cell? ⟨h, 7, none⟩ = some (.int .i64 u) := obj_cell A1.out 7
  have k8 : w1.cell? ⟨h, 8, none⟩ = some (.int .i64 v) := obj_cell A1.out 8
  go_wp2_with (go_at_call 13; refine stop ?_)
  clear k0 k1 k2 k3 k4 k5 k6 k7 k8
  refine Stop.go ((Hri.out w1).mono ?_)
  rintro e w2 ⟨rfl, f⟩
  have F2 := Lib.hid (F1.out.step f)
  have A2 := Lib.hid (f.heap_some A1.out (fun x => x))
  clear f Hri
  go_wp2
  go_ret
  exact ⟨rfl, F2.out⟩

set_option maxRecDepth 100000 in
set_option maxHeartbeats 2000000 in
theorem mayl_c5 (l a b c d s t u v who aa bb : Int) (w : World) (ri : ∀ w, Calls Try.prog 13 #[.agg #[.int .i64 l, .int .i64 a, .int .i64 b, .int .i64 c, .int .i64 d, .int .i64 s, .int .i64 t, .int .i64 u, .int .i64 v]] w fun e w' => e = .returned (.bool true) ∧ Fr nob w w') (n0 : ¬ who < 0) (n1 : ¬ 4 ≤ who) (n2 : ¬ aa < 0) (n3 : ¬ 1000000000 < aa) (n4 : ¬ bb < 0) (y : 1000000000 < bb) :
    Calls Try.prog 5 #[.agg #[.int .i64 l, .int .i64 a, .int .i64 b, .int .i64 c, .int .i64 d, .int .i64 s, .int .i64 t, .int .i64 u, .int .i64 v, .int .i64 who, .int .i64 aa, .int .i64 bb]] w fun e w' => e = .returned (.bool true) ∧ Fr nob w w' := by
  have d0 : decide (who < 0) = false := decide_eq_false n0
  have d1 : decide (4 ≤ who) = false := decide_eq_false n1
  have d2 : decide (aa < 0) = false := decide_eq_false n2
  have d3 : decide (1000000000 < aa) = false := decide_eq_false n3
  have d4 : decide (bb < 0) = false := decide_eq_false n4
  have Hri := Lib.hid ri
  clear ri
  go_enter Try.func5, Try.ntmps5
  go_wp2_with (go_at_call 7; refine stop ?_)
  refine Stop.go ((awake_any _).mono ?_)
  rintro e w1 ⟨rfl, f⟩
  have A1 : Hid (w1.heap[w.heap.size + 1]? = some (.cells #[.int .i64 l, .int .i64 a, .int .i64 b, .int .i64 c, .int .i64 d, .int .i64 s, .int .i64 t, .int .i64 u, .int .i64 v] 24 (0, 0))) := Lib.hid (f.heap_some (obj_new (by simp) _) (fun x => x))
  obtain ⟨h, hh⟩ : ∃ h, h = w.heap.size + 1 := ⟨_, rfl⟩
  rw [← hh] at A1
  rw [← hh]
  have F1 := Lib.hid ((((Fr.refl nob w).alloc _).alloc _).trans f (U := nob) (fun _ _ x => x) (fun _ _ x => x))
  clear f hh
  have k0 : w1.cell? ⟨h, 0, none⟩ = some (.int .i64 l) := obj_cell A1.out 0
  have k1 : w1.cell? ⟨h, 1, none⟩ = some (.int .i64 a) := obj_cell A1.out 1
  have k2 : w1.cell? ⟨h, 2, none⟩ = some (.int .i64 b) := obj_cell A1.out 2
  have k3 : w1.cell? ⟨h, 3, none⟩ = some (.int .i64 c) := obj_cell A1.out 3
  have k4 : w1.cell? ⟨h, 4, none⟩ = some (.int .i64 d) := obj_cell A1.out 4
  have k5 : w1.cell? ⟨h, 5, none⟩ = some (.int .i64 s) := obj_cell A1.out 5
  have k6 : w1.cell? ⟨h, 6, none⟩ = some (.int .i64 t) := obj_cell A1.out 6
  have k7 : w1.cell? ⟨h, 7, none⟩ = some (.int .i64 u) := obj_cell A1.out 7
  have k8 : w1.cell? ⟨h, 8, none⟩ = some (.int .i64 v) := obj_cell A1.out 8
  go_wp2_with (go_at_call 13; refine stop ?_)
  clear k0 k1 k2 k3 k4 k5 k6 k7 k8
  refine Stop.go ((Hri.out w1).mono ?_)
  rintro e w2 ⟨rfl, f⟩
  have F2 := Lib.hid (F1.out.step f)
  have A2 := Lib.hid (f.heap_some A1.out (fun x => x))
  clear f Hri
  go_wp2
  go_ret
  exact ⟨rfl, F2.out⟩

set_option maxRecDepth 100000 in
set_option maxHeartbeats 2000000 in
theorem mayl_all (l a b c d s t u v who aa bb l1 a1 b1 c1 d1 s1 t1 u1 v1 l2 a2 b2 c2 d2 s2 t2 u2 v2 may1 : Int) (w : World) (ri : ∀ w, Calls Try.prog 13 #[.agg #[.int .i64 l, .int .i64 a, .int .i64 b, .int .i64 c, .int .i64 d, .int .i64 s, .int .i64 t, .int .i64 u, .int .i64 v]] w fun e w' => e = .returned (.bool true) ∧ Fr nob w w') (hw : 0 ≤ who ∧ who < 4) (ha : 0 ≤ aa ∧ aa ≤ 1000000000) (hb : 0 ≤ bb ∧ bb ≤ 1000000000) (hm : may1 = aa) (ml : ¬ l < may1) (sp1 : ∀ w, Calls Try.prog 9 #[.agg #[.int .i64 l, .int .i64 a, .int .i64 b, .int .i64 c, .int .i64 d, .int .i64 s, .int .i64 t, .int .i64 u, .int .i64 v], .int .i64 who, .int .i64 aa] w fun e w' => e = .returned (.tuple #[.agg #[.int .i64 l1, .int .i64 a1, .int .i64 b1, .int .i64 c1, .int .i64 d1, .int .i64 s1, .int .i64 t1, .int .i64 u1, .int .i64 v1], .int .i64 0]) ∧ Fr nob w w') (sp2 : ∀ w, Calls Try.prog 9 #[.agg #[.int .i64 l, .int .i64 a, .int .i64 b, .int .i64 c, .int .i64 d, .int .i64 s, .int .i64 t, .int .i64 u, .int .i64 v], .int .i64 who, .int .i64 (aa + bb)] w fun e w' => e = .returned (.tuple #[.agg #[.int .i64 l2, .int .i64 a2, .int .i64 b2, .int .i64 c2, .int .i64 d2, .int .i64 s2, .int .i64 t2, .int .i64 u2, .int .i64 v2], .int .i64 0]) ∧ Fr nob w w') (sp3 : ∀ w, Calls Try.prog 9 #[.agg #[.int .i64 l1, .int .i64 a1, .int .i64 b1, .int .i64 c1, .int .i64 d1, .int .i64 s1, .int .i64 t1, .int .i64 u1, .int .i64 v1], .int .i64 who, .int .i64 bb] w fun e w' => e = .returned (.tuple #[.agg #[.int .i64 l2, .int .i64 a2, .int .i64 b2, .int .i64 c2, .int .i64 d2, .int .i64 s2, .int .i64 t2, .int .i64 u2, .int .i64 v2], .int .i64 0]) ∧ Fr nob w w') (ma : ∀ w, Calls Try.prog 14 #[.agg #[.int .i64 l, .int .i64 a, .int .i64 b, .int .i64 c, .int .i64 d, .int .i64 s, .int .i64 t, .int .i64 u, .int .i64 v], .int .i64 who, .int .i64 aa] w fun e w' => e = .returned (.int .i64 may1) ∧ Fr nob w w') :
    Calls Try.prog 5 #[.agg #[.int .i64 l, .int .i64 a, .int .i64 b, .int .i64 c, .int .i64 d, .int .i64 s, .int .i64 t, .int .i64 u, .int .i64 v, .int .i64 who, .int .i64 aa, .int .i64 bb]] w fun e w' => e = .returned (.bool true) ∧ Fr nob w w' := by
  have Hri := Lib.hid ri
  have Hsp1 := Lib.hid sp1
  have Hsp1' := Lib.hid sp1
  have Hsp2 := Lib.hid sp2
  have Hsp3 := Lib.hid sp3
  have Hma := Lib.hid ma
  clear ri sp1 sp2 sp3 ma
  have d0 : decide (who < 0) = false := decide_eq_false (by omega)
  have d1 : decide (4 ≤ who) = false := decide_eq_false (by omega)
  have d2 : decide (aa < 0) = false := decide_eq_false (by omega)
  have d3 : decide (1000000000 < aa) = false := decide_eq_false (by omega)
  have d4 : decide (bb < 0) = false := decide_eq_false (by omega)
  have d5 : decide (1000000000 < bb) = false := decide_eq_false (by omega)
  have e22 : ∀ (a b c d : Int) (w : World), (Op.equalIn 9999 22 (.agg #[.int .i64 a, .int .i64 b, .int .i64 c, .int .i64 d]) (.agg #[.int .i64 a, .int .i64 b, .int .i64 c, .int .i64 d])).run Try.prog w = .ok true w := fun a b c d w => by rw [eq4_at 9997]; simp
  have q0 : decide (l < may1) = false := decide_eq_false ml
  go_enter Try.func5, Try.ntmps5
  go_wp2_with (go_at_call 7; refine stop ?_)
  refine Stop.go ((awake_any _).mono ?_)
  rintro e w1 ⟨rfl, f⟩
  have A1 : Hid (w1.heap[w.heap.size + 1]? = some (.cells #[.int .i64 l, .int .i64 a, .int .i64 b, .int .i64 c, .int .i64 d, .int .i64 s, .int .i64 t, .int .i64 u, .int .i64 v] 24 (0, 0))) := Lib.hid (f.heap_some (obj_new (by simp) _) (fun x => x))
  obtain ⟨h, hh⟩ : ∃ h, h = w.heap.size + 1 := ⟨_, rfl⟩
  rw [← hh] at A1
  rw [← hh]
  have F1 := Lib.hid ((((Fr.refl nob w).alloc _).alloc _).trans f (U := nob) (fun _ _ x => x) (fun _ _ x => x))
  clear f hh
  have k0 : w1.cell? ⟨h, 0, none⟩ = some (.int .i64 l) := obj_cell A1.out 0
  have k1 : w1.cell? ⟨h, 1, none⟩ = some (.int .i64 a) := obj_cell A1.out 1
  have k2 : w1.cell? ⟨h, 2, none⟩ = some (.int .i64 b) := obj_cell A1.out 2
  have k3 : w1.cell? ⟨h, 3, none⟩ = some (.int .i64 c) := obj_cell A1.out 3
  have k4 : w1.cell? ⟨h, 4, none⟩ = some (.int .i64 d) := obj_cell A1.out 4
  have k5 : w1.cell? ⟨h, 5, none⟩ = some (.int .i64 s) := obj_cell A1.out 5
  have k6 : w1.cell? ⟨h, 6, none⟩ = some (.int .i64 t) := obj_cell A1.out 6
  have k7 : w1.cell? ⟨h, 7, none⟩ = some (.int .i64 u) := obj_cell A1.out 7
  have k8 : w1.cell? ⟨h, 8, none⟩ = some (.int .i64 v) := obj_cell A1.out 8
  go_wp2_with (go_at_call 13; refine stop ?_)
  clear k0 k1 k2 k3 k4 k5 k6 k7 k8
  refine Stop.go ((Hri.out w1).mono ?_)
  rintro e w2 ⟨rfl, f⟩
  have F2 := Lib.hid (F1.out.step f)
  have A2 := Lib.hid (f.heap_some A1.out (fun x => x))
  clear f Hri
  have k0 : w2.cell? ⟨h, 0, none⟩ = some (.int .i64 l) := obj_cell A2.out 0
  have k1 : w2.cell? ⟨h, 1, none⟩ = some (.int .i64 a) := obj_cell A2.out 1
  have k2 : w2.cell? ⟨h, 2, none⟩ = some (.int .i64 b) := obj_cell A2.out 2
  have k3 : w2.cell? ⟨h, 3, none⟩ = some (.int .i64 c) := obj_cell A2.out 3
  have k4 : w2.cell? ⟨h, 4, none⟩ = some (.int .i64 d) := obj_cell A2.out 4
  have k5 : w2.cell? ⟨h, 5, none⟩ = some (.int .i64 s) := obj_cell A2.out 5
  have k6 : w2.cell? ⟨h, 6, none⟩ = some (.int .i64 t) := obj_cell A2.out 6
  have k7 : w2.cell? ⟨h, 7, none⟩ = some (.int .i64 u) := obj_cell A2.out 7
  have k8 : w2.cell? ⟨h, 8, none⟩ = some (.int .i64 v) := obj_cell A2.out 8
  go_wp2_with (go_at_call 9; refine stop ?_)
  clear d0 d1 d2 d3 d4 d5
  clear k0 k1 k2 k3 k4 k5 k6 k7 k8
  refine Stop.go ((Hsp1.out w2).mono ?_)
  rintro e w3 ⟨rfl, f⟩
  have F3 := Lib.hid (F2.out.step f)
  have A3 := Lib.hid (f.heap_some A2.out (fun x => x))
  clear f Hsp1
  go_upto_region 11 with fail
  obtain ⟨w4, hw⟩ : ∃ w4, w4 = w3.alloc (.cells #[.int .i64 l1, .int .i64 a1, .int .i64 b1, .int .i64 c1, .int .i64 d1, .int .i64 s1, .int .i64 t1, .int .i64 u1, .int .i64 v1] 24) := ⟨_, rfl⟩
  simp only [← hw]
  obtain ⟨g8, hg⟩ : ∃ g8, g8 = w3.heap.size := ⟨_, rfl⟩
  rw [← hg]
  have B4 : Hid (w4.heap[g8]? = some (.cells #[.int .i64 l1, .int .i64 a1, .int .i64 b1, .int .i64 c1, .int .i64 d1, .int .i64 s1, .int .i64 t1, .int .i64 u1, .int .i64 v1] 24 (0, 0))) := hw ▸ obj_new hg _
  have F4 := Lib.hid (hw ▸ F3.out.alloc _ : Fr nob w w4)
  have A4 : Hid (w4.heap[h]? = some (.cells #[.int .i64 l, .int .i64 a, .int .i64 b, .int .i64 c, .int .i64 d, .int .i64 s, .int .i64 t, .int .i64 u, .int .i64 v] 24 (0, 0))) := hw ▸ obj_alloc A3.out _
  clear hw hg
  have x0 : ∀ x : Grown w4, x.w.cell? ⟨h, 0, none⟩ = some (.int .i64 l) := Grown.cell (obj_cell A4.out 0)
  have x1 : ∀ x : Grown w4, x.w.cell? ⟨h, 1, none⟩ = some (.int .i64 a) := Grown.cell (obj_cell A4.out 1)
  have x2 : ∀ x : Grown w4, x.w.cell? ⟨h, 2, none⟩ = some (.int .i64 b) := Grown.cell (obj_cell A4.out 2)
  have x3 : ∀ x : Grown w4, x.w.cell? ⟨h, 3, none⟩ = some (.int .i64 c) := Grown.cell (obj_cell A4.out 3)
  have x4 : ∀ x : Grown w4, x.w.cell? ⟨h, 4, none⟩ = some (.int .i64 d) := Grown.cell (obj_cell A4.out 4)
  have x5 : ∀ x : Grown w4, x.w.cell? ⟨h, 5, none⟩ = some (.int .i64 s) := Grown.cell (obj_cell A4.out 5)
  have x6 : ∀ x : Grown w4, x.w.cell? ⟨h, 6, none⟩ = some (.int .i64 t) := Grown.cell (obj_cell A4.out 6)
  have x7 : ∀ x : Grown w4, x.w.cell? ⟨h, 7, none⟩ = some (.int .i64 u) := Grown.cell (obj_cell A4.out 7)
  have x8 : ∀ x : Grown w4, x.w.cell? ⟨h, 8, none⟩ = some (.int .i64 v) := Grown.cell (obj_cell A4.out 8)
  refine region_grown (by kernel_rfl) (by kernel_rfl) ?_
  repeat (go_big_quiet_step ((go_at_call 14; exact Grown.call _ (Hma.out _))))
  refine wpQuiet_nil ?_
  intro w5 hw5
  have f := grown_get hw5
  have F5 := Lib.hid (F4.out.step f)
  have A5 := Lib.hid (f.heap_some A4.out (fun x => x))
  clear hw5 f q0 Hma
  clear x0 x1 x2 x3 x4 x5 x6 x7 x8
  have k0 : w5.cell? ⟨h, 0, none⟩ = some (.int .i64 l) := obj_cell A5.out 0
  have k1 : w5.cell? ⟨h, 1, none⟩ = some (.int .i64 a) := obj_cell A5.out 1
  have k2 : w5.cell? ⟨h, 2, none⟩ = some (.int .i64 b) := obj_cell A5.out 2
  have k3 : w5.cell? ⟨h, 3, none⟩ = some (.int .i64 c) := obj_cell A5.out 3
  have k4 : w5.cell? ⟨h, 4, none⟩ = some (.int .i64 d) := obj_cell A5.out 4
  have k5 : w5.cell? ⟨h, 5, none⟩ = some (.int .i64 s) := obj_cell A5.out 5
  have k6 : w5.cell? ⟨h, 6, none⟩ = some (.int .i64 t) := obj_cell A5.out 6
  have k7 : w5.cell? ⟨h, 7, none⟩ = some (.int .i64 u) := obj_cell A5.out 7
  have k8 : w5.cell? ⟨h, 8, none⟩ = some (.int .i64 v) := obj_cell A5.out 8
  go_wp2_with (go_at_call 9; refine stop ?_)
  clear k0 k1 k2 k3 k4 k5 k6 k7 k8
  refine Stop.go ((Hsp2.out w5).mono ?_)
  rintro e w6 ⟨rfl, f⟩
  have F6 := Lib.hid (F5.out.step f)
  have A6 := Lib.hid (f.heap_some A5.out (fun x => x))
  clear f Hsp2
  have k0 : ∀ o, (w6.alloc o).cell? ⟨h, 0, none⟩ = some (.int .i64 l) := fun o => obj_cell (obj_alloc A6.out o) 0
  have k1 : ∀ o, (w6.alloc o).cell? ⟨h, 1, none⟩ = some (.int .i64 a) := fun o => obj_cell (obj_alloc A6.out o) 1
  have k2 : ∀ o, (w6.alloc o).cell? ⟨h, 2, none⟩ = some (.int .i64 b) := fun o => obj_cell (obj_alloc A6.out o) 2
  have k3 : ∀ o, (w6.alloc o).cell? ⟨h, 3, none⟩ = some (.int .i64 c) := fun o => obj_cell (obj_alloc A6.out o) 3
  have k4 : ∀ o, (w6.alloc o).cell? ⟨h, 4, none⟩ = some (.int .i64 d) := fun o => obj_cell (obj_alloc A6.out o) 4
  have k5 : ∀ o, (w6.alloc o).cell? ⟨h, 5, none⟩ = some (.int .i64 s) := fun o => obj_cell (obj_alloc A6.out o) 5
  have k6 : ∀ o, (w6.alloc o).cell? ⟨h, 6, none⟩ = some (.int .i64 t) := fun o => obj_cell (obj_alloc A6.out o) 6
  have k7 : ∀ o, (w6.alloc o).cell? ⟨h, 7, none⟩ = some (.int .i64 u) := fun o => obj_cell (obj_alloc A6.out o) 7
  have k8 : ∀ o, (w6.alloc o).cell? ⟨h, 8, none⟩ = some (.int .i64 v) := fun o => obj_cell (obj_alloc A6.out o) 8
  go_wp2_with (go_at_call 9; refine stop ?_)
  clear k0 k1 k2 k3 k4 k5 k6 k7 k8
  obtain ⟨w7, hw⟩ : ∃ w7, w7 = w6.alloc (.cells #[.int .i64 l2, .int .i64 a2, .int .i64 b2, .int .i64 c2, .int .i64 d2, .int .i64 s2, .int .i64 t2, .int .i64 u2, .int .i64 v2] 24) := ⟨_, rfl⟩
  simp only [← hw]
  obtain ⟨g10, hg⟩ : ∃ g10, g10 = w6.heap.size := ⟨_, rfl⟩
  rw [← hg]
  have B7 : Hid (w7.heap[g10]? = some (.cells #[.int .i64 l2, .int .i64 a2, .int .i64 b2, .int .i64 c2, .int .i64 d2, .int .i64 s2, .int .i64 t2, .int .i64 u2, .int .i64 v2] 24 (0, 0))) := hw ▸ obj_new hg _
  have F7 := Lib.hid (hw ▸ F6.out.alloc _ : Fr nob w w7)
  have A7 : Hid (w7.heap[h]? = some (.cells #[.int .i64 l, .int .i64 a, .int .i64 b, .int .i64 c, .int .i64 d, .int .i64 s, .int .i64 t, .int .i64 u, .int .i64 v] 24 (0, 0))) := hw ▸ obj_alloc A6.out _
  clear hw hg
  refine Stop.go ((Hsp1'.out w7).mono ?_)
  rintro e w8 ⟨rfl, f⟩
  have F8 := Lib.hid (F7.out.step f)
  have A8 := Lib.hid (f.heap_some A7.out (fun x => x))
  have B8 := Lib.hid (f.heap_some B7.out (fun x => x))
  clear f Hsp1'
  go_wp2_with (go_at_call 9; refine stop ?_)
  obtain ⟨w9, hw⟩ : ∃ w9, w9 = w8.alloc (.cells #[.int .i64 l1, .int .i64 a1, .int .i64 b1, .int .i64 c1, .int .i64 d1, .int .i64 s1, .int .i64 t1, .int .i64 u1, .int .i64 v1] 24) := ⟨_, rfl⟩
  simp only [← hw]
  obtain ⟨g12, hg⟩ : ∃ g12, g12 = w8.heap.size := ⟨_, rfl⟩
  rw [← hg]
  have C9 : Hid (w9.heap[g12]? = some (.cells #[.int .i64 l1, .int .i64 a1, .int .i64 b1, .int .i64 c1, .int .i64 d1, .int .i64 s1, .int .i64 t1, .int .i64 u1, .int .i64 v1] 24 (0, 0))) := hw ▸ obj_new hg _
  have F9 := Lib.hid (hw ▸ F8.out.alloc _ : Fr nob w w9)
  have B9 : Hid (w9.heap[g10]? = some (.cells #[.int .i64 l2, .int .i64 a2, .int .i64 b2, .int .i64 c2, .int .i64 d2, .int .i64 s2, .int .i64 t2, .int .i64 u2, .int .i64 v2] 24 (0, 0))) := hw ▸ obj_alloc B8.out _
  clear hw hg
  refine Stop.go ((Hsp3.out w9).mono ?_)
  rintro e w10 ⟨rfl, f⟩
  have F10 := Lib.hid (F9.out.step f)
  have B10 := Lib.hid (f.heap_some B9.out (fun x => x))
  clear f Hsp3
  have k0 : ∀ o, (w10.alloc o).cell? ⟨g10, 0, none⟩ = some (.int .i64 l2) := fun o => obj_cell (obj_alloc B10.out o) 0
  have k1 : ∀ o, (w10.alloc o).cell? ⟨g10, 1, none⟩ = some (.int .i64 a2) := fun o => obj_cell (obj_alloc B10.out o) 1
  have k2 : ∀ o, (w10.alloc o).cell? ⟨g10, 2, none⟩ = some (.int .i64 b2) := fun o => obj_cell (obj_alloc B10.out o) 2
  have k3 : ∀ o, (w10.alloc o).cell? ⟨g10, 3, none⟩ = some (.int .i64 c2) := fun o => obj_cell (obj_alloc B10.out o) 3
  have k4 : ∀ o, (w10.alloc o).cell? ⟨g10, 4, none⟩ = some (.int .i64 d2) := fun o => obj_cell (obj_alloc B10.out o) 4
  have k5 : ∀ o, (w10.alloc o).cell? ⟨g10, 5, none⟩ = some (.int .i64 s2) := fun o => obj_cell (obj_alloc B10.out o) 5
  have k6 : ∀ o, (w10.alloc o).cell? ⟨g10, 6, none⟩ = some (.int .i64 t2) := fun o => obj_cell (obj_alloc B10.out o) 6
  have k7 : ∀ o, (w10.alloc o).cell? ⟨g10, 7, none⟩ = some (.int .i64 u2) := fun o => obj_cell (obj_alloc B10.out o) 7
  have k8 : ∀ o, (w10.alloc o).cell? ⟨g10, 8, none⟩ = some (.int .i64 v2) := fun o => obj_cell (obj_alloc B10.out o) 8
  go_wp2
  go_ret
  exact ⟨rfl, F10.out.alloc _⟩

set_option maxRecDepth 100000 in
set_option maxHeartbeats 2000000 in
theorem mayl_no (l a b c d s t u v who aa bb l1 a1 b1 c1 d1 s1 t1 u1 v1 l2 a2 b2 c2 d2 s2 t2 u2 v2 l3 a3 b3 c3 d3 s3 t3 u3 v3 may1 g : Int) (w : World) (ri : ∀ w, Calls Try.prog 13 #[.agg #[.int .i64 l, .int .i64 a, .int .i64 b, .int .i64 c, .int .i64 d, .int .i64 s, .int .i64 t, .int .i64 u, .int .i64 v]] w fun e w' => e = .returned (.bool true) ∧ Fr nob w w') (hw : 0 ≤ who ∧ who < 4) (ha : 0 ≤ aa ∧ aa ≤ 1000000000) (hb : 0 ≤ bb ∧ bb ≤ 1000000000) (hm : may1 < aa) (ml : ¬ l < may1) (sp1 : ∀ w, Calls Try.prog 9 #[.agg #[.int .i64 l, .int .i64 a, .int .i64 b, .int .i64 c, .int .i64 d, .int .i64 s, .int .i64 t, .int .i64 u, .int .i64 v], .int .i64 who, .int .i64 aa] w fun e w' => e = .returned (.tuple #[.agg #[.int .i64 l1, .int .i64 a1, .int .i64 b1, .int .i64 c1, .int .i64 d1, .int .i64 s1, .int .i64 t1, .int .i64 u1, .int .i64 v1], .int .i64 15]) ∧ Fr nob w w') (sp2 : ∀ w, Calls Try.prog 9 #[.agg #[.int .i64 l, .int .i64 a, .int .i64 b, .int .i64 c, .int .i64 d, .int .i64 s, .int .i64 t, .int .i64 u, .int .i64 v], .int .i64 who, .int .i64 (aa + bb)] w fun e w' => e = .returned (.tuple #[.agg #[.int .i64 l2, .int .i64 a2, .int .i64 b2, .int .i64 c2, .int .i64 d2, .int .i64 s2, .int .i64 t2, .int .i64 u2, .int .i64 v2], .int .i64 15]) ∧ Fr nob w w') (sp3 : ∀ w, Calls Try.prog 9 #[.agg #[.int .i64 l1, .int .i64 a1, .int .i64 b1, .int .i64 c1, .int .i64 d1, .int .i64 s1, .int .i64 t1, .int .i64 u1, .int .i64 v1], .int .i64 who, .int .i64 bb] w fun e w' => e = .returned (.tuple #[.agg #[.int .i64 l3, .int .i64 a3, .int .i64 b3, .int .i64 c3, .int .i64 d3, .int .i64 s3, .int .i64 t3, .int .i64 u3, .int .i64 v3], .int .i64 g]) ∧ Fr nob w w') (ma : ∀ w, Calls Try.prog 14 #[.agg #[.int .i64 l, .int .i64 a, .int .i64 b, .int .i64 c, .int .i64 d, .int .i64 s, .int .i64 t, .int .i64 u, .int .i64 v], .int .i64 who, .int .i64 aa] w fun e w' => e = .returned (.int .i64 may1) ∧ Fr nob w w') :
    Calls Try.prog 5 #[.agg #[.int .i64 l, .int .i64 a, .int .i64 b, .int .i64 c, .int .i64 d, .int .i64 s, .int .i64 t, .int .i64 u, .int .i64 v, .int .i64 who, .int .i64 aa, .int .i64 bb]] w fun e w' => e = .returned (.bool true) ∧ Fr nob w w' := by
  have Hri := Lib.hid ri
  have Hsp1 := Lib.hid sp1
  have Hsp1' := Lib.hid sp1
  have Hsp2 := Lib.hid sp2
  have Hsp3 := Lib.hid sp3
  have Hma := Lib.hid ma
  clear ri sp1 sp2 sp3 ma
  have d0 : decide (who < 0) = false := decide_eq_false (by omega)
  have d1 : decide (4 ≤ who) = false := decide_eq_false (by omega)
  have d2 : decide (aa < 0) = false := decide_eq_false (by omega)
  have d3 : decide (1000000000 < aa) = false := decide_eq_false (by omega)
  have d4 : decide (bb < 0) = false := decide_eq_false (by omega)
  have d5 : decide (1000000000 < bb) = false := decide_eq_false (by omega)
  have e22 : ∀ (a b c d : Int) (w : World), (Op.equalIn 9999 22 (.agg #[.int .i64 a, .int .i64 b, .int .i64 c, .int .i64 d]) (.agg #[.int .i64 a, .int .i64 b, .int .i64 c, .int .i64 d])).run Try.prog w = .ok true w := fun a b c d w => by rw [eq4_at 9997]; simp
  have q0 : decide (l < may1) = false := decide_eq_false ml
  have q1 : (may1 == aa) = false := by simpa using (by omega : ¬ may1 = aa)
  have q2 : decide (aa < may1) = false := decide_eq_false (by omega)
  go_enter Try.func5, Try.ntmps5
  go_wp2_with (go_at_call 7; refine stop ?_)
  refine Stop.go ((awake_any _).mono ?_)
  rintro e w1 ⟨rfl, f⟩
  have A1 : Hid (w1.heap[w.heap.size + 1]? = some (.cells #[.int .i64 l, .int .i64 a, .int .i64 b, .int .i64 c, .int .i64 d, .int .i64 s, .int .i64 t, .int .i64 u, .int .i64 v] 24 (0, 0))) := Lib.hid (f.heap_some (obj_new (by simp) _) (fun x => x))
  obtain ⟨h, hh⟩ : ∃ h, h = w.heap.size + 1 := ⟨_, rfl⟩
  rw [← hh] at A1
  rw [← hh]
  have F1 := Lib.hid ((((Fr.refl nob w).alloc _).alloc _).trans f (U := nob) (fun _ _ x => x) (fun _ _ x => x))
  clear f hh
  have k0 : w1.cell? ⟨h, 0, none⟩ = some (.int .i64 l) := obj_cell A1.out 0
  have k1 : w1.cell? ⟨h, 1, none⟩ = some (.int .i64 a) := obj_cell A1.out 1
  have k2 : w1.cell? ⟨h, 2, none⟩ = some (.int .i64 b) := obj_cell A1.out 2
  have k3 : w1.cell? ⟨h, 3, none⟩ = some (.int .i64 c) := obj_cell A1.out 3
  have k4 : w1.cell? ⟨h, 4, none⟩ = some (.int .i64 d) := obj_cell A1.out 4
  have k5 : w1.cell? ⟨h, 5, none⟩ = some (.int .i64 s) := obj_cell A1.out 5
  have k6 : w1.cell? ⟨h, 6, none⟩ = some (.int .i64 t) := obj_cell A1.out 6
  have k7 : w1.cell? ⟨h, 7, none⟩ = some (.int .i64 u) := obj_cell A1.out 7
  have k8 : w1.cell? ⟨h, 8, none⟩ = some (.int .i64 v) := obj_cell A1.out 8
  go_wp2_with (go_at_call 13; refine stop ?_)
  clear k0 k1 k2 k3 k4 k5 k6 k7 k8
  refine Stop.go ((Hri.out w1).mono ?_)
  rintro e w2 ⟨rfl, f⟩
  have F2 := Lib.hid (F1.out.step f)
  have A2 := Lib.hid (f.heap_some A1.out (fun x => x))
  clear f Hri
  have k0 : w2.cell? ⟨h, 0, none⟩ = some (.int .i64 l) := obj_cell A2.out 0
  have k1 : w2.cell? ⟨h, 1, none⟩ = some (.int .i64 a) := obj_cell A2.out 1
  have k2 : w2.cell? ⟨h, 2, none⟩ = some (.int .i64 b) := obj_cell A2.out 2
  have k3 : w2.cell? ⟨h, 3, none⟩ = some (.int .i64 c) := obj_cell A2.out 3
  have k4 : w2.cell? ⟨h, 4, none⟩ = some (.int .i64 d) := obj_cell A2.out 4
  have k5 : w2.cell? ⟨h, 5, none⟩ = some (.int .i64 s) := obj_cell A2.out 5
  have k6 : w2.cell? ⟨h, 6, none⟩ = some (.int .i64 t) := obj_cell A2.out 6
  have k7 : w2.cell? ⟨h, 7, none⟩ = some (.int .i64 u) := obj_cell A2.out 7
  have k8 : w2.cell? ⟨h, 8, none⟩ = some (.int .i64 v) := obj_cell A2.out 8
  go_wp2_with (go_at_call 9; refine stop ?_)
  clear d0 d1 d2 d3 d4 d5
  clear k0 k1 k2 k3 k4 k5 k6 k7 k8
  refine Stop.go ((Hsp1.out w2).mono ?_)
  rintro e w3 ⟨rfl, f⟩
  have F3 := Lib.hid (F2.out.step f)
  have A3 := Lib.hid (f.heap_some A2.out (fun x => x))
  clear f Hsp1
  go_upto_region 11 with fail
  obtain ⟨w4, hw⟩ : ∃ w4, w4 = w3.alloc (.cells #[.int .i64 l1, .int .i64 a1, .int .i64 b1, .int .i64 c1, .int .i64 d1, .int .i64 s1, .int .i64 t1, .int .i64 u1, .int .i64 v1] 24) := ⟨_, rfl⟩
  simp only [← hw]
  obtain ⟨g8, hg⟩ : ∃ g8, g8 = w3.heap.size := ⟨_, rfl⟩
  rw [← hg]
  have B4 : Hid (w4.heap[g8]? = some (.cells #[.int .i64 l1, .int .i64 a1, .int .i64 b1, .int .i64 c1, .int .i64 d1, .int .i64 s1, .int .i64 t1, .int .i64 u1, .int .i64 v1] 24 (0, 0))) := hw ▸ obj_new hg _
  have F4 := Lib.hid (hw ▸ F3.out.alloc _ : Fr nob w w4)
  have A4 : Hid (w4.heap[h]? = some (.cells #[.int .i64 l, .int .i64 a, .int .i64 b, .int .i64 c, .int .i64 d, .int .i64 s, .int .i64 t, .int .i64 u, .int .i64 v] 24 (0, 0))) := hw ▸ obj_alloc A3.out _
  clear hw hg
  have x0 : ∀ x : Grown w4, x.w.cell? ⟨h, 0, none⟩ = some (.int .i64 l) := Grown.cell (obj_cell A4.out 0)
  have x1 : ∀ x : Grown w4, x.w.cell? ⟨h, 1, none⟩ = some (.int .i64 a) := Grown.cell (obj_cell A4.out 1)
  have x2 : ∀ x : Grown w4, x.w.cell? ⟨h, 2, none⟩ = some (.int .i64 b) := Grown.cell (obj_cell A4.out 2)
  have x3 : ∀ x : Grown w4, x.w.cell? ⟨h, 3, none⟩ = some (.int .i64 c) := Grown.cell (obj_cell A4.out 3)
  have x4 : ∀ x : Grown w4, x.w.cell? ⟨h, 4, none⟩ = some (.int .i64 d) := Grown.cell (obj_cell A4.out 4)
  have x5 : ∀ x : Grown w4, x.w.cell? ⟨h, 5, none⟩ = some (.int .i64 s) := Grown.cell (obj_cell A4.out 5)
  have x6 : ∀ x : Grown w4, x.w.cell? ⟨h, 6, none⟩ = some (.int .i64 t) := Grown.cell (obj_cell A4.out 6)
  have x7 : ∀ x : Grown w4, x.w.cell? ⟨h, 7, none⟩ = some (.int .i64 u) := Grown.cell (obj_cell A4.out 7)
  have x8 : ∀ x : Grown w4, x.w.cell? ⟨h, 8, none⟩ = some (.int .i64 v) := Grown.cell (obj_cell A4.out 8)
  refine region_grown (by kernel_rfl) (by kernel_rfl) ?_
  repeat (go_big_quiet_step ((go_at_call 14; exact Grown.call _ (Hma.out _))))
  refine wpQuiet_nil ?_
  intro w5 hw5
  have f := grown_get hw5
  have F5 := Lib.hid (F4.out.step f)
  have A5 := Lib.hid (f.heap_some A4.out (fun x => x))
  clear hw5 f q0 Hma
  clear q1 q2
  clear x0 x1 x2 x3 x4 x5 x6 x7 x8
  have k0 : w5.cell? ⟨h, 0, none⟩ = some (.int .i64 l) := obj_cell A5.out 0
  have k1 : w5.cell? ⟨h, 1, none⟩ = some (.int .i64 a) := obj_cell A5.out 1
  have k2 : w5.cell? ⟨h, 2, none⟩ = some (.int .i64 b) := obj_cell A5.out 2
  have k3 : w5.cell? ⟨h, 3, none⟩ = some (.int .i64 c) := obj_cell A5.out 3
  have k4 : w5.cell? ⟨h, 4, none⟩ = some (.int .i64 d) := obj_cell A5.out 4
  have k5 : w5.cell? ⟨h, 5, none⟩ = some (.int .i64 s) := obj_cell A5.out 5
  have k6 : w5.cell? ⟨h, 6, none⟩ = some (.int .i64 t) := obj_cell A5.out 6
  have k7 : w5.cell? ⟨h, 7, none⟩ = some (.int .i64 u) := obj_cell A5.out 7
  have k8 : w5.cell? ⟨h, 8, none⟩ = some (.int .i64 v) := obj_cell A5.out 8
  go_wp2_with (go_at_call 9; refine stop ?_)
  clear k0 k1 k2 k3 k4 k5 k6 k7 k8
  refine Stop.go ((Hsp2.out w5).mono ?_)
  rintro e w6 ⟨rfl, f⟩
  have F6 := Lib.hid (F5.out.step f)
  have A6 := Lib.hid (f.heap_some A5.out (fun x => x))
  clear f Hsp2
  have k0 : ∀ o, (w6.alloc o).cell? ⟨h, 0, none⟩ = some (.int .i64 l) := fun o => obj_cell (obj_alloc A6.out o) 0
  have k1 : ∀ o, (w6.alloc o).cell? ⟨h, 1, none⟩ = some (.int .i64 a) := fun o => obj_cell (obj_alloc A6.out o) 1
  have k2 : ∀ o, (w6.alloc o).cell? ⟨h, 2, none⟩ = some (.int .i64 b) := fun o => obj_cell (obj_alloc A6.out o) 2
  have k3 : ∀ o, (w6.alloc o).cell? ⟨h, 3, none⟩ = some (.int .i64 c) := fun o => obj_cell (obj_alloc A6.out o) 3
  have k4 : ∀ o, (w6.alloc o).cell? ⟨h, 4, none⟩ = some (.int .i64 d) := fun o => obj_cell (obj_alloc A6.out o) 4
  have k5 : ∀ o, (w6.alloc o).cell? ⟨h, 5, none⟩ = some (.int .i64 s) := fun o => obj_cell (obj_alloc A6.out o) 5
  have k6 : ∀ o, (w6.alloc o).cell? ⟨h, 6, none⟩ = some (.int .i64 t) := fun o => obj_cell (obj_alloc A6.out o) 6
  have k7 : ∀ o, (w6.alloc o).cell? ⟨h, 7, none⟩ = some (.int .i64 u) := fun o => obj_cell (obj_alloc A6.out o) 7
  have k8 : ∀ o, (w6.alloc o).cell? ⟨h, 8, none⟩ = some (.int .i64 v) := fun o => obj_cell (obj_alloc A6.out o) 8
  go_wp2_with (go_at_call 9; refine stop ?_)
  clear k0 k1 k2 k3 k4 k5 k6 k7 k8
  obtain ⟨w7, hw⟩ : ∃ w7, w7 = w6.alloc (.cells #[.int .i64 l2, .int .i64 a2, .int .i64 b2, .int .i64 c2, .int .i64 d2, .int .i64 s2, .int .i64 t2, .int .i64 u2, .int .i64 v2] 24) := ⟨_, rfl⟩
  simp only [← hw]
  obtain ⟨g10, hg⟩ : ∃ g10, g10 = w6.heap.size := ⟨_, rfl⟩
  rw [← hg]
  have B7 : Hid (w7.heap[g10]? = some (.cells #[.int .i64 l2, .int .i64 a2, .int .i64 b2, .int .i64 c2, .int .i64 d2, .int .i64 s2, .int .i64 t2, .int .i64 u2, .int .i64 v2] 24 (0, 0))) := hw ▸ obj_new hg _
  have F7 := Lib.hid (hw ▸ F6.out.alloc _ : Fr nob w w7)
  have A7 : Hid (w7.heap[h]? = some (.cells #[.int .i64 l, .int .i64 a, .int .i64 b, .int .i64 c, .int .i64 d, .int .i64 s, .int .i64 t, .int .i64 u, .int .i64 v] 24 (0, 0))) := hw ▸ obj_alloc A6.out _
  clear hw hg
  refine Stop.go ((Hsp1'.out w7).mono ?_)
  rintro e w8 ⟨rfl, f⟩
  have F8 := Lib.hid (F7.out.step f)
  have A8 := Lib.hid (f.heap_some A7.out (fun x => x))
  have B8 := Lib.hid (f.heap_some B7.out (fun x => x))
  clear f Hsp1'
  go_wp2_with (go_at_call 9; refine stop ?_)
  obtain ⟨w9, hw⟩ : ∃ w9, w9 = w8.alloc (.cells #[.int .i64 l1, .int .i64 a1, .int .i64 b1, .int .i64 c1, .int .i64 d1, .int .i64 s1, .int .i64 t1, .int .i64 u1, .int .i64 v1] 24) := ⟨_, rfl⟩
  simp only [← hw]
  obtain ⟨g12, hg⟩ : ∃ g12, g12 = w8.heap.size := ⟨_, rfl⟩
  rw [← hg]
  have C9 : Hid (w9.heap[g12]? = some (.cells #[.int .i64 l1, .int .i64 a1, .int .i64 b1, .int .i64 c1, .int .i64 d1, .int .i64 s1, .int .i64 t1, .int .i64 u1, .int .i64 v1] 24 (0, 0))) := hw ▸ obj_new hg _
  have F9 := Lib.hid (hw ▸ F8.out.alloc _ : Fr nob w w9)
  have B9 : Hid (w9.heap[g10]? = some (.cells #[.int .i64 l2, .int .i64 a2, .int .i64 b2, .int .i64 c2, .int .i64 d2, .int .i64 s2, .int .i64 t2, .int .i64 u2, .int .i64 v2] 24 (0, 0))) := hw ▸ obj_alloc B8.out _
  clear hw hg
  refine Stop.go ((Hsp3.out w9).mono ?_)
  rintro e w10 ⟨rfl, f⟩
  have F10 := Lib.hid (F9.out.step f)
  have B10 := Lib.hid (f.heap_some B9.out (fun x => x))
  clear f Hsp3
  have k0 : ∀ o, (w10.alloc o).cell? ⟨g10, 0, none⟩ = some (.int .i64 l2) := fun o => obj_cell (obj_alloc B10.out o) 0
  have k1 : ∀ o, (w10.alloc o).cell? ⟨g10, 1, none⟩ = some (.int .i64 a2) := fun o => obj_cell (obj_alloc B10.out o) 1
  have k2 : ∀ o, (w10.alloc o).cell? ⟨g10, 2, none⟩ = some (.int .i64 b2) := fun o => obj_cell (obj_alloc B10.out o) 2
  have k3 : ∀ o, (w10.alloc o).cell? ⟨g10, 3, none⟩ = some (.int .i64 c2) := fun o => obj_cell (obj_alloc B10.out o) 3
  have k4 : ∀ o, (w10.alloc o).cell? ⟨g10, 4, none⟩ = some (.int .i64 d2) := fun o => obj_cell (obj_alloc B10.out o) 4
  have k5 : ∀ o, (w10.alloc o).cell? ⟨g10, 5, none⟩ = some (.int .i64 s2) := fun o => obj_cell (obj_alloc B10.out o) 5
  have k6 : ∀ o, (w10.alloc o).cell? ⟨g10, 6, none⟩ = some (.int .i64 t2) := fun o => obj_cell (obj_alloc B10.out o) 6
  have k7 : ∀ o, (w10.alloc o).cell? ⟨g10, 7, none⟩ = some (.int .i64 u2) := fun o => obj_cell (obj_alloc B10.out o) 7
  have k8 : ∀ o, (w10.alloc o).cell? ⟨g10, 8, none⟩ = some (.int .i64 v2) := fun o => obj_cell (obj_alloc B10.out o) 8
  go_wp2
  go_ret
  exact ⟨rfl, F10.out.alloc _⟩

set_option maxRecDepth 100000 in
set_option maxHeartbeats 2000000 in
theorem mayl_part (l a b c d s t u v who aa bb l1 a1 b1 c1 d1 s1 t1 u1 v1 l2 a2 b2 c2 d2 s2 t2 u2 v2 l3 a3 b3 c3 d3 s3 t3 u3 v3 may1 : Int) (w : World) (ri : ∀ w, Calls Try.prog 13 #[.agg #[.int .i64 l, .int .i64 a, .int .i64 b, .int .i64 c, .int .i64 d, .int .i64 s, .int .i64 t, .int .i64 u, .int .i64 v]] w fun e w' => e = .returned (.bool true) ∧ Fr nob w w') (hw : 0 ≤ who ∧ who < 4) (ha : 0 ≤ aa ∧ aa ≤ 1000000000) (hb : 0 ≤ bb ∧ bb ≤ 1000000000) (hm : may1 = aa) (ml : ¬ l < may1) (sp1 : ∀ w, Calls Try.prog 9 #[.agg #[.int .i64 l, .int .i64 a, .int .i64 b, .int .i64 c, .int .i64 d, .int .i64 s, .int .i64 t, .int .i64 u, .int .i64 v], .int .i64 who, .int .i64 aa] w fun e w' => e = .returned (.tuple #[.agg #[.int .i64 l1, .int .i64 a1, .int .i64 b1, .int .i64 c1, .int .i64 d1, .int .i64 s1, .int .i64 t1, .int .i64 u1, .int .i64 v1], .int .i64 0]) ∧ Fr nob w w') (sp2 : ∀ w, Calls Try.prog 9 #[.agg #[.int .i64 l, .int .i64 a, .int .i64 b, .int .i64 c, .int .i64 d, .int .i64 s, .int .i64 t, .int .i64 u, .int .i64 v], .int .i64 who, .int .i64 (aa + bb)] w fun e w' => e = .returned (.tuple #[.agg #[.int .i64 l2, .int .i64 a2, .int .i64 b2, .int .i64 c2, .int .i64 d2, .int .i64 s2, .int .i64 t2, .int .i64 u2, .int .i64 v2], .int .i64 15]) ∧ Fr nob w w') (sp3 : ∀ w, Calls Try.prog 9 #[.agg #[.int .i64 l1, .int .i64 a1, .int .i64 b1, .int .i64 c1, .int .i64 d1, .int .i64 s1, .int .i64 t1, .int .i64 u1, .int .i64 v1], .int .i64 who, .int .i64 bb] w fun e w' => e = .returned (.tuple #[.agg #[.int .i64 l3, .int .i64 a3, .int .i64 b3, .int .i64 c3, .int .i64 d3, .int .i64 s3, .int .i64 t3, .int .i64 u3, .int .i64 v3], .int .i64 15]) ∧ Fr nob w w') (ma : ∀ w, Calls Try.prog 14 #[.agg #[.int .i64 l, .int .i64 a, .int .i64 b, .int .i64 c, .int .i64 d, .int .i64 s, .int .i64 t, .int .i64 u, .int .i64 v], .int .i64 who, .int .i64 aa] w fun e w' => e = .returned (.int .i64 may1) ∧ Fr nob w w') :
    Calls Try.prog 5 #[.agg #[.int .i64 l, .int .i64 a, .int .i64 b, .int .i64 c, .int .i64 d, .int .i64 s, .int .i64 t, .int .i64 u, .int .i64 v, .int .i64 who, .int .i64 aa, .int .i64 bb]] w fun e w' => e = .returned (.bool true) ∧ Fr nob w w' := by
  have Hri := Lib.hid ri
  have Hsp1 := Lib.hid sp1
  have Hsp1' := Lib.hid sp1
  have Hsp2 := Lib.hid sp2
  have Hsp3 := Lib.hid sp3
  have Hma := Lib.hid ma
  clear ri sp1 sp2 sp3 ma
  have d0 : decide (who < 0) = false := decide_eq_false (by omega)
  have d1 : decide (4 ≤ who) = false := decide_eq_false (by omega)
  have d2 : decide (aa < 0) = false := decide_eq_false (by omega)
  have d3 : decide (1000000000 < aa) = false := decide_eq_false (by omega)
  have d4 : decide (bb < 0) = false := decide_eq_false (by omega)
  have d5 : decide (1000000000 < bb) = false := decide_eq_false (by omega)
  have e22 : ∀ (a b c d : Int) (w : World), (Op.equalIn 9999 22 (.agg #[.int .i64 a, .int .i64 b, .int .i64 c, .int .i64 d]) (.agg #[.int .i64 a, .int .i64 b, .int .i64 c, .int .i64 d])).run Try.prog w = .ok true w := fun a b c d w => by rw [eq4_at 9997]; simp
  have q0 : decide (l < may1) = false := decide_eq_false ml
  go_enter Try.func5, Try.ntmps5
  go_wp2_with (go_at_call 7; refine stop ?_)
  refine Stop.go ((awake_any _).mono ?_)
  rintro e w1 ⟨rfl, f⟩
  have A1 : Hid (w1.heap[w.heap.size + 1]? = some (.cells #[.int .i64 l, .int .i64 a, .int .i64 b, .int .i64 c, .int .i64 d, .int .i64 s, .int .i64 t, .int .i64 u, .int .i64 v] 24 (0, 0))) := Lib.hid (f.heap_some (obj_new (by simp) _) (fun x => x))
  obtain ⟨h, hh⟩ : ∃ h, h = w.heap.size + 1 := ⟨_, rfl⟩
  rw [← hh] at A1
  rw [← hh]
  have F1 := Lib.hid ((((Fr.refl nob w).alloc _).alloc _).trans f (U := nob) (fun _ _ x => x) (fun _ _ x => x))
  clear f hh
  have k0 : w1.cell? ⟨h, 0, none⟩ = some (.int .i64 l) := obj_cell A1.out 0
  have k1 : w1.cell? ⟨h, 1, none⟩ = some (.int .i64 a) := obj_cell A1.out 1
  have k2 : w1.cell? ⟨h, 2, none⟩ = some (.int .i64 b) := obj_cell A1.out 2
  have k3 : w1.cell? ⟨h, 3, none⟩ = some (.int .i64 c) := obj_cell A1.out 3
  have k4 : w1.cell? ⟨h, 4, none⟩ = some (.int .i64 d) := obj_cell A1.out 4
  have k5 : w1.cell? ⟨h, 5, none⟩ = some (.int .i64 s) := obj_cell A1.out 5
  have k6 : w1.cell? ⟨h, 6, none⟩ = some (.int .i64 t) := obj_cell A1.out 6
  have k7 : w1.cell? ⟨h, 7, none⟩ = some (.int .i64 u) := obj_cell A1.out 7
  have k8 : w1.cell? ⟨h, 8, none⟩ = some (.int .i64 v) := obj_cell A1.out 8
  go_wp2_with (go_at_call 13; refine stop ?_)
  clear k0 k1 k2 k3 k4 k5 k6 k7 k8
  refine Stop.go ((Hri.out w1).mono ?_)
  rintro e w2 ⟨rfl, f⟩
  have F2 := Lib.hid (F1.out.step f)
  have A2 := Lib.hid (f.heap_some A1.out (fun x => x))
  clear f Hri
  have k0 : w2.cell? ⟨h, 0, none⟩ = some (.int .i64 l) := obj_cell A2.out 0
  have k1 : w2.cell? ⟨h, 1, none⟩ = some (.int .i64 a) := obj_cell A2.out 1
  have k2 : w2.cell? ⟨h, 2, none⟩ = some (.int .i64 b) := obj_cell A2.out 2
  have k3 : w2.cell? ⟨h, 3, none⟩ = some (.int .i64 c) := obj_cell A2.out 3
  have k4 : w2.cell? ⟨h, 4, none⟩ = some (.int .i64 d) := obj_cell A2.out 4
  have k5 : w2.cell? ⟨h, 5, none⟩ = some (.int .i64 s) := obj_cell A2.out 5
  have k6 : w2.cell? ⟨h, 6, none⟩ = some (.int .i64 t) := obj_cell A2.out 6
  have k7 : w2.cell? ⟨h, 7, none⟩ = some (.int .i64 u) := obj_cell A2.out 7
  have k8 : w2.cell? ⟨h, 8, none⟩ = some (.int .i64 v) := obj_cell A2.out 8
  go_wp2_with (go_at_call 9; refine stop ?_)
  clear d0 d1 d2 d3 d4 d5
  clear k0 k1 k2 k3 k4 k5 k6 k7 k8
  refine Stop.go ((Hsp1.out w2).mono ?_)
  rintro e w3 ⟨rfl, f⟩
  have F3 := Lib.hid (F2.out.step f)
  have A3 := Lib.hid (f.heap_some A2.out (fun x => x))
  clear f Hsp1
  go_upto_region 11 with fail
  obtain ⟨w4, hw⟩ : ∃ w4, w4 = w3.alloc (.cells #[.int .i64 l1, .int .i64 a1, .int .i64 b1, .int .i64 c1, .int .i64 d1, .int .i64 s1, .int .i64 t1, .int .i64 u1, .int .i64 v1] 24) := ⟨_, rfl⟩
  simp only [← hw]
  obtain ⟨g8, hg⟩ : ∃ g8, g8 = w3.heap.size := ⟨_, rfl⟩
  rw [← hg]
  have B4 : Hid (w4.heap[g8]? = some (.cells #[.int .i64 l1, .int .i64 a1, .int .i64 b1, .int .i64 c1, .int .i64 d1, .int .i64 s1, .int .i64 t1, .int .i64 u1, .int .i64 v1] 24 (0, 0))) := hw ▸ obj_new hg _
  have F4 := Lib.hid (hw ▸ F3.out.alloc _ : Fr nob w w4)
  have A4 : Hid (w4.heap[h]? = some (.cells #[.int .i64 l, .int .i64 a, .int .i64 b, .int .i64 c, .int .i64 d, .int .i64 s, .int .i64 t, .int .i64 u, .int .i64 v] 24 (0, 0))) := hw ▸ obj_alloc A3.out _
  clear hw hg
  have x0 : ∀ x : Grown w4, x.w.cell? ⟨h, 0, none⟩ = some (.int .i64 l) := Grown.cell (obj_cell A4.out 0)
  have x1 : ∀ x : Grown w4, x.w.cell? ⟨h, 1, none⟩ = some (.int .i64 a) := Grown.cell (obj_cell A4.out 1)
  have x2 : ∀ x : Grown w4, x.w.cell? ⟨h, 2, none⟩ = some (.int .i64 b) := Grown.cell (obj_cell A4.out 2)
  have x3 : ∀ x : Grown w4, x.w.cell? ⟨h, 3, none⟩ = some (.int .i64 c) := Grown.cell (obj_cell A4.out 3)
  have x4 : ∀ x : Grown w4, x.w.cell? ⟨h, 4, none⟩ = some (.int .i64 d) := Grown.cell (obj_cell A4.out 4)
  have x5 : ∀ x : Grown w4, x.w.cell? ⟨h, 5, none⟩ = some (.int .i64 s) := Grown.cell (obj_cell A4.out 5)
  have x6 : ∀ x : Grown w4, x.w.cell? ⟨h, 6, none⟩ = some (.int .i64 t) := Grown.cell (obj_cell A4.out 6)
  have x7 : ∀ x : Grown w4, x.w.cell? ⟨h, 7, none⟩ = some (.int .i64 u) := Grown.cell (obj_cell A4.out 7)
  have x8 : ∀ x : Grown w4, x.w.cell? ⟨h, 8, none⟩ = some (.int .i64 v) := Grown.cell (obj_cell A4.out 8)
  refine region_grown (by kernel_rfl) (by kernel_rfl) ?_
  repeat (go_big_quiet_step ((go_at_call 14; exact Grown.call _ (Hma.out _))))
  refine wpQuiet_nil ?_
  intro w5 hw5
  have f := grown_get hw5
  have F5 := Lib.hid (F4.out.step f)
  have A5 := Lib.hid (f.heap_some A4.out (fun x => x))
  clear hw5 f q0 Hma
  clear x0 x1 x2 x3 x4 x5 x6 x7 x8
  have k0 : w5.cell? ⟨h, 0, none⟩ = some (.int .i64 l) := obj_cell A5.out 0
  have k1 : w5.cell? ⟨h, 1, none⟩ = some (.int .i64 a) := obj_cell A5.out 1
  have k2 : w5.cell? ⟨h, 2, none⟩ = some (.int .i64 b) := obj_cell A5.out 2
  have k3 : w5.cell? ⟨h, 3, none⟩ = some (.int .i64 c) := obj_cell A5.out 3
  have k4 : w5.cell? ⟨h, 4, none⟩ = some (.int .i64 d) := obj_cell A5.out 4
  have k5 : w5.cell? ⟨h, 5, none⟩ = some (.int .i64 s) := obj_cell A5.out 5
  have k6 : w5.cell? ⟨h, 6, none⟩ = some (.int .i64 t) := obj_cell A5.out 6
  have k7 : w5.cell? ⟨h, 7, none⟩ = some (.int .i64 u) := obj_cell A5.out 7
  have k8 : w5.cell? ⟨h, 8, none⟩ = some (.int .i64 v) := obj_cell A5.out 8
  go_wp2_with (go_at_call 9; refine stop ?_)
  clear k0 k1 k2 k3 k4 k5 k6 k7 k8
  refine Stop.go ((Hsp2.out w5).mono ?_)
  rintro e w6 ⟨rfl, f⟩
  have F6 := Lib.hid (F5.out.step f)
  have A6 := Lib.hid (f.heap_some A5.out (fun x => x))
  clear f Hsp2
  have k0 : ∀ o, (w6.alloc o).cell? ⟨h, 0, none⟩ = some (.int .i64 l) := fun o => obj_cell (obj_alloc A6.out o) 0
  have k1 : ∀ o, (w6.alloc o).cell? ⟨h, 1, none⟩ = some (.int .i64 a) := fun o => obj_cell (obj_alloc A6.out o) 1
  have k2 : ∀ o, (w6.alloc o).cell? ⟨h, 2, none⟩ = some (.int .i64 b) := fun o => obj_cell (obj_alloc A6.out o) 2
  have k3 : ∀ o, (w6.alloc o).cell? ⟨h, 3, none⟩ = some (.int .i64 c) := fun o => obj_cell (obj_alloc A6.out o) 3
  have k4 : ∀ o, (w6.alloc o).cell? ⟨h, 4, none⟩ = some (.int .i64 d) := fun o => obj_cell (obj_alloc A6.out o) 4
  have k5 : ∀ o, (w6.alloc o).cell? ⟨h, 5, none⟩ = some (.int .i64 s) := fun o => obj_cell (obj_alloc A6.out o) 5
  have k6 : ∀ o, (w6.alloc o).cell? ⟨h, 6, none⟩ = some (.int .i64 t) := fun o => obj_cell (obj_alloc A6.out o) 6
  have k7 : ∀ o, (w6.alloc o).cell? ⟨h, 7, none⟩ = some (.int .i64 u) := fun o => obj_cell (obj_alloc A6.out o) 7
  have k8 : ∀ o, (w6.alloc o).cell? ⟨h, 8, none⟩ = some (.int .i64 v) := fun o => obj_cell (obj_alloc A6.out o) 8
  go_wp2_with (go_at_call 9; refine stop ?_)
  clear k0 k1 k2 k3 k4 k5 k6 k7 k8
  obtain ⟨w7, hw⟩ : ∃ w7, w7 = w6.alloc (.cells #[.int .i64 l2, .int .i64 a2, .int .i64 b2, .int .i64 c2, .int .i64 d2, .int .i64 s2, .int .i64 t2, .int .i64 u2, .int .i64 v2] 24) := ⟨_, rfl⟩
  simp only [← hw]
  obtain ⟨g10, hg⟩ : ∃ g10, g10 = w6.heap.size := ⟨_, rfl⟩
  rw [← hg]
  have B7 : Hid (w7.heap[g10]? = some (.cells #[.int .i64 l2, .int .i64 a2, .int .i64 b2, .int .i64 c2, .int .i64 d2, .int .i64 s2, .int .i64 t2, .int .i64 u2, .int .i64 v2] 24 (0, 0))) := hw ▸ obj_new hg _
  have F7 := Lib.hid (hw ▸ F6.out.alloc _ : Fr nob w w7)
  have A7 : Hid (w7.heap[h]? = some (.cells #[.int .i64 l, .int .i64 a, .int .i64 b, .int .i64 c, .int .i64 d, .int .i64 s, .int .i64 t, .int .i64 u, .int .i64 v] 24 (0, 0))) := hw ▸ obj_alloc A6.out _
  clear hw hg
  refine Stop.go ((Hsp1'.out w7).mono ?_)
  rintro e w8 ⟨rfl, f⟩
  have F8 := Lib.hid (F7.out.step f)
  have A8 := Lib.hid (f.heap_some A7.out (fun x => x))
  have B8 := Lib.hid (f.heap_some B7.out (fun x => x))
  clear f Hsp1'
  go_wp2_with (go_at_call 9; refine stop ?_)
  obtain ⟨w9, hw⟩ : ∃ w9, w9 = w8.alloc (.cells #[.int .i64 l1, .int .i64 a1, .int .i64 b1, .int .i64 c1, .int .i64 d1, .int .i64 s1, .int .i64 t1, .int .i64 u1, .int .i64 v1] 24) := ⟨_, rfl⟩
  simp only [← hw]
  obtain ⟨g12, hg⟩ : ∃ g12, g12 = w8.heap.size := ⟨_, rfl⟩
  rw [← hg]
  have C9 : Hid (w9.heap[g12]? = some (.cells #[.int .i64 l1, .int .i64 a1, .int .i64 b1, .int .i64 c1, .int .i64 d1, .int .i64 s1, .int .i64 t1, .int .i64 u1, .int .i64 v1] 24 (0, 0))) := hw ▸ obj_new hg _
  have F9 := Lib.hid (hw ▸ F8.out.alloc _ : Fr nob w w9)
  have B9 : Hid (w9.heap[g10]? = some (.cells #[.int .i64 l2, .int .i64 a2, .int .i64 b2, .int .i64 c2, .int .i64 d2, .int .i64 s2, .int .i64 t2, .int .i64 u2, .int .i64 v2] 24 (0, 0))) := hw ▸ obj_alloc B8.out _
  clear hw hg
  refine Stop.go ((Hsp3.out w9).mono ?_)
  rintro e w10 ⟨rfl, f⟩
  have F10 := Lib.hid (F9.out.step f)
  have B10 := Lib.hid (f.heap_some B9.out (fun x => x))
  clear f Hsp3
  have k0 : ∀ o, (w10.alloc o).cell? ⟨g10, 0, none⟩ = some (.int .i64 l2) := fun o => obj_cell (obj_alloc B10.out o) 0
  have k1 : ∀ o, (w10.alloc o).cell? ⟨g10, 1, none⟩ = some (.int .i64 a2) := fun o => obj_cell (obj_alloc B10.out o) 1
  have k2 : ∀ o, (w10.alloc o).cell? ⟨g10, 2, none⟩ = some (.int .i64 b2) := fun o => obj_cell (obj_alloc B10.out o) 2
  have k3 : ∀ o, (w10.alloc o).cell? ⟨g10, 3, none⟩ = some (.int .i64 c2) := fun o => obj_cell (obj_alloc B10.out o) 3
  have k4 : ∀ o, (w10.alloc o).cell? ⟨g10, 4, none⟩ = some (.int .i64 d2) := fun o => obj_cell (obj_alloc B10.out o) 4
  have k5 : ∀ o, (w10.alloc o).cell? ⟨g10, 5, none⟩ = some (.int .i64 s2) := fun o => obj_cell (obj_alloc B10.out o) 5
  have k6 : ∀ o, (w10.alloc o).cell? ⟨g10, 6, none⟩ = some (.int .i64 t2) := fun o => obj_cell (obj_alloc B10.out o) 6
  have k7 : ∀ o, (w10.alloc o).cell? ⟨g10, 7, none⟩ = some (.int .i64 u2) := fun o => obj_cell (obj_alloc B10.out o) 7
  have k8 : ∀ o, (w10.alloc o).cell? ⟨g10, 8, none⟩ = some (.int .i64 v2) := fun o => obj_cell (obj_alloc B10.out o) 8
  go_wp2
  go_ret
  exact ⟨rfl, F10.out.alloc _⟩

end Go.Proofs.Ytdlbihndghofcaa
