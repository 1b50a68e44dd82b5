/- PurseKeeps: the walk. -/
import Derived.Test.YtdlbihndghofcaaTellsA
namespace Go.Proofs.Ytdlbihndghofcaa
open Go.RowKit
set_option linter.unusedVariables false

/-- Where it is done: what is left is enough. -/
theorem may_room {p : Pu} {who n : Int} (h : p.ok) (h2 : strat who) (h3 : 0 ≤ n) (h4 : ¬ may p who n < n) : n ≤ p.l ∧ n ≤ p.e.get who := by
  unfold may at h4
  rw [if_pos ⟨h, h2⟩] at h4
  have := h.1.1
  have h5 : 0 ≤ p.e.get who := by
    obtain ⟨⟨x1, _⟩, ⟨x2, _⟩, ⟨x3, _⟩, x4, _⟩ := h.2.1
    unfold Q4.get
    split
    · exact x1
    · split
      · exact x2
      · split
        · exact x3
        · exact x4
  omega
theorem kp_inN (x : Int) : inN (kp x) := by unfold kp inN; omega
theorem kept_ok (q : Q4) : q.kept.ok := ⟨kp_inN _, kp_inN _, kp_inN _, kp_inN _⟩
theorem set_ok {q : Q4} {i x : Int} (h : q.ok) (hx : inN x) : (q.set i x).ok := by
  obtain ⟨h0, h1, h2, h3⟩ := h
  unfold Q4.set
  split
  · exact ⟨hx, h1, h2, h3⟩
  · split
    · exact ⟨h0, hx, h2, h3⟩
    · split
      · exact ⟨h0, h1, hx, h3⟩
      · exact ⟨h0, h1, h2, hx⟩
theorem get_in {q : Q4} {i : Int} (h : q.ok) : inN (q.get i) := by
  obtain ⟨h0, h1, h2, h3⟩ := h
  unfold Q4.get
  split
  · exact h0
  · split
    · exact h1
    · split
      · exact h2
      · exact h3
theorem spent_ok {p : Pu} {who n : Int} (h : p.ok) (h2 : strat who) (h3 : 0 ≤ n) (h4 : ¬ may p who n < n) : (spent p who n).ok := by
  obtain ⟨h5, h6⟩ := may_room h h2 h3 h4
  have h7 : inN (p.e.get who) := get_in h.2.1
  have h8 : inN p.l := h.1
  unfold inN at h7 h8
  refine ⟨?_, set_ok h.2.1 ?_, kept_ok _⟩
  · show 0 ≤ p.l - n ∧ p.l - n ≤ 2147483647; omega
  · show 0 ≤ p.e.get who - n ∧ p.e.get who - n ≤ 2147483647; omega

set_option maxRecDepth 100000 in
set_option maxHeartbeats 1000000 in
theorem keeps_bad1 (l a b c d s t u v who n : Int) (w : World)
    (sp : ∀ w, Calls Try.prog 9 #[.agg #[.int .i64 l, .int .i64 a, .int .i64 b, .int .i64 c, .int .i64 d, .int .i64 s, .int .i64 t, .int .i64 u, .int .i64 v], .int .i64 who, .int .i64 n] w fun e w' => e = .returned (.tuple #[.agg #[.int .i64 0, .int .i64 0, .int .i64 0, .int .i64 0, .int .i64 0, .int .i64 0, .int .i64 0, .int .i64 0, .int .i64 0], .int .i64 1]) ∧ Fr nob w w') :
    Calls Try.prog 4 #[.agg #[.int .i64 l, .int .i64 a, .int .i64 b, .int .i64 c, .int .i64 d, .int .i64 s, .int .i64 t, .int .i64 u, .int .i64 v], .int .i64 who, .int .i64 n] w fun e w' => e = .returned (.bool true) ∧ Fr nob w w' := by
  have Hsp := Lib.hid sp
  clear sp
  have e22 : ∀ (a b c d : Int) (w : World), (Op.equalIn 9999 22 (.agg #[.int .i64 a, .int .i64 b, .int .i64 c, .int .i64 d]) (.agg #[.int .i64 a, .int .i64 b, .int .i64 c, .int .i64 d])).run Try.prog w = .ok true w := fun a b c d w => by rw [eq4_at 9997]; simp
  go_enter Try.func4, Try.ntmps4
  go_wp2_with (go_at_call 7; refine stop ?_)
  refine Stop.go ((awake_any _).mono ?_)
  rintro e w1 ⟨rfl, f⟩
  have A1 : Hid (w1.heap[w.heap.size]? = some (.cells #[.int .i64 l, .int .i64 a, .int .i64 b, .int .i64 c, .int .i64 d, .int .i64 s, .int .i64 t, .int .i64 u, .int .i64 v] 24 (0, 0))) := Lib.hid (f.heap_some (obj_new rfl _) (fun x => x))
  obtain ⟨h, hh⟩ : ∃ h, h = w.heap.size := ⟨_, rfl⟩
  rw [← hh] at A1
  rw [← hh]
  have F1 := Lib.hid (((Fr.refl nob w).alloc _).trans f (U := nob) (fun _ _ x => x) (fun _ _ x => x))
  clear f hh
  have k0 : w1.cell? ⟨h, 0, none⟩ = some (.int .i64 l) := obj_cell A1.out 0
  have k1 : w1.cell? ⟨h, 1, none⟩ = some (.int .i64 a) := obj_cell A1.out 1
  have k2 : w1.cell? ⟨h, 2, none⟩ = some (.int .i64 b) := obj_cell A1.out 2
  have k3 : w1.cell? ⟨h, 3, none⟩ = some (.int .i64 c) := obj_cell A1.out 3
  have k4 : w1.cell? ⟨h, 4, none⟩ = some (.int .i64 d) := obj_cell A1.out 4
  have k5 : w1.cell? ⟨h, 5, none⟩ = some (.int .i64 s) := obj_cell A1.out 5
  have k6 : w1.cell? ⟨h, 6, none⟩ = some (.int .i64 t) := obj_cell A1.out 6
  have k7 : w1.cell? ⟨h, 7, none⟩ = some (.int .i64 u) := obj_cell A1.out 7
  have k8 : w1.cell? ⟨h, 8, none⟩ = some (.int .i64 v) := obj_cell A1.out 8
  go_wp2_with (go_at_call 9; refine stop ?_)
  clear k0 k1 k2 k3 k4 k5 k6 k7 k8
  refine Stop.go ((Hsp.out w1).mono ?_)
  rintro e w2 ⟨rfl, f⟩
  have F2 := Lib.hid (F1.out.step f)
  clear f
  go_wp2
  go_ret
  exact ⟨rfl, F2.out.alloc _⟩

set_option maxRecDepth 100000 in
set_option maxHeartbeats 1000000 in
theorem keeps_bad15 (l a b c d s t u v who n : Int) (w : World)
    (sp : ∀ w, Calls Try.prog 9 #[.agg #[.int .i64 l, .int .i64 a, .int .i64 b, .int .i64 c, .int .i64 d, .int .i64 s, .int .i64 t, .int .i64 u, .int .i64 v], .int .i64 who, .int .i64 n] w fun e w' => e = .returned (.tuple #[.agg #[.int .i64 0, .int .i64 0, .int .i64 0, .int .i64 0, .int .i64 0, .int .i64 0, .int .i64 0, .int .i64 0, .int .i64 0], .int .i64 15]) ∧ Fr nob w w') :
    Calls Try.prog 4 #[.agg #[.int .i64 l, .int .i64 a, .int .i64 b, .int .i64 c, .int .i64 d, .int .i64 s, .int .i64 t, .int .i64 u, .int .i64 v], .int .i64 who, .int .i64 n] w fun e w' => e = .returned (.bool true) ∧ Fr nob w w' := by
  have Hsp := Lib.hid sp
  clear sp
  have e22 : ∀ (a b c d : Int) (w : World), (Op.equalIn 9999 22 (.agg #[.int .i64 a, .int .i64 b, .int .i64 c, .int .i64 d]) (.agg #[.int .i64 a, .int .i64 b, .int .i64 c, .int .i64 d])).run Try.prog w = .ok true w := fun a b c d w => by rw [eq4_at 9997]; simp
  go_enter Try.func4, Try.ntmps4
  go_wp2_with (go_at_call 7; refine stop ?_)
  refine Stop.go ((awake_any _).mono ?_)
  rintro e w1 ⟨rfl, f⟩
  have A1 : Hid (w1.heap[w.heap.size]? = some (.cells #[.int .i64 l, .int .i64 a, .int .i64 b, .int .i64 c, .int .i64 d, .int .i64 s, .int .i64 t, .int .i64 u, .int .i64 v] 24 (0, 0))) := Lib.hid (f.heap_some (obj_new rfl _) (fun x => x))
  obtain ⟨h, hh⟩ : ∃ h, h = w.heap.size := ⟨_, rfl⟩
  rw [← hh] at A1
  rw [← hh]
  have F1 := Lib.hid (((Fr.refl nob w).alloc _).trans f (U := nob) (fun _ _ x => x) (fun _ _ x => x))
  clear f hh
  have k0 : w1.cell? ⟨h, 0, none⟩ = some (.int .i64 l) := obj_cell A1.out 0
  have k1 : w1.cell? ⟨h, 1, none⟩ = some (.int .i64 a) := obj_cell A1.out 1
  have k2 : w1.cell? ⟨h, 2, none⟩ = some (.int .i64 b) := obj_cell A1.out 2
  have k3 : w1.cell? ⟨h, 3, none⟩ = some (.int .i64 c) := obj_cell A1.out 3
  have k4 : w1.cell? ⟨h, 4, none⟩ = some (.int .i64 d) := obj_cell A1.out 4
  have k5 : w1.cell? ⟨h, 5, none⟩ = some (.int .i64 s) := obj_cell A1.out 5
  have k6 : w1.cell? ⟨h, 6, none⟩ = some (.int .i64 t) := obj_cell A1.out 6
  have k7 : w1.cell? ⟨h, 7, none⟩ = some (.int .i64 u) := obj_cell A1.out 7
  have k8 : w1.cell? ⟨h, 8, none⟩ = some (.int .i64 v) := obj_cell A1.out 8
  go_wp2_with (go_at_call 9; refine stop ?_)
  clear k0 k1 k2 k3 k4 k5 k6 k7 k8
  refine Stop.go ((Hsp.out w1).mono ?_)
  rintro e w2 ⟨rfl, f⟩
  have F2 := Lib.hid (F1.out.step f)
  clear f
  go_wp2
  go_ret
  exact ⟨rfl, F2.out.alloc _⟩

set_option maxRecDepth 100000 in
set_option maxHeartbeats 4000000 in
theorem keeps_good0 (l a b c d s t u v n m9 : Int) (hl : 0 ≤ l ∧ l ≤ 2147483647) (he : 0 ≤ a ∧ a ≤ 2147483647) (hs : 0 ≤ s ∧ s ≤ 2147483647) (hn : 0 ≤ n ∧ n ≤ l ∧ n ≤ a) (h9 : m9 = s + n ∨ (m9 ≠ s + n ∧ m9 = 2147483647)) (w : World)
    (sp : ∀ w, Calls Try.prog 9 #[.agg #[.int .i64 l, .int .i64 a, .int .i64 b, .int .i64 c, .int .i64 d, .int .i64 s, .int .i64 t, .int .i64 u, .int .i64 v], .int .i64 0, .int .i64 n] w fun e w' => e = .returned (.tuple #[.agg #[.int .i64 (l - n), .int .i64 (a - n), .int .i64 b, .int .i64 c, .int .i64 d, .int .i64 m9, .int .i64 t, .int .i64 u, .int .i64 v], .int .i64 0]) ∧ Fr nob w w')
    (ri : ∀ w, Calls Try.prog 13 #[.agg #[.int .i64 l, .int .i64 a, .int .i64 b, .int .i64 c, .int .i64 d, .int .i64 s, .int .i64 t, .int .i64 u, .int .i64 v]] w fun e w' => e = .returned (.bool true) ∧ Fr nob w w')
    (rq : ∀ w, Calls Try.prog 13 #[.agg #[.int .i64 (l - n), .int .i64 (a - n), .int .i64 b, .int .i64 c, .int .i64 d, .int .i64 m9, .int .i64 t, .int .i64 u, .int .i64 v]] w fun e w' => e = .returned (.bool true) ∧ Fr nob w w') :
    Calls Try.prog 4 #[.agg #[.int .i64 l, .int .i64 a, .int .i64 b, .int .i64 c, .int .i64 d, .int .i64 s, .int .i64 t, .int .i64 u, .int .i64 v], .int .i64 0, .int .i64 n] w fun e w' => e = .returned (.bool true) ∧ Fr nob w w' := by
  have Hsp := Lib.hid sp
  have Hri := Lib.hid ri
  have Hrq := Lib.hid rq
  have H9 := Lib.hid h9
  clear sp ri rq h9
  go_enter Try.func4, Try.ntmps4
  go_wp2_with (go_at_call 7; refine stop ?_)
  refine Stop.go ((awake_any _).mono ?_)
  rintro e w1 ⟨rfl, f⟩
  have A1 : Hid (w1.heap[w.heap.size]? = some (.cells #[.int .i64 l, .int .i64 a, .int .i64 b, .int .i64 c, .int .i64 d, .int .i64 s, .int .i64 t, .int .i64 u, .int .i64 v] 24 (0, 0))) := Lib.hid (f.heap_some (obj_new rfl _) (fun x => x))
  obtain ⟨h, hh⟩ : ∃ h, h = w.heap.size := ⟨_, rfl⟩
  rw [← hh] at A1
  rw [← hh]
  have F1 := Lib.hid (((Fr.refl nob w).alloc _).trans f (U := nob) (fun _ _ x => x) (fun _ _ x => x))
  clear f hh
  have k0 : w1.cell? ⟨h, 0, none⟩ = some (.int .i64 l) := obj_cell A1.out 0
  have k1 : w1.cell? ⟨h, 1, none⟩ = some (.int .i64 a) := obj_cell A1.out 1
  have k2 : w1.cell? ⟨h, 2, none⟩ = some (.int .i64 b) := obj_cell A1.out 2
  have k3 : w1.cell? ⟨h, 3, none⟩ = some (.int .i64 c) := obj_cell A1.out 3
  have k4 : w1.cell? ⟨h, 4, none⟩ = some (.int .i64 d) := obj_cell A1.out 4
  have k5 : w1.cell? ⟨h, 5, none⟩ = some (.int .i64 s) := obj_cell A1.out 5
  have k6 : w1.cell? ⟨h, 6, none⟩ = some (.int .i64 t) := obj_cell A1.out 6
  have k7 : w1.cell? ⟨h, 7, none⟩ = some (.int .i64 u) := obj_cell A1.out 7
  have k8 : w1.cell? ⟨h, 8, none⟩ = some (.int .i64 v) := obj_cell A1.out 8
  go_wp2_with (go_at_call 9; refine stop ?_)
  clear k0 k1 k2 k3 k4 k5 k6 k7 k8
  refine Stop.go ((Hsp.out w1).mono ?_)
  rintro e w2 ⟨rfl, f⟩
  have F2 := Lib.hid (F1.out.step f)
  have A2 := Lib.hid (f.heap_some A1.out (fun x => x))
  clear f Hsp
  have k0 : ∀ o, (w2.alloc o).cell? ⟨h, 0, none⟩ = some (.int .i64 l) := fun o => obj_cell (obj_alloc A2.out o) 0
  have k1 : ∀ o, (w2.alloc o).cell? ⟨h, 1, none⟩ = some (.int .i64 a) := fun o => obj_cell (obj_alloc A2.out o) 1
  have k2 : ∀ o, (w2.alloc o).cell? ⟨h, 2, none⟩ = some (.int .i64 b) := fun o => obj_cell (obj_alloc A2.out o) 2
  have k3 : ∀ o, (w2.alloc o).cell? ⟨h, 3, none⟩ = some (.int .i64 c) := fun o => obj_cell (obj_alloc A2.out o) 3
  have k4 : ∀ o, (w2.alloc o).cell? ⟨h, 4, none⟩ = some (.int .i64 d) := fun o => obj_cell (obj_alloc A2.out o) 4
  have k5 : ∀ o, (w2.alloc o).cell? ⟨h, 5, none⟩ = some (.int .i64 s) := fun o => obj_cell (obj_alloc A2.out o) 5
  have k6 : ∀ o, (w2.alloc o).cell? ⟨h, 6, none⟩ = some (.int .i64 t) := fun o => obj_cell (obj_alloc A2.out o) 6
  have k7 : ∀ o, (w2.alloc o).cell? ⟨h, 7, none⟩ = some (.int .i64 u) := fun o => obj_cell (obj_alloc A2.out o) 7
  have k8 : ∀ o, (w2.alloc o).cell? ⟨h, 8, none⟩ = some (.int .i64 v) := fun o => obj_cell (obj_alloc A2.out o) 8
  go_wp2_with (go_at_call 13; refine stop ?_)
  clear k0 k1 k2 k3 k4 k5 k6 k7 k8
  obtain ⟨w3, hw⟩ : ∃ w3, w3 = w2.alloc (.cells #[.int .i64 (l - n), .int .i64 (a - n), .int .i64 b, .int .i64 c, .int .i64 d, .int .i64 m9, .int .i64 t, .int .i64 u, .int .i64 v] 24) := ⟨_, rfl⟩
  simp only [← hw]
  obtain ⟨g8, hg⟩ : ∃ g8, g8 = w2.heap.size := ⟨_, rfl⟩
  rw [← hg]
  have B3 : Hid (w3.heap[g8]? = some (.cells #[.int .i64 (l - n), .int .i64 (a - n), .int .i64 b, .int .i64 c, .int .i64 d, .int .i64 m9, .int .i64 t, .int .i64 u, .int .i64 v] 24 (0, 0))) := hw ▸ obj_new hg _
  have F3 := Lib.hid (hw ▸ F2.out.alloc _ : Fr nob w w3)
  have A3 : Hid (w3.heap[h]? = some (.cells #[.int .i64 l, .int .i64 a, .int .i64 b, .int .i64 c, .int .i64 d, .int .i64 s, .int .i64 t, .int .i64 u, .int .i64 v] 24 (0, 0))) := hw ▸ obj_alloc A2.out _
  clear hw hg
  refine Stop.go ((Hri.out w3).mono ?_)
  rintro e w4 ⟨rfl, f⟩
  have F4 := Lib.hid (F3.out.step f)
  have A4 := Lib.hid (f.heap_some A3.out (fun x => x))
  have B4 := Lib.hid (f.heap_some B3.out (fun x => x))
  clear f Hri
  have x0 : w4.cell? ⟨h, 0, none⟩ = some (.int .i64 l) := obj_cell A4.out 0
  have x1 : w4.cell? ⟨h, 1, none⟩ = some (.int .i64 a) := obj_cell A4.out 1
  have x2 : w4.cell? ⟨h, 2, none⟩ = some (.int .i64 b) := obj_cell A4.out 2
  have x3 : w4.cell? ⟨h, 3, none⟩ = some (.int .i64 c) := obj_cell A4.out 3
  have x4 : w4.cell? ⟨h, 4, none⟩ = some (.int .i64 d) := obj_cell A4.out 4
  have x5 : w4.cell? ⟨h, 5, none⟩ = some (.int .i64 s) := obj_cell A4.out 5
  have x6 : w4.cell? ⟨h, 6, none⟩ = some (.int .i64 t) := obj_cell A4.out 6
  have x7 : w4.cell? ⟨h, 7, none⟩ = some (.int .i64 u) := obj_cell A4.out 7
  have x8 : w4.cell? ⟨h, 8, none⟩ = some (.int .i64 v) := obj_cell A4.out 8
  have y0 : w4.cell? ⟨g8, 0, none⟩ = some (.int .i64 (l - n)) := obj_cell B4.out 0
  have y1 : w4.cell? ⟨g8, 1, none⟩ = some (.int .i64 (a - n)) := obj_cell B4.out 1
  have y2 : w4.cell? ⟨g8, 2, none⟩ = some (.int .i64 b) := obj_cell B4.out 2
  have y3 : w4.cell? ⟨g8, 3, none⟩ = some (.int .i64 c) := obj_cell B4.out 3
  have y4 : w4.cell? ⟨g8, 4, none⟩ = some (.int .i64 d) := obj_cell B4.out 4
  have y5 : w4.cell? ⟨g8, 5, none⟩ = some (.int .i64 m9) := obj_cell B4.out 5
  have y6 : w4.cell? ⟨g8, 6, none⟩ = some (.int .i64 t) := obj_cell B4.out 6
  have y7 : w4.cell? ⟨g8, 7, none⟩ = some (.int .i64 u) := obj_cell B4.out 7
  have y8 : w4.cell? ⟨g8, 8, none⟩ = some (.int .i64 v) := obj_cell B4.out 8
  go_wp2_with (go_at_call 13; refine stop ?_)
  clear x0 x1 x2 x3 x4 x5 x6 x7 x8
  clear y0 y1 y2 y3 y4 y5 y6 y7 y8
  refine Stop.go ((Hrq.out w4).mono ?_)
  rintro e w5 ⟨rfl, f⟩
  have F5 := Lib.hid (F4.out.step f)
  have A5 := Lib.hid (f.heap_some A4.out (fun x => x))
  have B5 := Lib.hid (f.heap_some B4.out (fun x => x))
  clear f Hrq
  have x0 : w5.cell? ⟨h, 0, none⟩ = some (.int .i64 l) := obj_cell A5.out 0
  have x1 : w5.cell? ⟨h, 1, none⟩ = some (.int .i64 a) := obj_cell A5.out 1
  have x2 : w5.cell? ⟨h, 2, none⟩ = some (.int .i64 b) := obj_cell A5.out 2
  have x3 : w5.cell? ⟨h, 3, none⟩ = some (.int .i64 c) := obj_cell A5.out 3
  have x4 : w5.cell? ⟨h, 4, none⟩ = some (.int .i64 d) := obj_cell A5.out 4
  have x5 : w5.cell? ⟨h, 5, none⟩ = some (.int .i64 s) := obj_cell A5.out 5
  have x6 : w5.cell? ⟨h, 6, none⟩ = some (.int .i64 t) := obj_cell A5.out 6
  have x7 : w5.cell? ⟨h, 7, none⟩ = some (.int .i64 u) := obj_cell A5.out 7
  have x8 : w5.cell? ⟨h, 8, none⟩ = some (.int .i64 v) := obj_cell A5.out 8
  have y0 : w5.cell? ⟨g8, 0, none⟩ = some (.int .i64 (l - n)) := obj_cell B5.out 0
  have y1 : w5.cell? ⟨g8, 1, none⟩ = some (.int .i64 (a - n)) := obj_cell B5.out 1
  have y2 : w5.cell? ⟨g8, 2, none⟩ = some (.int .i64 b) := obj_cell B5.out 2
  have y3 : w5.cell? ⟨g8, 3, none⟩ = some (.int .i64 c) := obj_cell B5.out 3
  have y4 : w5.cell? ⟨g8, 4, none⟩ = some (.int .i64 d) := obj_cell B5.out 4
  have y5 : w5.cell? ⟨g8, 5, none⟩ = some (.int .i64 m9) := obj_cell B5.out 5
  have y6 : w5.cell? ⟨g8, 6, none⟩ = some (.int .i64 t) := obj_cell B5.out 6
  have y7 : w5.cell? ⟨g8, 7, none⟩ = some (.int .i64 u) := obj_cell B5.out 7
  have y8 : w5.cell? ⟨g8, 8, none⟩ = some (.int .i64 v) := obj_cell B5.out 8
  clear A1 A2 A3 A4 A5 B3 B4 B5 F1 F2 F3 F4
  go_wp2_with fail
  go_loopg [10] 4 (fun gk i wr => ∃ (k m : Nat), k + gk = 4 ∧ i = .int .i64 (k : Nat) ∧ wr = w5.drewN m)
  case atStart => exact ⟨0, 0, rfl, rfl, rfl⟩
  case round =>
    obtain ⟨k, m, hk, rfl, rfl⟩ := hrel
    have HK := Lib.hid hk
    obtain rfl | rfl | rfl | rfl | rfl : k = 0 ∨ k = 1 ∨ k = 2 ∨ k = 3 ∨ k = 4 := by omega
    · clear hk
      go_wp2_with fail
      go_quiet (fail)
      go_wp2
      go_roundg (gk - 1)
      case measure => have := HK.out; omega
      case rel => exact ⟨1, _, by have := HK.out; omega, rfl, rfl⟩
    · clear hk
      go_wp2_with fail
      go_quiet (fail)
      go_wp2
      go_roundg (gk - 1)
      case measure => have := HK.out; omega
      case rel => exact ⟨2, _, by have := HK.out; omega, rfl, rfl⟩
    · clear hk
      go_wp2_with fail
      go_quiet (fail)
      go_wp2
      go_roundg (gk - 1)
      case measure => have := HK.out; omega
      case rel => exact ⟨3, _, by have := HK.out; omega, rfl, rfl⟩
    · clear hk
      go_wp2_with fail
      go_quiet (fail)
      go_wp2
      go_roundg (gk - 1)
      case measure => have := HK.out; omega
      case rel => exact ⟨4, _, by have := HK.out; omega, rfl, rfl⟩
    · clear hk
      rcases H9.out with rfl | ⟨hne, rfl⟩
      · have hw2 : IntKind.i64.wrap (s + n) = s + n := IntWalk.i64_in _ (by omega)
        have hw1 : IntKind.i64.wrap (a - n) = a - n := IntWalk.i64_in _ (by omega)
        go_wp2_with fail
        go_quiet (fail)
        go_wp2
        go_ret
        exact ⟨rfl, (F5.out.drewN _).drewN _⟩
      · have hf : ((2147483647 : Int) == s + n) = false := by simpa using hne
        have hw2 : IntKind.i64.wrap (s + n) = s + n := IntWalk.i64_in _ (by omega)
        have hw1 : IntKind.i64.wrap (a - n) = a - n := IntWalk.i64_in _ (by omega)
        go_wp2_with fail
        go_quiet (fail)
        go_wp2
        go_ret
        exact ⟨rfl, (F5.out.drewN _).drewN _⟩

set_option maxRecDepth 100000 in
set_option maxHeartbeats 4000000 in
theorem keeps_good1 (l a b c d s t u v n m9 : Int) (hl : 0 ≤ l ∧ l ≤ 2147483647) (he : 0 ≤ b ∧ b ≤ 2147483647) (hs : 0 ≤ t ∧ t ≤ 2147483647) (hn : 0 ≤ n ∧ n ≤ l ∧ n ≤ b) (h9 : m9 = t + n ∨ (m9 ≠ t + n ∧ m9 = 2147483647)) (w : World)
    (sp : ∀ w, Calls Try.prog 9 #[.agg #[.int .i64 l, .int .i64 a, .int .i64 b, .int .i64 c, .int .i64 d, .int .i64 s, .int .i64 t, .int .i64 u, .int .i64 v], .int .i64 1, .int .i64 n] w fun e w' => e = .returned (.tuple #[.agg #[.int .i64 (l - n), .int .i64 a, .int .i64 (b - n), .int .i64 c, .int .i64 d, .int .i64 s, .int .i64 m9, .int .i64 u, .int .i64 v], .int .i64 0]) ∧ Fr nob w w')
    (ri : ∀ w, Calls Try.prog 13 #[.agg #[.int .i64 l, .int .i64 a, .int .i64 b, .int .i64 c, .int .i64 d, .int .i64 s, .int .i64 t, .int .i64 u, .int .i64 v]] w fun e w' => e = .returned (.bool true) ∧ Fr nob w w')
    (rq : ∀ w, Calls Try.prog 13 #[.agg #[.int .i64 (l - n), .int .i64 a, .int .i64 (b - n), .int .i64 c, .int .i64 d, .int .i64 s, .int .i64 m9, .int .i64 u, .int .i64 v]] w fun e w' => e = .returned (.bool true) ∧ Fr nob w w') :
    Calls Try.prog 4 #[.agg #[.int .i64 l, .int .i64 a, .int .i64 b, .int .i64 c, .int .i64 d, .int .i64 s, .int .i64 t, .int .i64 u, .int .i64 v], .int .i64 1, .int .i64 n] w fun e w' => e = .returned (.bool true) ∧ Fr nob w w' := by
  have Hsp := Lib.hid sp
  have Hri := Lib.hid ri
  have Hrq := Lib.hid rq
  have H9 := Lib.hid h9
  clear sp ri rq h9
  go_enter Try.func4, Try.ntmps4
  go_wp2_with (go_at_call 7; refine stop ?_)
  refine Stop.go ((awake_any _).mono ?_)
  rintro e w1 ⟨rfl, f⟩
  have A1 : Hid (w1.heap[w.heap.size]? = some (.cells #[.int .i64 l, .int .i64 a, .int .i64 b, .int .i64 c, .int .i64 d, .int .i64 s, .int .i64 t, .int .i64 u, .int .i64 v] 24 (0, 0))) := Lib.hid (f.heap_some (obj_new rfl _) (fun x => x))
  obtain ⟨h, hh⟩ : ∃ h, h = w.heap.size := ⟨_, rfl⟩
  rw [← hh] at A1
  rw [← hh]
  have F1 := Lib.hid (((Fr.refl nob w).alloc _).trans f (U := nob) (fun _ _ x => x) (fun _ _ x => x))
  clear f hh
  have k0 : w1.cell? ⟨h, 0, none⟩ = some (.int .i64 l) := obj_cell A1.out 0
  have k1 : w1.cell? ⟨h, 1, none⟩ = some (.int .i64 a) := obj_cell A1.out 1
  have k2 : w1.cell? ⟨h, 2, none⟩ = some (.int .i64 b) := obj_cell A1.out 2
  have k3 : w1.cell? ⟨h, 3, none⟩ = some (.int .i64 c) := obj_cell A1.out 3
  have k4 : w1.cell? ⟨h, 4, none⟩ = some (.int .i64 d) := obj_cell A1.out 4
  have k5 : w1.cell? ⟨h, 5, none⟩ = some (.int .i64 s) := obj_cell A1.out 5
  have k6 : w1.cell? ⟨h, 6, none⟩ = some (.int .i64 t) := obj_cell A1.out 6
  have k7 : w1.cell? ⟨h, 7, none⟩ = some (.int .i64 u) := obj_cell A1.out 7
  have k8 : w1.cell? ⟨h, 8, none⟩ = some (.int .i64 v) := obj_cell A1.out 8
  go_wp2_with (go_at_call 9; refine stop ?_)
  clear k0 k1 k2 k3 k4 k5 k6 k7 k8
  refine Stop.go ((Hsp.out w1).mono ?_)
  rintro e w2 ⟨rfl, f⟩
  have F2 := Lib.hid (F1.out.step f)
  have A2 := Lib.hid (f.heap_some A1.out (fun x => x))
  clear f Hsp
  have k0 : ∀ o, (w2.alloc o).cell? ⟨h, 0, none⟩ = some (.int .i64 l) := fun o => obj_cell (obj_alloc A2.out o) 0
  have k1 : ∀ o, (w2.alloc o).cell? ⟨h, 1, none⟩ = some (.int .i64 a) := fun o => obj_cell (obj_alloc A2.out o) 1
  have k2 : ∀ o, (w2.alloc o).cell? ⟨h, 2, none⟩ = some (.int .i64 b) := fun o => obj_cell (obj_alloc A2.out o) 2
  have k3 : ∀ o, (w2.alloc o).cell? ⟨h, 3, none⟩ = some (.int .i64 c) := fun o => obj_cell (obj_alloc A2.out o) 3
  have k4 : ∀ o, (w2.alloc o).cell? ⟨h, 4, none⟩ = some (.int .i64 d) := fun o => obj_cell (obj_alloc A2.out o) 4
  have k5 : ∀ o, (w2.alloc o).cell? ⟨h, 5, none⟩ = some (.int .i64 s) := fun o => obj_cell (obj_alloc A2.out o) 5
  have k6 : ∀ o, (w2.alloc o).cell? ⟨h, 6, none⟩ = some (.int .i64 t) := fun o => obj_cell (obj_alloc A2.out o) 6
  have k7 : ∀ o, (w2.alloc o).cell? ⟨h, 7, none⟩ = some (.int .i64 u) := fun o => obj_cell (obj_alloc A2.out o) 7
  have k8 : ∀ o, (w2.alloc o).cell? ⟨h, 8, none⟩ = some (.int .i64 v) := fun o => obj_cell (obj_alloc A2.out o) 8
  go_wp2_with (go_at_call 13; refine stop ?_)
  clear k0 k1 k2 k3 k4 k5 k6 k7 k8
  obtain ⟨w3, hw⟩ : ∃ w3, w3 = w2.alloc (.cells #[.int .i64 (l - n), .int .i64 a, .int .i64 (b - n), .int .i64 c, .int .i64 d, .int .i64 s, .int .i64 m9, .int .i64 u, .int .i64 v] 24) := ⟨_, rfl⟩
  simp only [← hw]
  obtain ⟨g8, hg⟩ : ∃ g8, g8 = w2.heap.size := ⟨_, rfl⟩
  rw [← hg]
  have B3 : Hid (w3.heap[g8]? = some (.cells #[.int .i64 (l - n), .int .i64 a, .int .i64 (b - n), .int .i64 c, .int .i64 d, .int .i64 s, .int .i64 m9, .int .i64 u, .int .i64 v] 24 (0, 0))) := hw ▸ obj_new hg _
  have F3 := Lib.hid (hw ▸ F2.out.alloc _ : Fr nob w w3)
  have A3 : Hid (w3.heap[h]? = some (.cells #[.int .i64 l, .int .i64 a, .int .i64 b, .int .i64 c, .int .i64 d, .int .i64 s, .int .i64 t, .int .i64 u, .int .i64 v] 24 (0, 0))) := hw ▸ obj_alloc A2.out _
  clear hw hg
  refine Stop.go ((Hri.out w3).mono ?_)
  rintro e w4 ⟨rfl, f⟩
  have F4 := Lib.hid (F3.out.step f)
  have A4 := Lib.hid (f.heap_some A3.out (fun x => x))
  have B4 := Lib.hid (f.heap_some B3.out (fun x => x))
  clear f Hri
  have x0 : w4.cell? ⟨h, 0, none⟩ = some (.int .i64 l) := obj_cell A4.out 0
  have x1 : w4.cell? ⟨h, 1, none⟩ = some (.int .i64 a) := obj_cell A4.out 1
  have x2 : w4.cell? ⟨h, 2, none⟩ = some (.int .i64 b) := obj_cell A4.out 2
  have x3 : w4.cell? ⟨h, 3, none⟩ = some (.int .i64 c) := obj_cell A4.out 3
  have x4 : w4.cell? ⟨h, 4, none⟩ = some (.int .i64 d) := obj_cell A4.out 4
  have x5 : w4.cell? ⟨h, 5, none⟩ = some (.int .i64 s) := obj_cell A4.out 5
  have x6 : w4.cell? ⟨h, 6, none⟩ = some (.int .i64 t) := obj_cell A4.out 6
  have x7 : w4.cell? ⟨h, 7, none⟩ = some (.int .i64 u) := obj_cell A4.out 7
  have x8 : w4.cell? ⟨h, 8, none⟩ = some (.int .i64 v) := obj_cell A4.out 8
  have y0 : w4.cell? ⟨g8, 0, none⟩ = some (.int .i64 (l - n)) := obj_cell B4.out 0
  have y1 : w4.cell? ⟨g8, 1, none⟩ = some (.int .i64 a) := obj_cell B4.out 1
  have y2 : w4.cell? ⟨g8, 2, none⟩ = some (.int .i64 (b - n)) := obj_cell B4.out 2
  have y3 : w4.cell? ⟨g8, 3, none⟩ = some (.int .i64 c) := obj_cell B4.out 3
  have y4 : w4.cell? ⟨g8, 4, none⟩ = some (.int .i64 d) := obj_cell B4.out 4
  have y5 : w4.cell? ⟨g8, 5, none⟩ = some (.int .i64 s) := obj_cell B4.out 5
  have y6 : w4.cell? ⟨g8, 6, none⟩ = some (.int .i64 m9) := obj_cell B4.out 6
  have y7 : w4.cell? ⟨g8, 7, none⟩ = some (.int .i64 u) := obj_cell B4.out 7
  have y8 : w4.cell? ⟨g8, 8, none⟩ = some (.int .i64 v) := obj_cell B4.out 8
  go_wp2_with (go_at_call 13; refine stop ?_)
  clear x0 x1 x2 x3 x4 x5 x6 x7 x8
  clear y0 y1 y2 y3 y4 y5 y6 y7 y8
  refine Stop.go ((Hrq.out w4).mono ?_)
  rintro e w5 ⟨rfl, f⟩
  have F5 := Lib.hid (F4.out.step f)
  have A5 := Lib.hid (f.heap_some A4.out (fun x => x))
  have B5 := Lib.hid (f.heap_some B4.out (fun x => x))
  clear f Hrq
  have x0 : w5.cell? ⟨h, 0, none⟩ = some (.int .i64 l) := obj_cell A5.out 0
  have x1 : w5.cell? ⟨h, 1, none⟩ = some (.int .i64 a) := obj_cell A5.out 1
  have x2 : w5.cell? ⟨h, 2, none⟩ = some (.int .i64 b) := obj_cell A5.out 2
  have x3 : w5.cell? ⟨h, 3, none⟩ = some (.int .i64 c) := obj_cell A5.out 3
  have x4 : w5.cell? ⟨h, 4, none⟩ = some (.int .i64 d) := obj_cell A5.out 4
  have x5 : w5.cell? ⟨h, 5, none⟩ = some (.int .i64 s) := obj_cell A5.out 5
  have x6 : w5.cell? ⟨h, 6, none⟩ = some (.int .i64 t) := obj_cell A5.out 6
  have x7 : w5.cell? ⟨h, 7, none⟩ = some (.int .i64 u) := obj_cell A5.out 7
  have x8 : w5.cell? ⟨h, 8, none⟩ = some (.int .i64 v) := obj_cell A5.out 8
  have y0 : w5.cell? ⟨g8, 0, none⟩ = some (.int .i64 (l - n)) := obj_cell B5.out 0
  have y1 : w5.cell? ⟨g8, 1, none⟩ = some (.int .i64 a) := obj_cell B5.out 1
  have y2 : w5.cell? ⟨g8, 2, none⟩ = some (.int .i64 (b - n)) := obj_cell B5.out 2
  have y3 : w5.cell? ⟨g8, 3, none⟩ = some (.int .i64 c) := obj_cell B5.out 3
  have y4 : w5.cell? ⟨g8, 4, none⟩ = some (.int .i64 d) := obj_cell B5.out 4
  have y5 : w5.cell? ⟨g8, 5, none⟩ = some (.int .i64 s) := obj_cell B5.out 5
  have y6 : w5.cell? ⟨g8, 6, none⟩ = some (.int .i64 m9) := obj_cell B5.out 6
  have y7 : w5.cell? ⟨g8, 7, none⟩ = some (.int .i64 u) := obj_cell B5.out 7
  have y8 : w5.cell? ⟨g8, 8, none⟩ = some (.int .i64 v) := obj_cell B5.out 8
  clear A1 A2 A3 A4 A5 B3 B4 B5 F1 F2 F3 F4
  go_wp2_with fail
  go_loopg [10] 4 (fun gk i wr => ∃ (k m : Nat), k + gk = 4 ∧ i = .int .i64 (k : Nat) ∧ wr = w5.drewN m)
  case atStart => exact ⟨0, 0, rfl, rfl, rfl⟩
  case round =>
    obtain ⟨k, m, hk, rfl, rfl⟩ := hrel
    have HK := Lib.hid hk
    obtain rfl | rfl | rfl | rfl | rfl : k = 0 ∨ k = 1 ∨ k = 2 ∨ k = 3 ∨ k = 4 := by omega
    · clear hk
      go_wp2_with fail
      go_quiet (fail)
      go_wp2
      go_roundg (gk - 1)
      case measure => have := HK.out; omega
      case rel => exact ⟨1, _, by have := HK.out; omega, rfl, rfl⟩
    · clear hk
      go_wp2_with fail
      go_quiet (fail)
      go_wp2
      go_roundg (gk - 1)
      case measure => have := HK.out; omega
      case rel => exact ⟨2, _, by have := HK.out; omega, rfl, rfl⟩
    · clear hk
      go_wp2_with fail
      go_quiet (fail)
      go_wp2
      go_roundg (gk - 1)
      case measure => have := HK.out; omega
      case rel => exact ⟨3, _, by have := HK.out; omega, rfl, rfl⟩
    · clear hk
      go_wp2_with fail
      go_quiet (fail)
      go_wp2
      go_roundg (gk - 1)
      case measure => have := HK.out; omega
      case rel => exact ⟨4, _, by have := HK.out; omega, rfl, rfl⟩
    · clear hk
      rcases H9.out with rfl | ⟨hne, rfl⟩
      · have hw2 : IntKind.i64.wrap (t + n) = t + n := IntWalk.i64_in _ (by omega)
        have hw1 : IntKind.i64.wrap (b - n) = b - n := IntWalk.i64_in _ (by omega)
        go_wp2_with fail
        go_quiet (fail)
        go_wp2
        go_ret
        exact ⟨rfl, (F5.out.drewN _).drewN _⟩
      · have hf : ((2147483647 : Int) == t + n) = false := by simpa using hne
        have hw2 : IntKind.i64.wrap (t + n) = t + n := IntWalk.i64_in _ (by omega)
        have hw1 : IntKind.i64.wrap (b - n) = b - n := IntWalk.i64_in _ (by omega)
        go_wp2_with fail
        go_quiet (fail)
        go_wp2
        go_ret
        exact ⟨rfl, (F5.out.drewN _).drewN _⟩

set_option maxRecDepth 100000 in
set_option maxHeartbeats 4000000 in
theorem keeps_good2 (l a b c d s t u v n m9 : Int) (hl : 0 ≤ l ∧ l ≤ 2147483647) (he : 0 ≤ c ∧ c ≤ 2147483647) (hs : 0 ≤ u ∧ u ≤ 2147483647) (hn : 0 ≤ n ∧ n ≤ l ∧ n ≤ c) (h9 : m9 = u + n ∨ (m9 ≠ u + n ∧ m9 = 2147483647)) (w : World)
    (sp : ∀ w, Calls Try.prog 9 #[.agg #[.int .i64 l, .int .i64 a, .int .i64 b, .int .i64 c, .int .i64 d, .int .i64 s, .int .i64 t, .int .i64 u, .int .i64 v], .int .i64 2, .int .i64 n] w fun e w' => e = .returned (.tuple #[.agg #[.int .i64 (l - n), .int .i64 a, .int .i64 b, .int .i64 (c - n), .int .i64 d, .int .i64 s, .int .i64 t, .int .i64 m9, .int .i64 v], .int .i64 0]) ∧ Fr nob w w')
    (ri : ∀ w, Calls Try.prog 13 #[.agg #[.int .i64 l, .int .i64 a, .int .i64 b, .int .i64 c, .int .i64 d, .int .i64 s, .int .i64 t, .int .i64 u, .int .i64 v]] w fun e w' => e = .returned (.bool true) ∧ Fr nob w w')
    (rq : ∀ w, Calls Try.prog 13 #[.agg #[.int .i64 (l - n), .int .i64 a, .int .i64 b, .int .i64 (c - n), .int .i64 d, .int .i64 s, .int .i64 t, .int .i64 m9, .int .i64 v]] w fun e w' => e = .returned (.bool true) ∧ Fr nob w w') :
    Calls Try.prog 4 #[.agg #[.int .i64 l, .int .i64 a, .int .i64 b, .int .i64 c, .int .i64 d, .int .i64 s, .int .i64 t, .int .i64 u, .int .i64 v], .int .i64 2, .int .i64 n] w fun e w' => e = .returned (.bool true) ∧ Fr nob w w' := by
  have Hsp := Lib.hid sp
  have Hri := Lib.hid ri
  have Hrq := Lib.hid rq
  have H9 := Lib.hid h9
  clear sp ri rq h9
  go_enter Try.func4, Try.ntmps4
  go_wp2_with (go_at_call 7; refine stop ?_)
  refine Stop.go ((awake_any _).mono ?_)
  rintro e w1 ⟨rfl, f⟩
  have A1 : Hid (w1.heap[w.heap.size]? = some (.cells #[.int .i64 l, .int .i64 a, .int .i64 b, .int .i64 c, .int .i64 d, .int .i64 s, .int .i64 t, .int .i64 u, .int .i64 v] 24 (0, 0))) := Lib.hid (f.heap_some (obj_new rfl _) (fun x => x))
  obtain ⟨h, hh⟩ : ∃ h, h = w.heap.size := ⟨_, rfl⟩
  rw [← hh] at A1
  rw [← hh]
  have F1 := Lib.hid (((Fr.refl nob w).alloc _).trans f (U := nob) (fun _ _ x => x) (fun _ _ x => x))
  clear f hh
  have k0 : w1.cell? ⟨h, 0, none⟩ = some (.int .i64 l) := obj_cell A1.out 0
  have k1 : w1.cell? ⟨h, 1, none⟩ = some (.int .i64 a) := obj_cell A1.out 1
  have k2 : w1.cell? ⟨h, 2, none⟩ = some (.int .i64 b) := obj_cell A1.out 2
  have k3 : w1.cell? ⟨h, 3, none⟩ = some (.int .i64 c) := obj_cell A1.out 3
  have k4 : w1.cell? ⟨h, 4, none⟩ = some (.int .i64 d) := obj_cell A1.out 4
  have k5 : w1.cell? ⟨h, 5, none⟩ = some (.int .i64 s) := obj_cell A1.out 5
  have k6 : w1.cell? ⟨h, 6, none⟩ = some (.int .i64 t) := obj_cell A1.out 6
  have k7 : w1.cell? ⟨h, 7, none⟩ = some (.int .i64 u) := obj_cell A1.out 7
  have k8 : w1.cell? ⟨h, 8, none⟩ = some (.int .i64 v) := obj_cell A1.out 8
  go_wp2_with (go_at_call 9; refine stop ?_)
  clear k0 k1 k2 k3 k4 k5 k6 k7 k8
  refine Stop.go ((Hsp.out w1).mono ?_)
  rintro e w2 ⟨rfl, f⟩
  have F2 := Lib.hid (F1.out.step f)
  have A2 := Lib.hid (f.heap_some A1.out (fun x => x))
  clear f Hsp
  have k0 : ∀ o, (w2.alloc o).cell? ⟨h, 0, none⟩ = some (.int .i64 l) := fun o => obj_cell (obj_alloc A2.out o) 0
  have k1 : ∀ o, (w2.alloc o).cell? ⟨h, 1, none⟩ = some (.int .i64 a) := fun o => obj_cell (obj_alloc A2.out o) 1
  have k2 : ∀ o, (w2.alloc o).cell? ⟨h, 2, none⟩ = some (.int .i64 b) := fun o => obj_cell (obj_alloc A2.out o) 2
  have k3 : ∀ o, (w2.alloc o).cell? ⟨h, 3, none⟩ = some (.int .i64 c) := fun o => obj_cell (obj_alloc A2.out o) 3
  have k4 : ∀ o, (w2.alloc o).cell? ⟨h, 4, none⟩ = some (.int .i64 d) := fun o => obj_cell (obj_alloc A2.out o) 4
  have k5 : ∀ o, (w2.alloc o).cell? ⟨h, 5, none⟩ = some (.int .i64 s) := fun o => obj_cell (obj_alloc A2.out o) 5
  have k6 : ∀ o, (w2.alloc o).cell? ⟨h, 6, none⟩ = some (.int .i64 t) := fun o => obj_cell (obj_alloc A2.out o) 6
  have k7 : ∀ o, (w2.alloc o).cell? ⟨h, 7, none⟩ = some (.int .i64 u) := fun o => obj_cell (obj_alloc A2.out o) 7
  have k8 : ∀ o, (w2.alloc o).cell? ⟨h, 8, none⟩ = some (.int .i64 v) := fun o => obj_cell (obj_alloc A2.out o) 8
  go_wp2_with (go_at_call 13; refine stop ?_)
  clear k0 k1 k2 k3 k4 k5 k6 k7 k8
  obtain ⟨w3, hw⟩ : ∃ w3, w3 = w2.alloc (.cells #[.int .i64 (l - n), .int .i64 a, .int .i64 b, .int .i64 (c - n), .int .i64 d, .int .i64 s, .int .i64 t, .int .i64 m9, .int .i64 v] 24) := ⟨_, rfl⟩
  simp only [← hw]
  obtain ⟨g8, hg⟩ : ∃ g8, g8 = w2.heap.size := ⟨_, rfl⟩
  rw [← hg]
  have B3 : Hid (w3.heap[g8]? = some (.cells #[.int .i64 (l - n), .int .i64 a, .int .i64 b, .int .i64 (c - n), .int .i64 d, .int .i64 s, .int .i64 t, .int .i64 m9, .int .i64 v] 24 (0, 0))) := hw ▸ obj_new hg _
  have F3 := Lib.hid (hw ▸ F2.out.alloc _ : Fr nob w w3)
  have A3 : Hid (w3.heap[h]? = some (.cells #[.int .i64 l, .int .i64 a, .int .i64 b, .int .i64 c, .int .i64 d, .int .i64 s, .int .i64 t, .int .i64 u, .int .i64 v] 24 (0, 0))) := hw ▸ obj_alloc A2.out _
  clear hw hg
  refine Stop.go ((Hri.out w3).mono ?_)
  rintro e w4 ⟨rfl, f⟩
  have F4 := Lib.hid (F3.out.step f)
  have A4 := Lib.hid (f.heap_some A3.out (fun x => x))
  have B4 := Lib.hid (f.heap_some B3.out (fun x => x))
  clear f Hri
  have x0 : w4.cell? ⟨h, 0, none⟩ = some (.int .i64 l) := obj_cell A4.out 0
  have x1 : w4.cell? ⟨h, 1, none⟩ = some (.int .i64 a) := obj_cell A4.out 1
  have x2 : w4.cell? ⟨h, 2, none⟩ = some (.int .i64 b) := obj_cell A4.out 2
  have x3 : w4.cell? ⟨h, 3, none⟩ = some (.int .i64 c) := obj_cell A4.out 3
  have x4 : w4.cell? ⟨h, 4, none⟩ = some (.int .i64 d) := obj_cell A4.out 4
  have x5 : w4.cell? ⟨h, 5, none⟩ = some (.int .i64 s) := obj_cell A4.out 5
  have x6 : w4.cell? ⟨h, 6, none⟩ = some (.int .i64 t) := obj_cell A4.out 6
  have x7 : w4.cell? ⟨h, 7, none⟩ = some (.int .i64 u) := obj_cell A4.out 7
  have x8 : w4.cell? ⟨h, 8, none⟩ = some (.int .i64 v) := obj_cell A4.out 8
  have y0 : w4.cell? ⟨g8, 0, none⟩ = some (.int .i64 (l - n)) := obj_cell B4.out 0
  have y1 : w4.cell? ⟨g8, 1, none⟩ = some (.int .i64 a) := obj_cell B4.out 1
  have y2 : w4.cell? ⟨g8, 2, none⟩ = some (.int .i64 b) := obj_cell B4.out 2
  have y3 : w4.cell? ⟨g8, 3, none⟩ = some (.int .i64 (c - n)) := obj_cell B4.out 3
  have y4 : w4.cell? ⟨g8, 4, none⟩ = some (.int .i64 d) := obj_cell B4.out 4
  have y5 : w4.cell? ⟨g8, 5, none⟩ = some (.int .i64 s) := obj_cell B4.out 5
  have y6 : w4.cell? ⟨g8, 6, none⟩ = some (.int .i64 t) := obj_cell B4.out 6
  have y7 : w4.cell? ⟨g8, 7, none⟩ = some (.int .i64 m9) := obj_cell B4.out 7
  have y8 : w4.cell? ⟨g8, 8, none⟩ = some (.int .i64 v) := obj_cell B4.out 8
  go_wp2_with (go_at_call 13; refine stop ?_)
  clear x0 x1 x2 x3 x4 x5 x6 x7 x8
  clear y0 y1 y2 y3 y4 y5 y6 y7 y8
  refine Stop.go ((Hrq.out w4).mono ?_)
  rintro e w5 ⟨rfl, f⟩
  have F5 := Lib.hid (F4.out.step f)
  have A5 := Lib.hid (f.heap_some A4.out (fun x => x))
  have B5 := Lib.hid (f.heap_some B4.out (fun x => x))
  clear f Hrq
  have x0 : w5.cell? ⟨h, 0, none⟩ = some (.int .i64 l) := obj_cell A5.out 0
  have x1 : w5.cell? ⟨h, 1, none⟩ = some (.int .i64 a) := obj_cell A5.out 1
  have x2 : w5.cell? ⟨h, 2, none⟩ = some (.int .i64 b) := obj_cell A5.out 2
  have x3 : w5.cell? ⟨h, 3, none⟩ = some (.int .i64 c) := obj_cell A5.out 3
  have x4 : w5.cell? ⟨h, 4, none⟩ = some (.int .i64 d) := obj_cell A5.out 4
  have x5 : w5.cell? ⟨h, 5, none⟩ = some (.int .i64 s) := obj_cell A5.out 5
  have x6 : w5.cell? ⟨h, 6, none⟩ = some (.int .i64 t) := obj_cell A5.out 6
  have x7 : w5.cell? ⟨h, 7, none⟩ = some (.int .i64 u) := obj_cell A5.out 7
  have x8 : w5.cell? ⟨h, 8, none⟩ = some (.int .i64 v) := obj_cell A5.out 8
  have y0 : w5.cell? ⟨g8, 0, none⟩ = some (.int .i64 (l - n)) := obj_cell B5.out 0
  have y1 : w5.cell? ⟨g8, 1, none⟩ = some (.int .i64 a) := obj_cell B5.out 1
  have y2 : w5.cell? ⟨g8, 2, none⟩ = some (.int .i64 b) := obj_cell B5.out 2
  have y3 : w5.cell? ⟨g8, 3, none⟩ = some (.int .i64 (c - n)) := obj_cell B5.out 3
  have y4 : w5.cell? ⟨g8, 4, none⟩ = some (.int .i64 d) := obj_cell B5.out 4
  have y5 : w5.cell? ⟨g8, 5, none⟩ = some (.int .i64 s) := obj_cell B5.out 5
  have y6 : w5.cell? ⟨g8, 6, none⟩ = some (.int .i64 t) := obj_cell B5.out 6
  have y7 : w5.cell? ⟨g8, 7, none⟩ = some (.int .i64 m9) := obj_cell B5.out 7
  have y8 : w5.cell? ⟨g8, 8, none⟩ = some (.int .i64 v) := obj_cell B5.out 8
  clear A1 A2 A3 A4 A5 B3 B4 B5 F1 F2 F3 F4
  go_wp2_with fail
  go_loopg [10] 4 (fun gk i wr => ∃ (k m : Nat), k + gk = 4 ∧ i = .int .i64 (k : Nat) ∧ wr = w5.drewN m)
  case atStart => exact ⟨0, 0, rfl, rfl, rfl⟩
  case round =>
    obtain ⟨k, m, hk, rfl, rfl⟩ := hrel
    have HK := Lib.hid hk
    obtain rfl | rfl | rfl | rfl | rfl : k = 0 ∨ k = 1 ∨ k = 2 ∨ k = 3 ∨ k = 4 := by omega
    · clear hk
      go_wp2_with fail
      go_quiet (fail)
      go_wp2
      go_roundg (gk - 1)
      case measure => have := HK.out; omega
      case rel => exact ⟨1, _, by have := HK.out; omega, rfl, rfl⟩
    · clear hk
      go_wp2_with fail
      go_quiet (fail)
      go_wp2
      go_roundg (gk - 1)
      case measure => have := HK.out; omega
      case rel => exact ⟨2, _, by have := HK.out; omega, rfl, rfl⟩
    · clear hk
      go_wp2_with fail
      go_quiet (fail)
      go_wp2
      go_roundg (gk - 1)
      case measure => have := HK.out; omega
      case rel => exact ⟨3, _, by have := HK.out; omega, rfl, rfl⟩
    · clear hk
      go_wp2_with fail
      go_quiet (fail)
      go_wp2
      go_roundg (gk - 1)
      case measure => have := HK.out; omega
      case rel => exact ⟨4, _, by have := HK.out; omega, rfl, rfl⟩
    · clear hk
      rcases H9.out with rfl | ⟨hne, rfl⟩
      · have hw2 : IntKind.i64.wrap (u + n) = u + n := IntWalk.i64_in _ (by omega)
        have hw1 : IntKind.i64.wrap (c - n) = c - n := IntWalk.i64_in _ (by omega)
        go_wp2_with fail
        go_quiet (fail)
        go_wp2
        go_ret
        exact ⟨rfl, (F5.out.drewN _).drewN _⟩
      · have hf : ((2147483647 : Int) == u + n) = false := by simpa using hne
        have hw2 : IntKind.i64.wrap (u + n) = u + n := IntWalk.i64_in _ (by omega)
        have hw1 : IntKind.i64.wrap (c - n) = c - n := IntWalk.i64_in _ (by omega)
        go_wp2_with fail
        go_quiet (fail)
        go_wp2
        go_ret
        exact ⟨rfl, (F5.out.drewN _).drewN _⟩

set_option maxRecDepth 100000 in
set_option maxHeartbeats 4000000 in
theorem keeps_good3 (l a b c d s t u v n m9 : Int) (hl : 0 ≤ l ∧ l ≤ 2147483647) (he : 0 ≤ d ∧ d ≤ 2147483647) (hs : 0 ≤ v ∧ v ≤ 2147483647) (hn : 0 ≤ n ∧ n ≤ l ∧ n ≤ d) (h9 : m9 = v + n ∨ (m9 ≠ v + n ∧ m9 = 2147483647)) (w : World)
    (sp : ∀ w, Calls Try.prog 9 #[.agg #[.int .i64 l, .int .i64 a, .int .i64 b, .int .i64 c, .int .i64 d, .int .i64 s, .int .i64 t, .int .i64 u, .int .i64 v], .int .i64 3, .int .i64 n] w fun e w' => e = .returned (.tuple #[.agg #[.int .i64 (l - n), .int .i64 a, .int .i64 b, .int .i64 c, .int .i64 (d - n), .int .i64 s, .int .i64 t, .int .i64 u, .int .i64 m9], .int .i64 0]) ∧ Fr nob w w')
    (ri : ∀ w, Calls Try.prog 13 #[.agg #[.int .i64 l, .int .i64 a, .int .i64 b, .int .i64 c, .int .i64 d, .int .i64 s, .int .i64 t, .int .i64 u, .int .i64 v]] w fun e w' => e = .returned (.bool true) ∧ Fr nob w w')
    (rq : ∀ w, Calls Try.prog 13 #[.agg #[.int .i64 (l - n), .int .i64 a, .int .i64 b, .int .i64 c, .int .i64 (d - n), .int .i64 s, .int .i64 t, .int .i64 u, .int .i64 m9]] w fun e w' => e = .returned (.bool true) ∧ Fr nob w w') :
    Calls Try.prog 4 #[.agg #[.int .i64 l, .int .i64 a, .int .i64 b, .int .i64 c, .int .i64 d, .int .i64 s, .int .i64 t, .int .i64 u, .int .i64 v], .int .i64 3, .int .i64 n] w fun e w' => e = .returned (.bool true) ∧ Fr nob w w' := by
  have Hsp := Lib.hid sp
  have Hri := Lib.hid ri
  have Hrq := Lib.hid rq
  have H9 := Lib.hid h9
  clear sp ri rq h9
  go_enter Try.func4, Try.ntmps4
  go_wp2_with (go_at_call 7; refine stop ?_)
  refine Stop.go ((awake_any _).mono ?_)
  rintro e w1 ⟨rfl, f⟩
  have A1 : Hid (w1.heap[w.heap.size]? = some (.cells #[.int .i64 l, .int .i64 a, .int .i64 b, .int .i64 c, .int .i64 d, .int .i64 s, .int .i64 t, .int .i64 u, .int .i64 v] 24 (0, 0))) := Lib.hid (f.heap_some (obj_new rfl _) (fun x => x))
  obtain ⟨h, hh⟩ : ∃ h, h = w.heap.size := ⟨_, rfl⟩
  rw [← hh] at A1
  rw [← hh]
  have F1 := Lib.hid (((Fr.refl nob w).alloc _).trans f (U := nob) (fun _ _ x => x) (fun _ _ x => x))
  clear f hh
  have k0 : w1.cell? ⟨h, 0, none⟩ = some (.int .i64 l) := obj_cell A1.out 0
  have k1 : w1.cell? ⟨h, 1, none⟩ = some (.int .i64 a) := obj_cell A1.out 1
  have k2 : w1.cell? ⟨h, 2, none⟩ = some (.int .i64 b) := obj_cell A1.out 2
  have k3 : w1.cell? ⟨h, 3, none⟩ = some (.int .i64 c) := obj_cell A1.out 3
  have k4 : w1.cell? ⟨h, 4, none⟩ = some (.int .i64 d) := obj_cell A1.out 4
  have k5 : w1.cell? ⟨h, 5, none⟩ = some (.int .i64 s) := obj_cell A1.out 5
  have k6 : w1.cell? ⟨h, 6, none⟩ = some (.int .i64 t) := obj_cell A1.out 6
  have k7 : w1.cell? ⟨h, 7, none⟩ = some (.int .i64 u) := obj_cell A1.out 7
  have k8 : w1.cell? ⟨h, 8, none⟩ = some (.int .i64 v) := obj_cell A1.out 8
  go_wp2_with (go_at_call 9; refine stop ?_)
  clear k0 k1 k2 k3 k4 k5 k6 k7 k8
  refine Stop.go ((Hsp.out w1).mono ?_)
  rintro e w2 ⟨rfl, f⟩
  have F2 := Lib.hid (F1.out.step f)
  have A2 := Lib.hid (f.heap_some A1.out (fun x => x))
  clear f Hsp
  have k0 : ∀ o, (w2.alloc o).cell? ⟨h, 0, none⟩ = some (.int .i64 l) := fun o => obj_cell (obj_alloc A2.out o) 0
  have k1 : ∀ o, (w2.alloc o).cell? ⟨h, 1, none⟩ = some (.int .i64 a) := fun o => obj_cell (obj_alloc A2.out o) 1
  have k2 : ∀ o, (w2.alloc o).cell? ⟨h, 2, none⟩ = some (.int .i64 b) := fun o => obj_cell (obj_alloc A2.out o) 2
  have k3 : ∀ o, (w2.alloc o).cell? ⟨h, 3, none⟩ = some (.int .i64 c) := fun o => obj_cell (obj_alloc A2.out o) 3
  have k4 : ∀ o, (w2.alloc o).cell? ⟨h, 4, none⟩ = some (.int .i64 d) := fun o => obj_cell (obj_alloc A2.out o) 4
  have k5 : ∀ o, (w2.alloc o).cell? ⟨h, 5, none⟩ = some (.int .i64 s) := fun o => obj_cell (obj_alloc A2.out o) 5
  have k6 : ∀ o, (w2.alloc o).cell? ⟨h, 6, none⟩ = some (.int .i64 t) := fun o => obj_cell (obj_alloc A2.out o) 6
  have k7 : ∀ o, (w2.alloc o).cell? ⟨h, 7, none⟩ = some (.int .i64 u) := fun o => obj_cell (obj_alloc A2.out o) 7
  have k8 : ∀ o, (w2.alloc o).cell? ⟨h, 8, none⟩ = some (.int .i64 v) := fun o => obj_cell (obj_alloc A2.out o) 8
  go_wp2_with (go_at_call 13; refine stop ?_)
  clear k0 k1 k2 k3 k4 k5 k6 k7 k8
  obtain ⟨w3, hw⟩ : ∃ w3, w3 = w2.alloc (.cells #[.int .i64 (l - n), .int .i64 a, .int .i64 b, .int .i64 c, .int .i64 (d - n), .int .i64 s, .int .i64 t, .int .i64 u, .int .i64 m9] 24) := ⟨_, rfl⟩
  simp only [← hw]
  obtain ⟨g8, hg⟩ : ∃ g8, g8 = w2.heap.size := ⟨_, rfl⟩
  rw [← hg]
  have B3 : Hid (w3.heap[g8]? = some (.cells #[.int .i64 (l - n), .int .i64 a, .int .i64 b, .int .i64 c, .int .i64 (d - n), .int .i64 s, .int .i64 t, .int .i64 u, .int .i64 m9] 24 (0, 0))) := hw ▸ obj_new hg _
  have F3 := Lib.hid (hw ▸ F2.out.alloc _ : Fr nob w w3)
  have A3 : Hid (w3.heap[h]? = some (.cells #[.int .i64 l, .int .i64 a, .int .i64 b, .int .i64 c, .int .i64 d, .int .i64 s, .int .i64 t, .int .i64 u, .int .i64 v] 24 (0, 0))) := hw ▸ obj_alloc A2.out _
  clear hw hg
  refine Stop.go ((Hri.out w3).mono ?_)
  rintro e w4 ⟨rfl, f⟩
  have F4 := Lib.hid (F3.out.step f)
  have A4 := Lib.hid (f.heap_some A3.out (fun x => x))
  have B4 := Lib.hid (f.heap_some B3.out (fun x => x))
  clear f Hri
  have x0 : w4.cell? ⟨h, 0, none⟩ = some (.int .i64 l) := obj_cell A4.out 0
  have x1 : w4.cell? ⟨h, 1, none⟩ = some (.int .i64 a) := obj_cell A4.out 1
  have x2 : w4.cell? ⟨h, 2, none⟩ = some (.int .i64 b) := obj_cell A4.out 2
  have x3 : w4.cell? ⟨h, 3, none⟩ = some (.int .i64 c) := obj_cell A4.out 3
  have x4 : w4.cell? ⟨h, 4, none⟩ = some (.int .i64 d) := obj_cell A4.out 4
  have x5 : w4.cell? ⟨h, 5, none⟩ = some (.int .i64 s) := obj_cell A4.out 5
  have x6 : w4.cell? ⟨h, 6, none⟩ = some (.int .i64 t) := obj_cell A4.out 6
  have x7 : w4.cell? ⟨h, 7, none⟩ = some (.int .i64 u) := obj_cell A4.out 7
  have x8 : w4.cell? ⟨h, 8, none⟩ = some (.int .i64 v) := obj_cell A4.out 8
  have y0 : w4.cell? ⟨g8, 0, none⟩ = some (.int .i64 (l - n)) := obj_cell B4.out 0
  have y1 : w4.cell? ⟨g8, 1, none⟩ = some (.int .i64 a) := obj_cell B4.out 1
  have y2 : w4.cell? ⟨g8, 2, none⟩ = some (.int .i64 b) := obj_cell B4.out 2
  have y3 : w4.cell? ⟨g8, 3, none⟩ = some (.int .i64 c) := obj_cell B4.out 3
  have y4 : w4.cell? ⟨g8, 4, none⟩ = some (.int .i64 (d - n)) := obj_cell B4.out 4
  have y5 : w4.cell? ⟨g8, 5, none⟩ = some (.int .i64 s) := obj_cell B4.out 5
  have y6 : w4.cell? ⟨g8, 6, none⟩ = some (.int .i64 t) := obj_cell B4.out 6
  have y7 : w4.cell? ⟨g8, 7, none⟩ = some (.int .i64 u) := obj_cell B4.out 7
  have y8 : w4.cell? ⟨g8, 8, none⟩ = some (.int .i64 m9) := obj_cell B4.out 8
  go_wp2_with (go_at_call 13; refine stop ?_)
  clear x0 x1 x2 x3 x4 x5 x6 x7 x8
  clear y0 y1 y2 y3 y4 y5 y6 y7 y8
  refine Stop.go ((Hrq.out w4).mono ?_)
  rintro e w5 ⟨rfl, f⟩
  have F5 := Lib.hid (F4.out.step f)
  have A5 := Lib.hid (f.heap_some A4.out (fun x => x))
  have B5 := Lib.hid (f.heap_some B4.out (fun x => x))
  clear f Hrq
  have x0 : w5.cell? ⟨h, 0, none⟩ = some (.int .i64 l) := obj_cell A5.out 0
  have x1 : w5.cell? ⟨h, 1, none⟩ = some (.int .i64 a) := obj_cell A5.out 1
  have x2 : w5.cell? ⟨h, 2, none⟩ = some (.int .i64 b) := obj_cell A5.out 2
  have x3 : w5.cell? ⟨h, 3, none⟩ = some (.int .i64 c) := obj_cell A5.out 3
  have x4 : w5.cell? ⟨h, 4, none⟩ = some (.int .i64 d) := obj_cell A5.out 4
  have x5 : w5.cell? ⟨h, 5, none⟩ = some (.int .i64 s) := obj_cell A5.out 5
  have x6 : w5.cell? ⟨h, 6, none⟩ = some (.int .i64 t) := obj_cell A5.out 6
  have x7 : w5.cell? ⟨h, 7, none⟩ = some (.int .i64 u) := obj_cell A5.out 7
  have x8 : w5.cell? ⟨h, 8, none⟩ = some (.int .i64 v) := obj_cell A5.out 8
  have y0 : w5.cell? ⟨g8, 0, none⟩ = some (.int .i64 (l - n)) := obj_cell B5.out 0
  have y1 : w5.cell? ⟨g8, 1, none⟩ = some (.int .i64 a) := obj_cell B5.out 1
  have y2 : w5.cell? ⟨g8, 2, none⟩ = some (.int .i64 b) := obj_cell B5.out 2
  have y3 : w5.cell? ⟨g8, 3, none⟩ = some (.int .i64 c) := obj_cell B5.out 3
  have y4 : w5.cell? ⟨g8, 4, none⟩ = some (.int .i64 (d - n)) := obj_cell B5.out 4
  have y5 : w5.cell? ⟨g8, 5, none⟩ = some (.int .i64 s) := obj_cell B5.out 5
  have y6 : w5.cell? ⟨g8, 6, none⟩ = some (.int .i64 t) := obj_cell B5.out 6
  have y7 : w5.cell? ⟨g8, 7, none⟩ = some (.int .i64 u) := obj_cell B5.out 7
  have y8 : w5.cell? ⟨g8, 8, none⟩ = some (.int .i64 m9) := obj_cell B5.out 8
  clear A1 A2 A3 A4 A5 B3 B4 B5 F1 F2 F3 F4
  go_wp2_with fail
  go_loopg [10] 4 (fun gk i wr => ∃ (k m : Nat), k + gk = 4 ∧ i = .int .i64 (k : Nat) ∧ wr = w5.drewN m)
  case atStart => exact ⟨0, 0, rfl, rfl, rfl⟩
  case round =>
    obtain ⟨k, m, hk, rfl, rfl⟩ := hrel
    have HK := Lib.hid hk
    obtain rfl | rfl | rfl | rfl | rfl : k = 0 ∨ k = 1 ∨ k = 2 ∨ k = 3 ∨ k = 4 := by omega
    · clear hk
      go_wp2_with fail
      go_quiet (fail)
      go_wp2
      go_roundg (gk - 1)
      case measure => have := HK.out; omega
      case rel => exact ⟨1, _, by have := HK.out; omega, rfl, rfl⟩
    · clear hk
      go_wp2_with fail
      go_quiet (fail)
      go_wp2
      go_roundg (gk - 1)
      case measure => have := HK.out; omega
      case rel => exact ⟨2, _, by have := HK.out; omega, rfl, rfl⟩
    · clear hk
      go_wp2_with fail
      go_quiet (fail)
      go_wp2
      go_roundg (gk - 1)
      case measure => have := HK.out; omega
      case rel => exact ⟨3, _, by have := HK.out; omega, rfl, rfl⟩
    · clear hk
      go_wp2_with fail
      go_quiet (fail)
      go_wp2
      go_roundg (gk - 1)
      case measure => have := HK.out; omega
      case rel => exact ⟨4, _, by have := HK.out; omega, rfl, rfl⟩
    · clear hk
      rcases H9.out with rfl | ⟨hne, rfl⟩
      · have hw2 : IntKind.i64.wrap (v + n) = v + n := IntWalk.i64_in _ (by omega)
        have hw1 : IntKind.i64.wrap (d - n) = d - n := IntWalk.i64_in _ (by omega)
        go_wp2_with fail
        go_quiet (fail)
        go_wp2
        go_ret
        exact ⟨rfl, (F5.out.drewN _).drewN _⟩
      · have hf : ((2147483647 : Int) == v + n) = false := by simpa using hne
        have hw2 : IntKind.i64.wrap (v + n) = v + n := IntWalk.i64_in _ (by omega)
        have hw1 : IntKind.i64.wrap (d - n) = d - n := IntWalk.i64_in _ (by omega)
        go_wp2_with fail
        go_quiet (fail)
        go_wp2
        go_ret
        exact ⟨rfl, (F5.out.drewN _).drewN _⟩

theorem keeps_any (p : Pu) (who n : Int) (w : World) : Calls Try.prog 4 #[p.v, .int .i64 who, .int .i64 n] w fun e w' => e = .returned (.bool true) ∧ Fr nob w w' := by
  by_cases h : p.ok ∧ strat who ∧ 0 ≤ n
  · by_cases h4 : may p who n < n
    · have hsp : spend p who n = (zero, 15) := by unfold spend; rw [if_neg (fun x => x h), if_pos h4]
      exact keeps_bad15 p.l p.e.a p.e.b p.e.c p.e.d p.s.a p.s.b p.s.c p.s.d who n w (fun w => by have := spend_any p who n w; rw [hsp] at this; exact this)
    · have hsp : spend p who n = (spent p who n, 0) := by unfold spend; rw [if_neg (fun x => x h), if_neg h4]
      have hok := spent_ok h.1 h.2.1 h.2.2 h4
      have hr := may_room h.1 h.2.1 h.2.2 h4
      obtain ⟨l, ⟨a, b, c, d⟩, ⟨s, t, u, v⟩⟩ := p
      have hs : inN s ∧ inN t ∧ inN u ∧ inN v := h.1.2.2
      have hee : inN a ∧ inN b ∧ inN c ∧ inN d := h.1.2.1
      have hl : inN l := h.1.1
      have es := (kp_iff s).2 hs.1
      have et := (kp_iff t).2 hs.2.1
      have eu := (kp_iff u).2 hs.2.2.1
      have ev := (kp_iff v).2 hs.2.2.2
      have R : ∀ w, Calls Try.prog 13 #[(Pu.mk l ⟨a, b, c, d⟩ ⟨s, t, u, v⟩).v] w fun e w' => e = .returned (.bool true) ∧ Fr nob w w' := fun w => by have := right_any ⟨l, ⟨a, b, c, d⟩, ⟨s, t, u, v⟩⟩ w; rw [decide_eq_true h.1] at this; exact this
      have RQ : ∀ w, Calls Try.prog 13 #[(spent ⟨l, ⟨a, b, c, d⟩, ⟨s, t, u, v⟩⟩ who n).v] w fun e w' => e = .returned (.bool true) ∧ Fr nob w w' := fun w => by have := right_any (spent ⟨l, ⟨a, b, c, d⟩, ⟨s, t, u, v⟩⟩ who n) w; rw [decide_eq_true hok] at this; exact this
      have k9 : ∀ x : Int, 0 ≤ x → 0 ≤ n → kp (x + n) = x + n ∨ (kp (x + n) ≠ x + n ∧ kp (x + n) = 2147483647) := fun x h1 h2 => by unfold kp; omega
      obtain rfl | rfl | rfl | rfl : who = 0 ∨ who = 1 ∨ who = 2 ∨ who = 3 := by have := h.2.1; unfold strat at this; omega
      · have hr2 : n ≤ a := by have := hr.2; simp [Q4.get] at this; exact this
        exact keeps_good0 l a b c d s t u v n _ hl hee.1 hs.1 ⟨h.2.2, hr.1, hr2⟩ (k9 s hs.1.1 h.2.2) w
          (fun w => by have := spend_any ⟨l, ⟨a, b, c, d⟩, ⟨s, t, u, v⟩⟩ 0 n w; rw [hsp] at this; simpa [spent, Q4.get, Q4.set, Q4.kept, Pu.v, es, et, eu, ev] using this) R
          (fun w => by have := RQ w; simpa [spent, Q4.get, Q4.set, Q4.kept, Pu.v, es, et, eu, ev] using this)
      · have hr2 : n ≤ b := by have := hr.2; simp [Q4.get] at this; exact this
        exact keeps_good1 l a b c d s t u v n _ hl hee.2.1 hs.2.1 ⟨h.2.2, hr.1, hr2⟩ (k9 t hs.2.1.1 h.2.2) w
          (fun w => by have := spend_any ⟨l, ⟨a, b, c, d⟩, ⟨s, t, u, v⟩⟩ 1 n w; rw [hsp] at this; simpa [spent, Q4.get, Q4.set, Q4.kept, Pu.v, es, et, eu, ev] using this) R
          (fun w => by have := RQ w; simpa [spent, Q4.get, Q4.set, Q4.kept, Pu.v, es, et, eu, ev] using this)
      · have hr2 : n ≤ c := by have := hr.2; simp [Q4.get] at this; exact this
        exact keeps_good2 l a b c d s t u v n _ hl hee.2.2.1 hs.2.2.1 ⟨h.2.2, hr.1, hr2⟩ (k9 u hs.2.2.1.1 h.2.2) w
          (fun w => by have := spend_any ⟨l, ⟨a, b, c, d⟩, ⟨s, t, u, v⟩⟩ 2 n w; rw [hsp] at this; simpa [spent, Q4.get, Q4.set, Q4.kept, Pu.v, es, et, eu, ev] using this) R
          (fun w => by have := RQ w; simpa [spent, Q4.get, Q4.set, Q4.kept, Pu.v, es, et, eu, ev] using this)
      · have hr2 : n ≤ d := by have := hr.2; simp [Q4.get] at this; exact this
        exact keeps_good3 l a b c d s t u v n _ hl hee.2.2.2 hs.2.2.2 ⟨h.2.2, hr.1, hr2⟩ (k9 v hs.2.2.2.1 h.2.2) w
          (fun w => by have := spend_any ⟨l, ⟨a, b, c, d⟩, ⟨s, t, u, v⟩⟩ 3 n w; rw [hsp] at this; simpa [spent, Q4.get, Q4.set, Q4.kept, Pu.v, es, et, eu, ev] using this) R
          (fun w => by have := RQ w; simpa [spent, Q4.get, Q4.set, Q4.kept, Pu.v, es, et, eu, ev] using this)
  · have hsp : spend p who n = (zero, 1) := by unfold spend; rw [if_pos h]
    exact keeps_bad1 p.l p.e.a p.e.b p.e.c p.e.d p.s.a p.s.b p.s.c p.s.d who n w (fun w => by have := spend_any p who n w; rw [hsp] at this; exact this)

end Go.Proofs.Ytdlbihndghofcaa
