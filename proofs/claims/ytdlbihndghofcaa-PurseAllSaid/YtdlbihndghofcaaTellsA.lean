/- PurseTells: the walk. -/
import Derived.Test.YtdlbihndghofcaaAwk
namespace Go.Proofs.Ytdlbihndghofcaa
open Go.RowKit
set_option linter.unusedVariables false

theorem grown_get {w1 w' : World} (h : ∃ x : Grown w1, w' = x.w) : Fr nob w1 w' := by
  obtain ⟨x, hx⟩ := h
  rw [hx]
  exact x.fr
theorem plain_at (l a b c d s t u v : Int) (w : World) : Calls Try.prog 8 #[.agg #[.int .i64 l, .int .i64 a, .int .i64 b, .int .i64 c, .int .i64 d, .int .i64 s, .int .i64 t, .int .i64 u, .int .i64 v]] w fun e w' => e = .returned (.agg #[.int .i64 l, .int .i64 a, .int .i64 b, .int .i64 c, .int .i64 d, .int .i64 s, .int .i64 t, .int .i64 u, .int .i64 v]) ∧ Fr nob w w' := plain_any ⟨l, ⟨a, b, c, d⟩, ⟨s, t, u, v⟩⟩ w

set_option maxRecDepth 100000 in
set_option maxHeartbeats 4000000 in
theorem tells_good (l a b c d s t u v l1 a1 b1 c1 d1 s1 t1 u1 v1 who n ee may1 all1 : Int) (rb : Bool) (w : World)
    (sp : ∀ w, Calls Try.prog 9 #[.agg #[.int .i64 l, .int .i64 a, .int .i64 b, .int .i64 c, .int .i64 d, .int .i64 s, .int .i64 t, .int .i64 u, .int .i64 v], .int .i64 who, .int .i64 n] w fun e w' => e = .returned (.tuple #[.agg #[.int .i64 l1, .int .i64 a1, .int .i64 b1, .int .i64 c1, .int .i64 d1, .int .i64 s1, .int .i64 t1, .int .i64 u1, .int .i64 v1], .int .i64 ee]) ∧ Fr nob w w')
    (rsp : ∀ w, Calls Try.prog 10 #[.agg #[.int .i64 l, .int .i64 a, .int .i64 b, .int .i64 c, .int .i64 d, .int .i64 s, .int .i64 t, .int .i64 u, .int .i64 v], .int .i64 who, .int .i64 n] w fun e w' => e = .returned (.tuple #[.agg #[.int .i64 l1, .int .i64 a1, .int .i64 b1, .int .i64 c1, .int .i64 d1, .int .i64 s1, .int .i64 t1, .int .i64 u1, .int .i64 v1], .int .i64 ee]) ∧ Fr nob w w')
    (nw : ∀ w, Calls Try.prog 11 #[.int .i64 l, .agg #[.int .i64 a, .int .i64 b, .int .i64 c, .int .i64 d]] w fun e w' => e = .returned (.tuple #[.agg #[.int .i64 l, .int .i64 a, .int .i64 b, .int .i64 c, .int .i64 d, .int .i64 0, .int .i64 0, .int .i64 0, .int .i64 0], .int .i64 0]) ∧ Fr nob w w')
    (fr : ∀ w, Calls Try.prog 12 #[.agg #[.int .i64 l, .int .i64 a, .int .i64 b, .int .i64 c, .int .i64 d, .int .i64 0, .int .i64 0, .int .i64 0, .int .i64 0]] w fun e w' => e = .returned (.bool true) ∧ Fr nob w w')
    (ri : ∀ w, Calls Try.prog 13 #[.agg #[.int .i64 l, .int .i64 a, .int .i64 b, .int .i64 c, .int .i64 d, .int .i64 s, .int .i64 t, .int .i64 u, .int .i64 v]] w fun e w' => e = .returned (.bool rb) ∧ Fr nob w w')
    (rri : ∀ w, Calls Try.prog 12 #[.agg #[.int .i64 l, .int .i64 a, .int .i64 b, .int .i64 c, .int .i64 d, .int .i64 s, .int .i64 t, .int .i64 u, .int .i64 v]] w fun e w' => e = .returned (.bool rb) ∧ Fr nob w w')
    (ma : ∀ w, Calls Try.prog 14 #[.agg #[.int .i64 l, .int .i64 a, .int .i64 b, .int .i64 c, .int .i64 d, .int .i64 s, .int .i64 t, .int .i64 u, .int .i64 v], .int .i64 who, .int .i64 n] w fun e w' => e = .returned (.int .i64 may1) ∧ Fr nob w w')
    (rma : ∀ w, Calls Try.prog 15 #[.agg #[.int .i64 l, .int .i64 a, .int .i64 b, .int .i64 c, .int .i64 d, .int .i64 s, .int .i64 t, .int .i64 u, .int .i64 v], .int .i64 who, .int .i64 n] w fun e w' => e = .returned (.int .i64 may1) ∧ Fr nob w w')
    (al : ∀ w, Calls Try.prog 16 #[.agg #[.int .i64 l, .int .i64 a, .int .i64 b, .int .i64 c, .int .i64 d, .int .i64 s, .int .i64 t, .int .i64 u, .int .i64 v]] w fun e w' => e = .returned (.int .i64 all1) ∧ Fr nob w w')
    (ral : ∀ w, Calls Try.prog 17 #[.agg #[.int .i64 l, .int .i64 a, .int .i64 b, .int .i64 c, .int .i64 d, .int .i64 s, .int .i64 t, .int .i64 u, .int .i64 v]] w fun e w' => e = .returned (.int .i64 all1) ∧ Fr nob w w') :
    Calls Try.prog 3 #[.agg #[.int .i64 l, .int .i64 a, .int .i64 b, .int .i64 c, .int .i64 d, .int .i64 s, .int .i64 t, .int .i64 u, .int .i64 v], .int .i64 who, .int .i64 n] w fun e w' => e = .returned (.bool true) ∧ Fr nob w w' := by
  have Hsp := Lib.hid sp
  have Hrsp := Lib.hid rsp
  have Hnw := Lib.hid nw
  have Hfr := Lib.hid fr
  have Hri := Lib.hid ri
  have Hrri := Lib.hid rri
  have Hma := Lib.hid ma
  have Hrma := Lib.hid rma
  have Hal := Lib.hid al
  have Hral := Lib.hid ral
  have HPL := Lib.hid (fun w => plain_at l a b c d s t u v w)
  clear sp rsp nw fr ri rri ma rma al ral
  have e22 : ∀ (a b c d : Int) (w : World), (Op.equalIn 9999 22 (.agg #[.int .i64 a, .int .i64 b, .int .i64 c, .int .i64 d]) (.agg #[.int .i64 a, .int .i64 b, .int .i64 c, .int .i64 d])).run Try.prog w = .ok true w := fun a b c d w => by rw [eq4_at 9997]; simp
  go_enter Try.func3, Try.ntmps3
  go_wp2_with (go_at_call 7; refine stop ?_)
  refine Stop.go ((awake_any _).mono ?_)
  rintro e w1 ⟨rfl, f⟩
  have A1 : Hid (w1.heap[w.heap.size]? = some (.cells #[.int .i64 l, .int .i64 a, .int .i64 b, .int .i64 c, .int .i64 d, .int .i64 s, .int .i64 t, .int .i64 u, .int .i64 v] 24 (0, 0))) := Lib.hid (f.heap_some (obj_new rfl _) (fun x => x))
  obtain ⟨h, hh⟩ : ∃ h, h = w.heap.size := ⟨_, rfl⟩
  rw [← hh] at A1
  rw [← hh]
  have F1 := Lib.hid (((Fr.refl nob w).alloc _).trans f (U := nob) (fun _ _ x => x) (fun _ _ x => x))
  clear f hh
  have k0 : w1.cell? ⟨h, 0, none⟩ = some (.int .i64 l) := obj_cell A1.out 0
  have k1 : w1.cell? ⟨h, 1, none⟩ = some (.int .i64 a) := obj_cell A1.out 1
  have k2 : w1.cell? ⟨h, 2, none⟩ = some (.int .i64 b) := obj_cell A1.out 2
  have k3 : w1.cell? ⟨h, 3, none⟩ = some (.int .i64 c) := obj_cell A1.out 3
  have k4 : w1.cell? ⟨h, 4, none⟩ = some (.int .i64 d) := obj_cell A1.out 4
  have k5 : w1.cell? ⟨h, 5, none⟩ = some (.int .i64 s) := obj_cell A1.out 5
  have k6 : w1.cell? ⟨h, 6, none⟩ = some (.int .i64 t) := obj_cell A1.out 6
  have k7 : w1.cell? ⟨h, 7, none⟩ = some (.int .i64 u) := obj_cell A1.out 7
  have k8 : w1.cell? ⟨h, 8, none⟩ = some (.int .i64 v) := obj_cell A1.out 8
  go_wp2_with (go_at_call 8; refine stop ?_)
  clear k0 k1 k2 k3 k4 k5 k6 k7 k8
  refine Stop.go ((HPL.out w1).mono ?_)
  rintro e w2 ⟨rfl, f⟩
  have F2 := Lib.hid (F1.out.step f)
  have A2 := Lib.hid (f.heap_some A1.out (fun x => x))
  clear f HPL
  have k0 : ∀ o, (w2.alloc o).cell? ⟨h, 0, none⟩ = some (.int .i64 l) := fun o => obj_cell (obj_alloc A2.out o) 0
  have k1 : ∀ o, (w2.alloc o).cell? ⟨h, 1, none⟩ = some (.int .i64 a) := fun o => obj_cell (obj_alloc A2.out o) 1
  have k2 : ∀ o, (w2.alloc o).cell? ⟨h, 2, none⟩ = some (.int .i64 b) := fun o => obj_cell (obj_alloc A2.out o) 2
  have k3 : ∀ o, (w2.alloc o).cell? ⟨h, 3, none⟩ = some (.int .i64 c) := fun o => obj_cell (obj_alloc A2.out o) 3
  have k4 : ∀ o, (w2.alloc o).cell? ⟨h, 4, none⟩ = some (.int .i64 d) := fun o => obj_cell (obj_alloc A2.out o) 4
  have k5 : ∀ o, (w2.alloc o).cell? ⟨h, 5, none⟩ = some (.int .i64 s) := fun o => obj_cell (obj_alloc A2.out o) 5
  have k6 : ∀ o, (w2.alloc o).cell? ⟨h, 6, none⟩ = some (.int .i64 t) := fun o => obj_cell (obj_alloc A2.out o) 6
  have k7 : ∀ o, (w2.alloc o).cell? ⟨h, 7, none⟩ = some (.int .i64 u) := fun o => obj_cell (obj_alloc A2.out o) 7
  have k8 : ∀ o, (w2.alloc o).cell? ⟨h, 8, none⟩ = some (.int .i64 v) := fun o => obj_cell (obj_alloc A2.out o) 8
  go_wp2_with (go_at_call 9; refine stop ?_)
  clear k0 k1 k2 k3 k4 k5 k6 k7 k8
  obtain ⟨w3, hw⟩ : ∃ w3, w3 = w2.alloc (.cells #[.int .i64 l, .int .i64 a, .int .i64 b, .int .i64 c, .int .i64 d, .int .i64 s, .int .i64 t, .int .i64 u, .int .i64 v] 26) := ⟨_, rfl⟩
  simp only [← hw]
  obtain ⟨g8, hg⟩ : ∃ g8, g8 = w2.heap.size := ⟨_, rfl⟩
  rw [← hg]
  have B3 : Hid (w3.heap[g8]? = some (.cells #[.int .i64 l, .int .i64 a, .int .i64 b, .int .i64 c, .int .i64 d, .int .i64 s, .int .i64 t, .int .i64 u, .int .i64 v] 26 (0, 0))) := hw ▸ obj_new hg _
  have F3 := Lib.hid (hw ▸ F2.out.alloc _ : Fr nob w w3)
  have A3 : Hid (w3.heap[h]? = some (.cells #[.int .i64 l, .int .i64 a, .int .i64 b, .int .i64 c, .int .i64 d, .int .i64 s, .int .i64 t, .int .i64 u, .int .i64 v] 24 (0, 0))) := hw ▸ obj_alloc A2.out _
  clear hw hg
  refine Stop.go ((Hsp.out w3).mono ?_)
  rintro e w4 ⟨rfl, f⟩
  have F4 := Lib.hid (F3.out.step f)
  have A4 := Lib.hid (f.heap_some A3.out (fun x => x))
  have B4 := Lib.hid (f.heap_some B3.out (fun x => x))
  clear f Hsp
  have k0 : ∀ o, (w4.alloc o).cell? ⟨g8, 0, none⟩ = some (.int .i64 l) := fun o => obj_cell (obj_alloc B4.out o) 0
  have k1 : ∀ o, (w4.alloc o).cell? ⟨g8, 1, none⟩ = some (.int .i64 a) := fun o => obj_cell (obj_alloc B4.out o) 1
  have k2 : ∀ o, (w4.alloc o).cell? ⟨g8, 2, none⟩ = some (.int .i64 b) := fun o => obj_cell (obj_alloc B4.out o) 2
  have k3 : ∀ o, (w4.alloc o).cell? ⟨g8, 3, none⟩ = some (.int .i64 c) := fun o => obj_cell (obj_alloc B4.out o) 3
  have k4 : ∀ o, (w4.alloc o).cell? ⟨g8, 4, none⟩ = some (.int .i64 d) := fun o => obj_cell (obj_alloc B4.out o) 4
  have k5 : ∀ o, (w4.alloc o).cell? ⟨g8, 5, none⟩ = some (.int .i64 s) := fun o => obj_cell (obj_alloc B4.out o) 5
  have k6 : ∀ o, (w4.alloc o).cell? ⟨g8, 6, none⟩ = some (.int .i64 t) := fun o => obj_cell (obj_alloc B4.out o) 6
  have k7 : ∀ o, (w4.alloc o).cell? ⟨g8, 7, none⟩ = some (.int .i64 u) := fun o => obj_cell (obj_alloc B4.out o) 7
  have k8 : ∀ o, (w4.alloc o).cell? ⟨g8, 8, none⟩ = some (.int .i64 v) := fun o => obj_cell (obj_alloc B4.out o) 8
  go_wp2_with (go_at_call 10; refine stop ?_)
  clear k0 k1 k2 k3 k4 k5 k6 k7 k8
  obtain ⟨w5, hw⟩ : ∃ w5, w5 = w4.alloc (.cells #[.int .i64 l1, .int .i64 a1, .int .i64 b1, .int .i64 c1, .int .i64 d1, .int .i64 s1, .int .i64 t1, .int .i64 u1, .int .i64 v1] 24) := ⟨_, rfl⟩
  simp only [← hw]
  obtain ⟨g9, hg⟩ : ∃ g9, g9 = w4.heap.size := ⟨_, rfl⟩
  rw [← hg]
  have C5 : Hid (w5.heap[g9]? = some (.cells #[.int .i64 l1, .int .i64 a1, .int .i64 b1, .int .i64 c1, .int .i64 d1, .int .i64 s1, .int .i64 t1, .int .i64 u1, .int .i64 v1] 24 (0, 0))) := hw ▸ obj_new hg _
  have F5 := Lib.hid (hw ▸ F4.out.alloc _ : Fr nob w w5)
  have A5 : Hid (w5.heap[h]? = some (.cells #[.int .i64 l, .int .i64 a, .int .i64 b, .int .i64 c, .int .i64 d, .int .i64 s, .int .i64 t, .int .i64 u, .int .i64 v] 24 (0, 0))) := hw ▸ obj_alloc A4.out _
  have B5 : Hid (w5.heap[g8]? = some (.cells #[.int .i64 l, .int .i64 a, .int .i64 b, .int .i64 c, .int .i64 d, .int .i64 s, .int .i64 t, .int .i64 u, .int .i64 v] 26 (0, 0))) := hw ▸ obj_alloc B4.out _
  clear hw hg
  refine Stop.go ((Hrsp.out w5).mono ?_)
  rintro e w6 ⟨rfl, f⟩
  have F6 := Lib.hid (F5.out.step f)
  have A6 := Lib.hid (f.heap_some A5.out (fun x => x))
  have B6 := Lib.hid (f.heap_some B5.out (fun x => x))
  have C6 := Lib.hid (f.heap_some C5.out (fun x => x))
  clear f Hrsp
  have k0 : ∀ o, (w6.alloc o).cell? ⟨h, 0, none⟩ = some (.int .i64 l) := fun o => obj_cell (obj_alloc A6.out o) 0
  have k1 : ∀ o, (w6.alloc o).cell? ⟨h, 1, none⟩ = some (.int .i64 a) := fun o => obj_cell (obj_alloc A6.out o) 1
  have k2 : ∀ o, (w6.alloc o).cell? ⟨h, 2, none⟩ = some (.int .i64 b) := fun o => obj_cell (obj_alloc A6.out o) 2
  have k3 : ∀ o, (w6.alloc o).cell? ⟨h, 3, none⟩ = some (.int .i64 c) := fun o => obj_cell (obj_alloc A6.out o) 3
  have k4 : ∀ o, (w6.alloc o).cell? ⟨h, 4, none⟩ = some (.int .i64 d) := fun o => obj_cell (obj_alloc A6.out o) 4
  have k5 : ∀ o, (w6.alloc o).cell? ⟨h, 5, none⟩ = some (.int .i64 s) := fun o => obj_cell (obj_alloc A6.out o) 5
  have k6 : ∀ o, (w6.alloc o).cell? ⟨h, 6, none⟩ = some (.int .i64 t) := fun o => obj_cell (obj_alloc A6.out o) 6
  have k7 : ∀ o, (w6.alloc o).cell? ⟨h, 7, none⟩ = some (.int .i64 u) := fun o => obj_cell (obj_alloc A6.out o) 7
  have k8 : ∀ o, (w6.alloc o).cell? ⟨h, 8, none⟩ = some (.int .i64 v) := fun o => obj_cell (obj_alloc A6.out o) 8
  go_wp2_with (go_at_call 11; refine stop ?_)
  clear k0 k1 k2 k3 k4 k5 k6 k7 k8
  obtain ⟨w7, hw⟩ : ∃ w7, w7 = w6.alloc (.cells #[.int .i64 l1, .int .i64 a1, .int .i64 b1, .int .i64 c1, .int .i64 d1, .int .i64 s1, .int .i64 t1, .int .i64 u1, .int .i64 v1] 26) := ⟨_, rfl⟩
  simp only [← hw]
  obtain ⟨g11, hg⟩ : ∃ g11, g11 = w6.heap.size := ⟨_, rfl⟩
  rw [← hg]
  have D7 : Hid (w7.heap[g11]? = some (.cells #[.int .i64 l1, .int .i64 a1, .int .i64 b1, .int .i64 c1, .int .i64 d1, .int .i64 s1, .int .i64 t1, .int .i64 u1, .int .i64 v1] 26 (0, 0))) := hw ▸ obj_new hg _
  have F7 := Lib.hid (hw ▸ F6.out.alloc _ : Fr nob w w7)
  have A7 : Hid (w7.heap[h]? = some (.cells #[.int .i64 l, .int .i64 a, .int .i64 b, .int .i64 c, .int .i64 d, .int .i64 s, .int .i64 t, .int .i64 u, .int .i64 v] 24 (0, 0))) := hw ▸ obj_alloc A6.out _
  have B7 : Hid (w7.heap[g8]? = some (.cells #[.int .i64 l, .int .i64 a, .int .i64 b, .int .i64 c, .int .i64 d, .int .i64 s, .int .i64 t, .int .i64 u, .int .i64 v] 26 (0, 0))) := hw ▸ obj_alloc B6.out _
  have C7 : Hid (w7.heap[g9]? = some (.cells #[.int .i64 l1, .int .i64 a1, .int .i64 b1, .int .i64 c1, .int .i64 d1, .int .i64 s1, .int .i64 t1, .int .i64 u1, .int .i64 v1] 24 (0, 0))) := hw ▸ obj_alloc C6.out _
  clear hw hg
  refine Stop.go ((Hnw.out w7).mono ?_)
  rintro e w8 ⟨rfl, f⟩
  have F8 := Lib.hid (F7.out.step f)
  have A8 := Lib.hid (f.heap_some A7.out (fun x => x))
  have B8 := Lib.hid (f.heap_some B7.out (fun x => x))
  have C8 := Lib.hid (f.heap_some C7.out (fun x => x))
  have D8 := Lib.hid (f.heap_some D7.out (fun x => x))
  clear f Hnw
  have k0 : ∀ o, (w8.alloc o).cell? ⟨h, 0, none⟩ = some (.int .i64 l) := fun o => obj_cell (obj_alloc A8.out o) 0
  have k1 : ∀ o, (w8.alloc o).cell? ⟨h, 1, none⟩ = some (.int .i64 a) := fun o => obj_cell (obj_alloc A8.out o) 1
  have k2 : ∀ o, (w8.alloc o).cell? ⟨h, 2, none⟩ = some (.int .i64 b) := fun o => obj_cell (obj_alloc A8.out o) 2
  have k3 : ∀ o, (w8.alloc o).cell? ⟨h, 3, none⟩ = some (.int .i64 c) := fun o => obj_cell (obj_alloc A8.out o) 3
  have k4 : ∀ o, (w8.alloc o).cell? ⟨h, 4, none⟩ = some (.int .i64 d) := fun o => obj_cell (obj_alloc A8.out o) 4
  have k5 : ∀ o, (w8.alloc o).cell? ⟨h, 5, none⟩ = some (.int .i64 s) := fun o => obj_cell (obj_alloc A8.out o) 5
  have k6 : ∀ o, (w8.alloc o).cell? ⟨h, 6, none⟩ = some (.int .i64 t) := fun o => obj_cell (obj_alloc A8.out o) 6
  have k7 : ∀ o, (w8.alloc o).cell? ⟨h, 7, none⟩ = some (.int .i64 u) := fun o => obj_cell (obj_alloc A8.out o) 7
  have k8 : ∀ o, (w8.alloc o).cell? ⟨h, 8, none⟩ = some (.int .i64 v) := fun o => obj_cell (obj_alloc A8.out o) 8
  go_wp2_with (go_at_call 12; refine stop ?_)
  clear k0 k1 k2 k3 k4 k5 k6 k7 k8
  obtain ⟨w9, hw⟩ : ∃ w9, w9 = (w8.alloc (.cells #[.int .i64 l, .int .i64 a, .int .i64 b, .int .i64 c, .int .i64 d, .int .i64 0, .int .i64 0, .int .i64 0, .int .i64 0] 24)).alloc (.cells #[.int .i64 l, .int .i64 a, .int .i64 b, .int .i64 c, .int .i64 d, .int .i64 0, .int .i64 0, .int .i64 0, .int .i64 0] 26) := ⟨_, rfl⟩
  simp only [← hw]
  obtain ⟨g13, hg⟩ : ∃ g13, g13 = w8.heap.size := ⟨_, rfl⟩
  rw [← hg]
  have A9 : Hid (w9.heap[h]? = some (.cells #[.int .i64 l, .int .i64 a, .int .i64 b, .int .i64 c, .int .i64 d, .int .i64 s, .int .i64 t, .int .i64 u, .int .i64 v] 24 (0, 0))) := hw ▸ obj_alloc (obj_alloc A8.out _) _
  have B9 : Hid (w9.heap[g8]? = some (.cells #[.int .i64 l, .int .i64 a, .int .i64 b, .int .i64 c, .int .i64 d, .int .i64 s, .int .i64 t, .int .i64 u, .int .i64 v] 26 (0, 0))) := hw ▸ obj_alloc (obj_alloc B8.out _) _
  have C9 : Hid (w9.heap[g9]? = some (.cells #[.int .i64 l1, .int .i64 a1, .int .i64 b1, .int .i64 c1, .int .i64 d1, .int .i64 s1, .int .i64 t1, .int .i64 u1, .int .i64 v1] 24 (0, 0))) := hw ▸ obj_alloc (obj_alloc C8.out _) _
  have D9 : Hid (w9.heap[g11]? = some (.cells #[.int .i64 l1, .int .i64 a1, .int .i64 b1, .int .i64 c1, .int .i64 d1, .int .i64 s1, .int .i64 t1, .int .i64 u1, .int .i64 v1] 26 (0, 0))) := hw ▸ obj_alloc (obj_alloc D8.out _) _
  have E9 : Hid (w9.heap[g13]? = some (.cells #[.int .i64 l, .int .i64 a, .int .i64 b, .int .i64 c, .int .i64 d, .int .i64 0, .int .i64 0, .int .i64 0, .int .i64 0] 24 (0, 0))) := hw ▸ obj_alloc (obj_new hg _) _
  have G9 : Hid (w9.heap[(g13 + 1)]? = some (.cells #[.int .i64 l, .int .i64 a, .int .i64 b, .int .i64 c, .int .i64 d, .int .i64 0, .int .i64 0, .int .i64 0, .int .i64 0] 26 (0, 0))) := hw ▸ obj_new (by rw [hg]; simp) _
  have F9 := Lib.hid (hw ▸ (F8.out.alloc _).alloc _ : Fr nob w w9)
  clear hw hg
  refine Stop.go ((Hfr.out w9).mono ?_)
  rintro e w10 ⟨rfl, f⟩
  have F10 := Lib.hid (F9.out.step f)
  have A10 := Lib.hid (f.heap_some A9.out (fun x => x))
  have B10 := Lib.hid (f.heap_some B9.out (fun x => x))
  have C10 := Lib.hid (f.heap_some C9.out (fun x => x))
  have D10 := Lib.hid (f.heap_some D9.out (fun x => x))
  have E10 := Lib.hid (f.heap_some E9.out (fun x => x))
  have G10 := Lib.hid (f.heap_some G9.out (fun x => x))
  clear f Hfr
  have x0 : ∀ x : Grown w10, x.w.cell? ⟨g13, 0, none⟩ = some (.int .i64 l) := Grown.cell (obj_cell E10.out 0)
  have x1 : ∀ x : Grown w10, x.w.cell? ⟨g13, 1, none⟩ = some (.int .i64 a) := Grown.cell (obj_cell E10.out 1)
  have x2 : ∀ x : Grown w10, x.w.cell? ⟨g13, 2, none⟩ = some (.int .i64 b) := Grown.cell (obj_cell E10.out 2)
  have x3 : ∀ x : Grown w10, x.w.cell? ⟨g13, 3, none⟩ = some (.int .i64 c) := Grown.cell (obj_cell E10.out 3)
  have x4 : ∀ x : Grown w10, x.w.cell? ⟨g13, 4, none⟩ = some (.int .i64 d) := Grown.cell (obj_cell E10.out 4)
  have x5 : ∀ x : Grown w10, x.w.cell? ⟨g13, 5, none⟩ = some (.int .i64 0) := Grown.cell (obj_cell E10.out 5)
  have x6 : ∀ x : Grown w10, x.w.cell? ⟨g13, 6, none⟩ = some (.int .i64 0) := Grown.cell (obj_cell E10.out 6)
  have x7 : ∀ x : Grown w10, x.w.cell? ⟨g13, 7, none⟩ = some (.int .i64 0) := Grown.cell (obj_cell E10.out 7)
  have x8 : ∀ x : Grown w10, x.w.cell? ⟨g13, 8, none⟩ = some (.int .i64 0) := Grown.cell (obj_cell E10.out 8)
  have y0 : ∀ x : Grown w10, x.w.cell? ⟨(g13 + 1), 0, none⟩ = some (.int .i64 l) := Grown.cell (obj_cell G10.out 0)
  have y1 : ∀ x : Grown w10, x.w.cell? ⟨(g13 + 1), 1, none⟩ = some (.int .i64 a) := Grown.cell (obj_cell G10.out 1)
  have y2 : ∀ x : Grown w10, x.w.cell? ⟨(g13 + 1), 2, none⟩ = some (.int .i64 b) := Grown.cell (obj_cell G10.out 2)
  have y3 : ∀ x : Grown w10, x.w.cell? ⟨(g13 + 1), 3, none⟩ = some (.int .i64 c) := Grown.cell (obj_cell G10.out 3)
  have y4 : ∀ x : Grown w10, x.w.cell? ⟨(g13 + 1), 4, none⟩ = some (.int .i64 d) := Grown.cell (obj_cell G10.out 4)
  have y5 : ∀ x : Grown w10, x.w.cell? ⟨(g13 + 1), 5, none⟩ = some (.int .i64 0) := Grown.cell (obj_cell G10.out 5)
  have y6 : ∀ x : Grown w10, x.w.cell? ⟨(g13 + 1), 6, none⟩ = some (.int .i64 0) := Grown.cell (obj_cell G10.out 6)
  have y7 : ∀ x : Grown w10, x.w.cell? ⟨(g13 + 1), 7, none⟩ = some (.int .i64 0) := Grown.cell (obj_cell G10.out 7)
  have y8 : ∀ x : Grown w10, x.w.cell? ⟨(g13 + 1), 8, none⟩ = some (.int .i64 0) := Grown.cell (obj_cell G10.out 8)
  go_wp2_with fail
  refine region_grown (by kernel_rfl) (by kernel_rfl) ?_
  repeat (go_big_quiet_step ((go_at_call 8; exact Grown.call _ (plain_at _ _ _ _ _ _ _ _ _ _))))
  refine wpQuiet_nil ?_
  intro w11 hw
  have f := grown_get hw
  clear hw
  have F11 := Lib.hid (F10.out.step f)
  have A11 := Lib.hid (f.heap_some A10.out (fun x => x))
  have B11 := Lib.hid (f.heap_some B10.out (fun x => x))
  have C11 := Lib.hid (f.heap_some C10.out (fun x => x))
  have D11 := Lib.hid (f.heap_some D10.out (fun x => x))
  clear f
  clear x0 x1 x2 x3 x4 x5 x6 x7 x8
  clear y0 y1 y2 y3 y4 y5 y6 y7 y8
  go_wp2_with fail
  have x0 : ∀ x : Grown w11, x.w.cell? ⟨h, 0, none⟩ = some (.int .i64 l) := Grown.cell (obj_cell A11.out 0)
  have x1 : ∀ x : Grown w11, x.w.cell? ⟨h, 1, none⟩ = some (.int .i64 a) := Grown.cell (obj_cell A11.out 1)
  have x2 : ∀ x : Grown w11, x.w.cell? ⟨h, 2, none⟩ = some (.int .i64 b) := Grown.cell (obj_cell A11.out 2)
  have x3 : ∀ x : Grown w11, x.w.cell? ⟨h, 3, none⟩ = some (.int .i64 c) := Grown.cell (obj_cell A11.out 3)
  have x4 : ∀ x : Grown w11, x.w.cell? ⟨h, 4, none⟩ = some (.int .i64 d) := Grown.cell (obj_cell A11.out 4)
  have x5 : ∀ x : Grown w11, x.w.cell? ⟨h, 5, none⟩ = some (.int .i64 s) := Grown.cell (obj_cell A11.out 5)
  have x6 : ∀ x : Grown w11, x.w.cell? ⟨h, 6, none⟩ = some (.int .i64 t) := Grown.cell (obj_cell A11.out 6)
  have x7 : ∀ x : Grown w11, x.w.cell? ⟨h, 7, none⟩ = some (.int .i64 u) := Grown.cell (obj_cell A11.out 7)
  have x8 : ∀ x : Grown w11, x.w.cell? ⟨h, 8, none⟩ = some (.int .i64 v) := Grown.cell (obj_cell A11.out 8)
  have y0 : ∀ x : Grown w11, x.w.cell? ⟨g8, 0, none⟩ = some (.int .i64 l) := Grown.cell (obj_cell B11.out 0)
  have y1 : ∀ x : Grown w11, x.w.cell? ⟨g8, 1, none⟩ = some (.int .i64 a) := Grown.cell (obj_cell B11.out 1)
  have y2 : ∀ x : Grown w11, x.w.cell? ⟨g8, 2, none⟩ = some (.int .i64 b) := Grown.cell (obj_cell B11.out 2)
  have y3 : ∀ x : Grown w11, x.w.cell? ⟨g8, 3, none⟩ = some (.int .i64 c) := Grown.cell (obj_cell B11.out 3)
  have y4 : ∀ x : Grown w11, x.w.cell? ⟨g8, 4, none⟩ = some (.int .i64 d) := Grown.cell (obj_cell B11.out 4)
  have y5 : ∀ x : Grown w11, x.w.cell? ⟨g8, 5, none⟩ = some (.int .i64 s) := Grown.cell (obj_cell B11.out 5)
  have y6 : ∀ x : Grown w11, x.w.cell? ⟨g8, 6, none⟩ = some (.int .i64 t) := Grown.cell (obj_cell B11.out 6)
  have y7 : ∀ x : Grown w11, x.w.cell? ⟨g8, 7, none⟩ = some (.int .i64 u) := Grown.cell (obj_cell B11.out 7)
  have y8 : ∀ x : Grown w11, x.w.cell? ⟨g8, 8, none⟩ = some (.int .i64 v) := Grown.cell (obj_cell B11.out 8)
  have z0 : ∀ x : Grown w11, x.w.cell? ⟨g9, 0, none⟩ = some (.int .i64 l1) := Grown.cell (obj_cell C11.out 0)
  have z1 : ∀ x : Grown w11, x.w.cell? ⟨g9, 1, none⟩ = some (.int .i64 a1) := Grown.cell (obj_cell C11.out 1)
  have z2 : ∀ x : Grown w11, x.w.cell? ⟨g9, 2, none⟩ = some (.int .i64 b1) := Grown.cell (obj_cell C11.out 2)
  have z3 : ∀ x : Grown w11, x.w.cell? ⟨g9, 3, none⟩ = some (.int .i64 c1) := Grown.cell (obj_cell C11.out 3)
  have z4 : ∀ x : Grown w11, x.w.cell? ⟨g9, 4, none⟩ = some (.int .i64 d1) := Grown.cell (obj_cell C11.out 4)
  have z5 : ∀ x : Grown w11, x.w.cell? ⟨g9, 5, none⟩ = some (.int .i64 s1) := Grown.cell (obj_cell C11.out 5)
  have z6 : ∀ x : Grown w11, x.w.cell? ⟨g9, 6, none⟩ = some (.int .i64 t1) := Grown.cell (obj_cell C11.out 6)
  have z7 : ∀ x : Grown w11, x.w.cell? ⟨g9, 7, none⟩ = some (.int .i64 u1) := Grown.cell (obj_cell C11.out 7)
  have z8 : ∀ x : Grown w11, x.w.cell? ⟨g9, 8, none⟩ = some (.int .i64 v1) := Grown.cell (obj_cell C11.out 8)
  have r0 : ∀ x : Grown w11, x.w.cell? ⟨g11, 0, none⟩ = some (.int .i64 l1) := Grown.cell (obj_cell D11.out 0)
  have r1 : ∀ x : Grown w11, x.w.cell? ⟨g11, 1, none⟩ = some (.int .i64 a1) := Grown.cell (obj_cell D11.out 1)
  have r2 : ∀ x : Grown w11, x.w.cell? ⟨g11, 2, none⟩ = some (.int .i64 b1) := Grown.cell (obj_cell D11.out 2)
  have r3 : ∀ x : Grown w11, x.w.cell? ⟨g11, 3, none⟩ = some (.int .i64 c1) := Grown.cell (obj_cell D11.out 3)
  have r4 : ∀ x : Grown w11, x.w.cell? ⟨g11, 4, none⟩ = some (.int .i64 d1) := Grown.cell (obj_cell D11.out 4)
  have r5 : ∀ x : Grown w11, x.w.cell? ⟨g11, 5, none⟩ = some (.int .i64 s1) := Grown.cell (obj_cell D11.out 5)
  have r6 : ∀ x : Grown w11, x.w.cell? ⟨g11, 6, none⟩ = some (.int .i64 t1) := Grown.cell (obj_cell D11.out 6)
  have r7 : ∀ x : Grown w11, x.w.cell? ⟨g11, 7, none⟩ = some (.int .i64 u1) := Grown.cell (obj_cell D11.out 7)
  have r8 : ∀ x : Grown w11, x.w.cell? ⟨g11, 8, none⟩ = some (.int .i64 v1) := Grown.cell (obj_cell D11.out 8)
  refine region_grown (by kernel_rfl) (by kernel_rfl) ?_
  repeat (go_big_quiet_step ((first | (go_at_call 8; exact Grown.call _ (plain_at _ _ _ _ _ _ _ _ _ _)) | (go_at_call 13; exact Grown.call _ (Hri.out _)) | (go_at_call 12; exact Grown.call _ (Hrri.out _)) | (go_at_call 14; exact Grown.call _ (Hma.out _)) | (go_at_call 15; exact Grown.call _ (Hrma.out _)) | (go_at_call 16; exact Grown.call _ (Hal.out _)) | (go_at_call 17; exact Grown.call _ (Hral.out _)))))
  refine wpQuiet_nil ?_
  intro w12 hw
  have f := grown_get hw
  clear hw
  have F12 := Lib.hid (F11.out.step f)
  clear f
  clear x0 x1 x2 x3 x4 x5 x6 x7 x8
  clear y0 y1 y2 y3 y4 y5 y6 y7 y8
  clear z0 z1 z2 z3 z4 z5 z6 z7 z8
  clear r0 r1 r2 r3 r4 r5 r6 r7 r8
  go_wp2
  go_ret
  exact ⟨rfl, F12.out⟩

set_option maxRecDepth 100000 in
set_option maxHeartbeats 4000000 in
theorem tells_bad (l a b c d s t u v l1 a1 b1 c1 d1 s1 t1 u1 v1 who n ee may1 all1 : Int) (rb : Bool) (w : World)
    (sp : ∀ w, Calls Try.prog 9 #[.agg #[.int .i64 l, .int .i64 a, .int .i64 b, .int .i64 c, .int .i64 d, .int .i64 s, .int .i64 t, .int .i64 u, .int .i64 v], .int .i64 who, .int .i64 n] w fun e w' => e = .returned (.tuple #[.agg #[.int .i64 l1, .int .i64 a1, .int .i64 b1, .int .i64 c1, .int .i64 d1, .int .i64 s1, .int .i64 t1, .int .i64 u1, .int .i64 v1], .int .i64 ee]) ∧ Fr nob w w')
    (rsp : ∀ w, Calls Try.prog 10 #[.agg #[.int .i64 l, .int .i64 a, .int .i64 b, .int .i64 c, .int .i64 d, .int .i64 s, .int .i64 t, .int .i64 u, .int .i64 v], .int .i64 who, .int .i64 n] w fun e w' => e = .returned (.tuple #[.agg #[.int .i64 l1, .int .i64 a1, .int .i64 b1, .int .i64 c1, .int .i64 d1, .int .i64 s1, .int .i64 t1, .int .i64 u1, .int .i64 v1], .int .i64 ee]) ∧ Fr nob w w')
    (nw : ∀ w, Calls Try.prog 11 #[.int .i64 l, .agg #[.int .i64 a, .int .i64 b, .int .i64 c, .int .i64 d]] w fun e w' => e = .returned (.tuple #[.agg #[.int .i64 0, .int .i64 0, .int .i64 0, .int .i64 0, .int .i64 0, .int .i64 0, .int .i64 0, .int .i64 0, .int .i64 0], .int .i64 1]) ∧ Fr nob w w')
    (fr : ∀ w, Calls Try.prog 12 #[.agg #[.int .i64 l, .int .i64 a, .int .i64 b, .int .i64 c, .int .i64 d, .int .i64 0, .int .i64 0, .int .i64 0, .int .i64 0]] w fun e w' => e = .returned (.bool false) ∧ Fr nob w w')
    (ri : ∀ w, Calls Try.prog 13 #[.agg #[.int .i64 l, .int .i64 a, .int .i64 b, .int .i64 c, .int .i64 d, .int .i64 s, .int .i64 t, .int .i64 u, .int .i64 v]] w fun e w' => e = .returned (.bool rb) ∧ Fr nob w w')
    (rri : ∀ w, Calls Try.prog 12 #[.agg #[.int .i64 l, .int .i64 a, .int .i64 b, .int .i64 c, .int .i64 d, .int .i64 s, .int .i64 t, .int .i64 u, .int .i64 v]] w fun e w' => e = .returned (.bool rb) ∧ Fr nob w w')
    (ma : ∀ w, Calls Try.prog 14 #[.agg #[.int .i64 l, .int .i64 a, .int .i64 b, .int .i64 c, .int .i64 d, .int .i64 s, .int .i64 t, .int .i64 u, .int .i64 v], .int .i64 who, .int .i64 n] w fun e w' => e = .returned (.int .i64 may1) ∧ Fr nob w w')
    (rma : ∀ w, Calls Try.prog 15 #[.agg #[.int .i64 l, .int .i64 a, .int .i64 b, .int .i64 c, .int .i64 d, .int .i64 s, .int .i64 t, .int .i64 u, .int .i64 v], .int .i64 who, .int .i64 n] w fun e w' => e = .returned (.int .i64 may1) ∧ Fr nob w w')
    (al : ∀ w, Calls Try.prog 16 #[.agg #[.int .i64 l, .int .i64 a, .int .i64 b, .int .i64 c, .int .i64 d, .int .i64 s, .int .i64 t, .int .i64 u, .int .i64 v]] w fun e w' => e = .returned (.int .i64 all1) ∧ Fr nob w w')
    (ral : ∀ w, Calls Try.prog 17 #[.agg #[.int .i64 l, .int .i64 a, .int .i64 b, .int .i64 c, .int .i64 d, .int .i64 s, .int .i64 t, .int .i64 u, .int .i64 v]] w fun e w' => e = .returned (.int .i64 all1) ∧ Fr nob w w') :
    Calls Try.prog 3 #[.agg #[.int .i64 l, .int .i64 a, .int .i64 b, .int .i64 c, .int .i64 d, .int .i64 s, .int .i64 t, .int .i64 u, .int .i64 v], .int .i64 who, .int .i64 n] w fun e w' => e = .returned (.bool true) ∧ Fr nob w w' := by
  have Hsp := Lib.hid sp
  have Hrsp := Lib.hid rsp
  have Hnw := Lib.hid nw
  have Hfr := Lib.hid fr
  have Hri := Lib.hid ri
  have Hrri := Lib.hid rri
  have Hma := Lib.hid ma
  have Hrma := Lib.hid rma
  have Hal := Lib.hid al
  have Hral := Lib.hid ral
  have HPL := Lib.hid (fun w => plain_at l a b c d s t u v w)
  clear sp rsp nw fr ri rri ma rma al ral
  have e22 : ∀ (a b c d : Int) (w : World), (Op.equalIn 9999 22 (.agg #[.int .i64 a, .int .i64 b, .int .i64 c, .int .i64 d]) (.agg #[.int .i64 a, .int .i64 b, .int .i64 c, .int .i64 d])).run Try.prog w = .ok true w := fun a b c d w => by rw [eq4_at 9997]; simp
  go_enter Try.func3, Try.ntmps3
  go_wp2_with (go_at_call 7; refine stop ?_)
  refine Stop.go ((awake_any _).mono ?_)
  rintro e w1 ⟨rfl, f⟩
  have A1 : Hid (w1.heap[w.heap.size]? = some (.cells #[.int .i64 l, .int .i64 a, .int .i64 b, .int .i64 c, .int .i64 d, .int .i64 s, .int .i64 t, .int .i64 u, .int .i64 v] 24 (0, 0))) := Lib.hid (f.heap_some (obj_new rfl _) (fun x => x))
  obtain ⟨h, hh⟩ : ∃ h, h = w.heap.size := ⟨_, rfl⟩
  rw [← hh] at A1
  rw [← hh]
  have F1 := Lib.hid (((Fr.refl nob w).alloc _).trans f (U := nob) (fun _ _ x => x) (fun _ _ x => x))
  clear f hh
  have k0 : w1.cell? ⟨h, 0, none⟩ = some (.int .i64 l) := obj_cell A1.out 0
  have k1 : w1.cell? ⟨h, 1, none⟩ = some (.int .i64 a) := obj_cell A1.out 1
  have k2 : w1.cell? ⟨h, 2, none⟩ = some (.int .i64 b) := obj_cell A1.out 2
  have k3 : w1.cell? ⟨h, 3, none⟩ = some (.int .i64 c) := obj_cell A1.out 3
  have k4 : w1.cell? ⟨h, 4, none⟩ = some (.int .i64 d) := obj_cell A1.out 4
  have k5 : w1.cell? ⟨h, 5, none⟩ = some (.int .i64 s) := obj_cell A1.out 5
  have k6 : w1.cell? ⟨h, 6, none⟩ = some (.int .i64 t) := obj_cell A1.out 6
  have k7 : w1.cell? ⟨h, 7, none⟩ = some (.int .i64 u) := obj_cell A1.out 7
  have k8 : w1.cell? ⟨h, 8, none⟩ = some (.int .i64 v) := obj_cell A1.out 8
  go_wp2_with (go_at_call 8; refine stop ?_)
  clear k0 k1 k2 k3 k4 k5 k6 k7 k8
  refine Stop.go ((HPL.out w1).mono ?_)
  rintro e w2 ⟨rfl, f⟩
  have F2 := Lib.hid (F1.out.step f)
  have A2 := Lib.hid (f.heap_some A1.out (fun x => x))
  clear f HPL
  have k0 : ∀ o, (w2.alloc o).cell? ⟨h, 0, none⟩ = some (.int .i64 l) := fun o => obj_cell (obj_alloc A2.out o) 0
  have k1 : ∀ o, (w2.alloc o).cell? ⟨h, 1, none⟩ = some (.int .i64 a) := fun o => obj_cell (obj_alloc A2.out o) 1
  have k2 : ∀ o, (w2.alloc o).cell? ⟨h, 2, none⟩ = some (.int .i64 b) := fun o => obj_cell (obj_alloc A2.out o) 2
  have k3 : ∀ o, (w2.alloc o).cell? ⟨h, 3, none⟩ = some (.int .i64 c) := fun o => obj_cell (obj_alloc A2.out o) 3
  have k4 : ∀ o, (w2.alloc o).cell? ⟨h, 4, none⟩ = some (.int .i64 d) := fun o => obj_cell (obj_alloc A2.out o) 4
  have k5 : ∀ o, (w2.alloc o).cell? ⟨h, 5, none⟩ = some (.int .i64 s) := fun o => obj_cell (obj_alloc A2.out o) 5
  have k6 : ∀ o, (w2.alloc o).cell? ⟨h, 6, none⟩ = some (.int .i64 t) := fun o => obj_cell (obj_alloc A2.out o) 6
  have k7 : ∀ o, (w2.alloc o).cell? ⟨h, 7, none⟩ = some (.int .i64 u) := fun o => obj_cell (obj_alloc A2.out o) 7
  have k8 : ∀ o, (w2.alloc o).cell? ⟨h, 8, none⟩ = some (.int .i64 v) := fun o => obj_cell (obj_alloc A2.out o) 8
  go_wp2_with (go_at_call 9; refine stop ?_)
  clear k0 k1 k2 k3 k4 k5 k6 k7 k8
  obtain ⟨w3, hw⟩ : ∃ w3, w3 = w2.alloc (.cells #[.int .i64 l, .int .i64 a, .int .i64 b, .int .i64 c, .int .i64 d, .int .i64 s, .int .i64 t, .int .i64 u, .int .i64 v] 26) := ⟨_, rfl⟩
  simp only [← hw]
  obtain ⟨g8, hg⟩ : ∃ g8, g8 = w2.heap.size := ⟨_, rfl⟩
  rw [← hg]
  have B3 : Hid (w3.heap[g8]? = some (.cells #[.int .i64 l, .int .i64 a, .int .i64 b, .int .i64 c, .int .i64 d, .int .i64 s, .int .i64 t, .int .i64 u, .int .i64 v] 26 (0, 0))) := hw ▸ obj_new hg _
  have F3 := Lib.hid (hw ▸ F2.out.alloc _ : Fr nob w w3)
  have A3 : Hid (w3.heap[h]? = some (.cells #[.int .i64 l, .int .i64 a, .int .i64 b, .int .i64 c, .int .i64 d, .int .i64 s, .int .i64 t, .int .i64 u, .int .i64 v] 24 (0, 0))) := hw ▸ obj_alloc A2.out _
  clear hw hg
  refine Stop.go ((Hsp.out w3).mono ?_)
  rintro e w4 ⟨rfl, f⟩
  have F4 := Lib.hid (F3.out.step f)
  have A4 := Lib.hid (f.heap_some A3.out (fun x => x))
  have B4 := Lib.hid (f.heap_some B3.out (fun x => x))
  clear f Hsp
  have k0 : ∀ o, (w4.alloc o).cell? ⟨g8, 0, none⟩ = some (.int .i64 l) := fun o => obj_cell (obj_alloc B4.out o) 0
  have k1 : ∀ o, (w4.alloc o).cell? ⟨g8, 1, none⟩ = some (.int .i64 a) := fun o => obj_cell (obj_alloc B4.out o) 1
  have k2 : ∀ o, (w4.alloc o).cell? ⟨g8, 2, none⟩ = some (.int .i64 b) := fun o => obj_cell (obj_alloc B4.out o) 2
  have k3 : ∀ o, (w4.alloc o).cell? ⟨g8, 3, none⟩ = some (.int .i64 c) := fun o => obj_cell (obj_alloc B4.out o) 3
  have k4 : ∀ o, (w4.alloc o).cell? ⟨g8, 4, none⟩ = some (.int .i64 d) := fun o => obj_cell (obj_alloc B4.out o) 4
  have k5 : ∀ o, (w4.alloc o).cell? ⟨g8, 5, none⟩ = some (.int .i64 s) := fun o => obj_cell (obj_alloc B4.out o) 5
  have k6 : ∀ o, (w4.alloc o).cell? ⟨g8, 6, none⟩ = some (.int .i64 t) := fun o => obj_cell (obj_alloc B4.out o) 6
  have k7 : ∀ o, (w4.alloc o).cell? ⟨g8, 7, none⟩ = some (.int .i64 u) := fun o => obj_cell (obj_alloc B4.out o) 7
  have k8 : ∀ o, (w4.alloc o).cell? ⟨g8, 8, none⟩ = some (.int .i64 v) := fun o => obj_cell (obj_alloc B4.out o) 8
  go_wp2_with (go_at_call 10; refine stop ?_)
  clear k0 k1 k2 k3 k4 k5 k6 k7 k8
  obtain ⟨w5, hw⟩ : ∃ w5, w5 = w4.alloc (.cells #[.int .i64 l1, .int .i64 a1, .int .i64 b1, .int .i64 c1, .int .i64 d1, .int .i64 s1, .int .i64 t1, .int .i64 u1, .int .i64 v1] 24) := ⟨_, rfl⟩
  simp only [← hw]
  obtain ⟨g9, hg⟩ : ∃ g9, g9 = w4.heap.size := ⟨_, rfl⟩
  rw [← hg]
  have C5 : Hid (w5.heap[g9]? = some (.cells #[.int .i64 l1, .int .i64 a1, .int .i64 b1, .int .i64 c1, .int .i64 d1, .int .i64 s1, .int .i64 t1, .int .i64 u1, .int .i64 v1] 24 (0, 0))) := hw ▸ obj_new hg _
  have F5 := Lib.hid (hw ▸ F4.out.alloc _ : Fr nob w w5)
  have A5 : Hid (w5.heap[h]? = some (.cells #[.int .i64 l, .int .i64 a, .int .i64 b, .int .i64 c, .int .i64 d, .int .i64 s, .int .i64 t, .int .i64 u, .int .i64 v] 24 (0, 0))) := hw ▸ obj_alloc A4.out _
  have B5 : Hid (w5.heap[g8]? = some (.cells #[.int .i64 l, .int .i64 a, .int .i64 b, .int .i64 c, .int .i64 d, .int .i64 s, .int .i64 t, .int .i64 u, .int .i64 v] 26 (0, 0))) := hw ▸ obj_alloc B4.out _
  clear hw hg
  refine Stop.go ((Hrsp.out w5).mono ?_)
  rintro e w6 ⟨rfl, f⟩
  have F6 := Lib.hid (F5.out.step f)
  have A6 := Lib.hid (f.heap_some A5.out (fun x => x))
  have B6 := Lib.hid (f.heap_some B5.out (fun x => x))
  have C6 := Lib.hid (f.heap_some C5.out (fun x => x))
  clear f Hrsp
  have k0 : ∀ o, (w6.alloc o).cell? ⟨h, 0, none⟩ = some (.int .i64 l) := fun o => obj_cell (obj_alloc A6.out o) 0
  have k1 : ∀ o, (w6.alloc o).cell? ⟨h, 1, none⟩ = some (.int .i64 a) := fun o => obj_cell (obj_alloc A6.out o) 1
  have k2 : ∀ o, (w6.alloc o).cell? ⟨h, 2, none⟩ = some (.int .i64 b) := fun o => obj_cell (obj_alloc A6.out o) 2
  have k3 : ∀ o, (w6.alloc o).cell? ⟨h, 3, none⟩ = some (.int .i64 c) := fun o => obj_cell (obj_alloc A6.out o) 3
  have k4 : ∀ o, (w6.alloc o).cell? ⟨h, 4, none⟩ = some (.int .i64 d) := fun o => obj_cell (obj_alloc A6.out o) 4
  have k5 : ∀ o, (w6.alloc o).cell? ⟨h, 5, none⟩ = some (.int .i64 s) := fun o => obj_cell (obj_alloc A6.out o) 5
  have k6 : ∀ o, (w6.alloc o).cell? ⟨h, 6, none⟩ = some (.int .i64 t) := fun o => obj_cell (obj_alloc A6.out o) 6
  have k7 : ∀ o, (w6.alloc o).cell? ⟨h, 7, none⟩ = some (.int .i64 u) := fun o => obj_cell (obj_alloc A6.out o) 7
  have k8 : ∀ o, (w6.alloc o).cell? ⟨h, 8, none⟩ = some (.int .i64 v) := fun o => obj_cell (obj_alloc A6.out o) 8
  go_wp2_with (go_at_call 11; refine stop ?_)
  clear k0 k1 k2 k3 k4 k5 k6 k7 k8
  obtain ⟨w7, hw⟩ : ∃ w7, w7 = w6.alloc (.cells #[.int .i64 l1, .int .i64 a1, .int .i64 b1, .int .i64 c1, .int .i64 d1, .int .i64 s1, .int .i64 t1, .int .i64 u1, .int .i64 v1] 26) := ⟨_, rfl⟩
  simp only [← hw]
  obtain ⟨g11, hg⟩ : ∃ g11, g11 = w6.heap.size := ⟨_, rfl⟩
  rw [← hg]
  have D7 : Hid (w7.heap[g11]? = some (.cells #[.int .i64 l1, .int .i64 a1, .int .i64 b1, .int .i64 c1, .int .i64 d1, .int .i64 s1, .int .i64 t1, .int .i64 u1, .int .i64 v1] 26 (0, 0))) := hw ▸ obj_new hg _
  have F7 := Lib.hid (hw ▸ F6.out.alloc _ : Fr nob w w7)
  have A7 : Hid (w7.heap[h]? = some (.cells #[.int .i64 l, .int .i64 a, .int .i64 b, .int .i64 c, .int .i64 d, .int .i64 s, .int .i64 t, .int .i64 u, .int .i64 v] 24 (0, 0))) := hw ▸ obj_alloc A6.out _
  have B7 : Hid (w7.heap[g8]? = some (.cells #[.int .i64 l, .int .i64 a, .int .i64 b, .int .i64 c, .int .i64 d, .int .i64 s, .int .i64 t, .int .i64 u, .int .i64 v] 26 (0, 0))) := hw ▸ obj_alloc B6.out _
  have C7 : Hid (w7.heap[g9]? = some (.cells #[.int .i64 l1, .int .i64 a1, .int .i64 b1, .int .i64 c1, .int .i64 d1, .int .i64 s1, .int .i64 t1, .int .i64 u1, .int .i64 v1] 24 (0, 0))) := hw ▸ obj_alloc C6.out _
  clear hw hg
  refine Stop.go ((Hnw.out w7).mono ?_)
  rintro e w8 ⟨rfl, f⟩
  have F8 := Lib.hid (F7.out.step f)
  have A8 := Lib.hid (f.heap_some A7.out (fun x => x))
  have B8 := Lib.hid (f.heap_some B7.out (fun x => x))
  have C8 := Lib.hid (f.heap_some C7.out (fun x => x))
  have D8 := Lib.hid (f.heap_some D7.out (fun x => x))
  clear f Hnw
  have k0 : ∀ o, (w8.alloc o).cell? ⟨h, 0, none⟩ = some (.int .i64 l) := fun o => obj_cell (obj_alloc A8.out o) 0
  have k1 : ∀ o, (w8.alloc o).cell? ⟨h, 1, none⟩ = some (.int .i64 a) := fun o => obj_cell (obj_alloc A8.out o) 1
  have k2 : ∀ o, (w8.alloc o).cell? ⟨h, 2, none⟩ = some (.int .i64 b) := fun o => obj_cell (obj_alloc A8.out o) 2
  have k3 : ∀ o, (w8.alloc o).cell? ⟨h, 3, none⟩ = some (.int .i64 c) := fun o => obj_cell (obj_alloc A8.out o) 3
  have k4 : ∀ o, (w8.alloc o).cell? ⟨h, 4, none⟩ = some (.int .i64 d) := fun o => obj_cell (obj_alloc A8.out o) 4
  have k5 : ∀ o, (w8.alloc o).cell? ⟨h, 5, none⟩ = some (.int .i64 s) := fun o => obj_cell (obj_alloc A8.out o) 5
  have k6 : ∀ o, (w8.alloc o).cell? ⟨h, 6, none⟩ = some (.int .i64 t) := fun o => obj_cell (obj_alloc A8.out o) 6
  have k7 : ∀ o, (w8.alloc o).cell? ⟨h, 7, none⟩ = some (.int .i64 u) := fun o => obj_cell (obj_alloc A8.out o) 7
  have k8 : ∀ o, (w8.alloc o).cell? ⟨h, 8, none⟩ = some (.int .i64 v) := fun o => obj_cell (obj_alloc A8.out o) 8
  go_wp2_with (go_at_call 12; refine stop ?_)
  clear k0 k1 k2 k3 k4 k5 k6 k7 k8
  obtain ⟨w9, hw⟩ : ∃ w9, w9 = (w8.alloc (.cells #[.int .i64 0, .int .i64 0, .int .i64 0, .int .i64 0, .int .i64 0, .int .i64 0, .int .i64 0, .int .i64 0, .int .i64 0] 24)).alloc (.cells #[.int .i64 l, .int .i64 a, .int .i64 b, .int .i64 c, .int .i64 d, .int .i64 0, .int .i64 0, .int .i64 0, .int .i64 0] 26) := ⟨_, rfl⟩
  simp only [← hw]
  obtain ⟨g13, hg⟩ : ∃ g13, g13 = w8.heap.size := ⟨_, rfl⟩
  rw [← hg]
  have A9 : Hid (w9.heap[h]? = some (.cells #[.int .i64 l, .int .i64 a, .int .i64 b, .int .i64 c, .int .i64 d, .int .i64 s, .int .i64 t, .int .i64 u, .int .i64 v] 24 (0, 0))) := hw ▸ obj_alloc (obj_alloc A8.out _) _
  have B9 : Hid (w9.heap[g8]? = some (.cells #[.int .i64 l, .int .i64 a, .int .i64 b, .int .i64 c, .int .i64 d, .int .i64 s, .int .i64 t, .int .i64 u, .int .i64 v] 26 (0, 0))) := hw ▸ obj_alloc (obj_alloc B8.out _) _
  have C9 : Hid (w9.heap[g9]? = some (.cells #[.int .i64 l1, .int .i64 a1, .int .i64 b1, .int .i64 c1, .int .i64 d1, .int .i64 s1, .int .i64 t1, .int .i64 u1, .int .i64 v1] 24 (0, 0))) := hw ▸ obj_alloc (obj_alloc C8.out _) _
  have D9 : Hid (w9.heap[g11]? = some (.cells #[.int .i64 l1, .int .i64 a1, .int .i64 b1, .int .i64 c1, .int .i64 d1, .int .i64 s1, .int .i64 t1, .int .i64 u1, .int .i64 v1] 26 (0, 0))) := hw ▸ obj_alloc (obj_alloc D8.out _) _
  have E9 : Hid (w9.heap[g13]? = some (.cells #[.int .i64 0, .int .i64 0, .int .i64 0, .int .i64 0, .int .i64 0, .int .i64 0, .int .i64 0, .int .i64 0, .int .i64 0] 24 (0, 0))) := hw ▸ obj_alloc (obj_new hg _) _
  have G9 : Hid (w9.heap[(g13 + 1)]? = some (.cells #[.int .i64 l, .int .i64 a, .int .i64 b, .int .i64 c, .int .i64 d, .int .i64 0, .int .i64 0, .int .i64 0, .int .i64 0] 26 (0, 0))) := hw ▸ obj_new (by rw [hg]; simp) _
  have F9 := Lib.hid (hw ▸ (F8.out.alloc _).alloc _ : Fr nob w w9)
  clear hw hg
  refine Stop.go ((Hfr.out w9).mono ?_)
  rintro e w10 ⟨rfl, f⟩
  have F10 := Lib.hid (F9.out.step f)
  have A10 := Lib.hid (f.heap_some A9.out (fun x => x))
  have B10 := Lib.hid (f.heap_some B9.out (fun x => x))
  have C10 := Lib.hid (f.heap_some C9.out (fun x => x))
  have D10 := Lib.hid (f.heap_some D9.out (fun x => x))
  have E10 := Lib.hid (f.heap_some E9.out (fun x => x))
  have G10 := Lib.hid (f.heap_some G9.out (fun x => x))
  clear f Hfr
  have x0 : ∀ x : Grown w10, x.w.cell? ⟨g13, 0, none⟩ = some (.int .i64 0) := Grown.cell (obj_cell E10.out 0)
  have x1 : ∀ x : Grown w10, x.w.cell? ⟨g13, 1, none⟩ = some (.int .i64 0) := Grown.cell (obj_cell E10.out 1)
  have x2 : ∀ x : Grown w10, x.w.cell? ⟨g13, 2, none⟩ = some (.int .i64 0) := Grown.cell (obj_cell E10.out 2)
  have x3 : ∀ x : Grown w10, x.w.cell? ⟨g13, 3, none⟩ = some (.int .i64 0) := Grown.cell (obj_cell E10.out 3)
  have x4 : ∀ x : Grown w10, x.w.cell? ⟨g13, 4, none⟩ = some (.int .i64 0) := Grown.cell (obj_cell E10.out 4)
  have x5 : ∀ x : Grown w10, x.w.cell? ⟨g13, 5, none⟩ = some (.int .i64 0) := Grown.cell (obj_cell E10.out 5)
  have x6 : ∀ x : Grown w10, x.w.cell? ⟨g13, 6, none⟩ = some (.int .i64 0) := Grown.cell (obj_cell E10.out 6)
  have x7 : ∀ x : Grown w10, x.w.cell? ⟨g13, 7, none⟩ = some (.int .i64 0) := Grown.cell (obj_cell E10.out 7)
  have x8 : ∀ x : Grown w10, x.w.cell? ⟨g13, 8, none⟩ = some (.int .i64 0) := Grown.cell (obj_cell E10.out 8)
  have y0 : ∀ x : Grown w10, x.w.cell? ⟨(g13 + 1), 0, none⟩ = some (.int .i64 l) := Grown.cell (obj_cell G10.out 0)
  have y1 : ∀ x : Grown w10, x.w.cell? ⟨(g13 + 1), 1, none⟩ = some (.int .i64 a) := Grown.cell (obj_cell G10.out 1)
  have y2 : ∀ x : Grown w10, x.w.cell? ⟨(g13 + 1), 2, none⟩ = some (.int .i64 b) := Grown.cell (obj_cell G10.out 2)
  have y3 : ∀ x : Grown w10, x.w.cell? ⟨(g13 + 1), 3, none⟩ = some (.int .i64 c) := Grown.cell (obj_cell G10.out 3)
  have y4 : ∀ x : Grown w10, x.w.cell? ⟨(g13 + 1), 4, none⟩ = some (.int .i64 d) := Grown.cell (obj_cell G10.out 4)
  have y5 : ∀ x : Grown w10, x.w.cell? ⟨(g13 + 1), 5, none⟩ = some (.int .i64 0) := Grown.cell (obj_cell G10.out 5)
  have y6 : ∀ x : Grown w10, x.w.cell? ⟨(g13 + 1), 6, none⟩ = some (.int .i64 0) := Grown.cell (obj_cell G10.out 6)
  have y7 : ∀ x : Grown w10, x.w.cell? ⟨(g13 + 1), 7, none⟩ = some (.int .i64 0) := Grown.cell (obj_cell G10.out 7)
  have y8 : ∀ x : Grown w10, x.w.cell? ⟨(g13 + 1), 8, none⟩ = some (.int .i64 0) := Grown.cell (obj_cell G10.out 8)
  go_wp2_with fail
  refine region_grown (by kernel_rfl) (by kernel_rfl) ?_
  repeat (go_big_quiet_step ((go_at_call 8; exact Grown.call _ (plain_at _ _ _ _ _ _ _ _ _ _))))
  refine wpQuiet_nil ?_
  intro w11 hw
  have f := grown_get hw
  clear hw
  have F11 := Lib.hid (F10.out.step f)
  have A11 := Lib.hid (f.heap_some A10.out (fun x => x))
  have B11 := Lib.hid (f.heap_some B10.out (fun x => x))
  have C11 := Lib.hid (f.heap_some C10.out (fun x => x))
  have D11 := Lib.hid (f.heap_some D10.out (fun x => x))
  clear f
  clear x0 x1 x2 x3 x4 x5 x6 x7 x8
  clear y0 y1 y2 y3 y4 y5 y6 y7 y8
  go_wp2_with fail
  have x0 : ∀ x : Grown w11, x.w.cell? ⟨h, 0, none⟩ = some (.int .i64 l) := Grown.cell (obj_cell A11.out 0)
  have x1 : ∀ x : Grown w11, x.w.cell? ⟨h, 1, none⟩ = some (.int .i64 a) := Grown.cell (obj_cell A11.out 1)
  have x2 : ∀ x : Grown w11, x.w.cell? ⟨h, 2, none⟩ = some (.int .i64 b) := Grown.cell (obj_cell A11.out 2)
  have x3 : ∀ x : Grown w11, x.w.cell? ⟨h, 3, none⟩ = some (.int .i64 c) := Grown.cell (obj_cell A11.out 3)
  have x4 : ∀ x : Grown w11, x.w.cell? ⟨h, 4, none⟩ = some (.int .i64 d) := Grown.cell (obj_cell A11.out 4)
  have x5 : ∀ x : Grown w11, x.w.cell? ⟨h, 5, none⟩ = some (.int .i64 s) := Grown.cell (obj_cell A11.out 5)
  have x6 : ∀ x : Grown w11, x.w.cell? ⟨h, 6, none⟩ = some (.int .i64 t) := Grown.cell (obj_cell A11.out 6)
  have x7 : ∀ x : Grown w11, x.w.cell? ⟨h, 7, none⟩ = some (.int .i64 u) := Grown.cell (obj_cell A11.out 7)
  have x8 : ∀ x : Grown w11, x.w.cell? ⟨h, 8, none⟩ = some (.int .i64 v) := Grown.cell (obj_cell A11.out 8)
  have y0 : ∀ x : Grown w11, x.w.cell? ⟨g8, 0, none⟩ = some (.int .i64 l) := Grown.cell (obj_cell B11.out 0)
  have y1 : ∀ x : Grown w11, x.w.cell? ⟨g8, 1, none⟩ = some (.int .i64 a) := Grown.cell (obj_cell B11.out 1)
  have y2 : ∀ x : Grown w11, x.w.cell? ⟨g8, 2, none⟩ = some (.int .i64 b) := Grown.cell (obj_cell B11.out 2)
  have y3 : ∀ x : Grown w11, x.w.cell? ⟨g8, 3, none⟩ = some (.int .i64 c) := Grown.cell (obj_cell B11.out 3)
  have y4 : ∀ x : Grown w11, x.w.cell? ⟨g8, 4, none⟩ = some (.int .i64 d) := Grown.cell (obj_cell B11.out 4)
  have y5 : ∀ x : Grown w11, x.w.cell? ⟨g8, 5, none⟩ = some (.int .i64 s) := Grown.cell (obj_cell B11.out 5)
  have y6 : ∀ x : Grown w11, x.w.cell? ⟨g8, 6, none⟩ = some (.int .i64 t) := Grown.cell (obj_cell B11.out 6)
  have y7 : ∀ x : Grown w11, x.w.cell? ⟨g8, 7, none⟩ = some (.int .i64 u) := Grown.cell (obj_cell B11.out 7)
  have y8 : ∀ x : Grown w11, x.w.cell? ⟨g8, 8, none⟩ = some (.int .i64 v) := Grown.cell (obj_cell B11.out 8)
  have z0 : ∀ x : Grown w11, x.w.cell? ⟨g9, 0, none⟩ = some (.int .i64 l1) := Grown.cell (obj_cell C11.out 0)
  have z1 : ∀ x : Grown w11, x.w.cell? ⟨g9, 1, none⟩ = some (.int .i64 a1) := Grown.cell (obj_cell C11.out 1)
  have z2 : ∀ x : Grown w11, x.w.cell? ⟨g9, 2, none⟩ = some (.int .i64 b1) := Grown.cell (obj_cell C11.out 2)
  have z3 : ∀ x : Grown w11, x.w.cell? ⟨g9, 3, none⟩ = some (.int .i64 c1) := Grown.cell (obj_cell C11.out 3)
  have z4 : ∀ x : Grown w11, x.w.cell? ⟨g9, 4, none⟩ = some (.int .i64 d1) := Grown.cell (obj_cell C11.out 4)
  have z5 : ∀ x : Grown w11, x.w.cell? ⟨g9, 5, none⟩ = some (.int .i64 s1) := Grown.cell (obj_cell C11.out 5)
  have z6 : ∀ x : Grown w11, x.w.cell? ⟨g9, 6, none⟩ = some (.int .i64 t1) := Grown.cell (obj_cell C11.out 6)
  have z7 : ∀ x : Grown w11, x.w.cell? ⟨g9, 7, none⟩ = some (.int .i64 u1) := Grown.cell (obj_cell C11.out 7)
  have z8 : ∀ x : Grown w11, x.w.cell? ⟨g9, 8, none⟩ = some (.int .i64 v1) := Grown.cell (obj_cell C11.out 8)
  have r0 : ∀ x : Grown w11, x.w.cell? ⟨g11, 0, none⟩ = some (.int .i64 l1) := Grown.cell (obj_cell D11.out 0)
  have r1 : ∀ x : Grown w11, x.w.cell? ⟨g11, 1, none⟩ = some (.int .i64 a1) := Grown.cell (obj_cell D11.out 1)
  have r2 : ∀ x : Grown w11, x.w.cell? ⟨g11, 2, none⟩ = some (.int .i64 b1) := Grown.cell (obj_cell D11.out 2)
  have r3 : ∀ x : Grown w11, x.w.cell? ⟨g11, 3, none⟩ = some (.int .i64 c1) := Grown.cell (obj_cell D11.out 3)
  have r4 : ∀ x : Grown w11, x.w.cell? ⟨g11, 4, none⟩ = some (.int .i64 d1) := Grown.cell (obj_cell D11.out 4)
  have r5 : ∀ x : Grown w11, x.w.cell? ⟨g11, 5, none⟩ = some (.int .i64 s1) := Grown.cell (obj_cell D11.out 5)
  have r6 : ∀ x : Grown w11, x.w.cell? ⟨g11, 6, none⟩ = some (.int .i64 t1) := Grown.cell (obj_cell D11.out 6)
  have r7 : ∀ x : Grown w11, x.w.cell? ⟨g11, 7, none⟩ = some (.int .i64 u1) := Grown.cell (obj_cell D11.out 7)
  have r8 : ∀ x : Grown w11, x.w.cell? ⟨g11, 8, none⟩ = some (.int .i64 v1) := Grown.cell (obj_cell D11.out 8)
  refine region_grown (by kernel_rfl) (by kernel_rfl) ?_
  repeat (go_big_quiet_step ((first | (go_at_call 8; exact Grown.call _ (plain_at _ _ _ _ _ _ _ _ _ _)) | (go_at_call 13; exact Grown.call _ (Hri.out _)) | (go_at_call 12; exact Grown.call _ (Hrri.out _)) | (go_at_call 14; exact Grown.call _ (Hma.out _)) | (go_at_call 15; exact Grown.call _ (Hrma.out _)) | (go_at_call 16; exact Grown.call _ (Hal.out _)) | (go_at_call 17; exact Grown.call _ (Hral.out _)))))
  refine wpQuiet_nil ?_
  intro w12 hw
  have f := grown_get hw
  clear hw
  have F12 := Lib.hid (F11.out.step f)
  clear f
  clear x0 x1 x2 x3 x4 x5 x6 x7 x8
  clear y0 y1 y2 y3 y4 y5 y6 y7 y8
  clear z0 z1 z2 z3 z4 z5 z6 z7 z8
  clear r0 r1 r2 r3 r4 r5 r6 r7 r8
  go_wp2
  go_ret
  exact ⟨rfl, F12.out⟩

theorem tells_any (p : Pu) (who n : Int) (w : World) : Calls Try.prog 3 #[p.v, .int .i64 who, .int .i64 n] w fun e w' => e = .returned (.bool true) ∧ Fr nob w w' := by
  obtain ⟨l, ⟨a, b, c, d⟩, ⟨s, t, u, v⟩⟩ := p
  by_cases h : (fresh l ⟨a, b, c, d⟩).ok
  · exact tells_good l a b c d s t u v _ _ _ _ _ _ _ _ _ who n _ _ _ _ w (spend_any ⟨l, ⟨a, b, c, d⟩, ⟨s, t, u, v⟩⟩ who n) (rspend_any ⟨l, ⟨a, b, c, d⟩, ⟨s, t, u, v⟩⟩ who n) (fun w => new_good l a b c d h w) (fun w => by have := rright_any (fresh l ⟨a, b, c, d⟩) w; rw [decide_eq_true h] at this; exact this)
      (right_any ⟨l, ⟨a, b, c, d⟩, ⟨s, t, u, v⟩⟩) (rright_any ⟨l, ⟨a, b, c, d⟩, ⟨s, t, u, v⟩⟩) (may_any ⟨l, ⟨a, b, c, d⟩, ⟨s, t, u, v⟩⟩ who n) (rmay_any ⟨l, ⟨a, b, c, d⟩, ⟨s, t, u, v⟩⟩ who n) (all_any ⟨l, ⟨a, b, c, d⟩, ⟨s, t, u, v⟩⟩) (rall_any ⟨l, ⟨a, b, c, d⟩, ⟨s, t, u, v⟩⟩)
  · exact tells_bad l a b c d s t u v _ _ _ _ _ _ _ _ _ who n _ _ _ _ w (spend_any ⟨l, ⟨a, b, c, d⟩, ⟨s, t, u, v⟩⟩ who n) (rspend_any ⟨l, ⟨a, b, c, d⟩, ⟨s, t, u, v⟩⟩ who n) (fun w => new_bad l a b c d h w) (fun w => by have := rright_any (fresh l ⟨a, b, c, d⟩) w; rw [decide_eq_false h] at this; exact this)
      (right_any ⟨l, ⟨a, b, c, d⟩, ⟨s, t, u, v⟩⟩) (rright_any ⟨l, ⟨a, b, c, d⟩, ⟨s, t, u, v⟩⟩) (may_any ⟨l, ⟨a, b, c, d⟩, ⟨s, t, u, v⟩⟩ who n) (rmay_any ⟨l, ⟨a, b, c, d⟩, ⟨s, t, u, v⟩⟩ who n) (all_any ⟨l, ⟨a, b, c, d⟩, ⟨s, t, u, v⟩⟩) (rall_any ⟨l, ⟨a, b, c, d⟩, ⟨s, t, u, v⟩⟩)

end Go.Proofs.Ytdlbihndghofcaa
