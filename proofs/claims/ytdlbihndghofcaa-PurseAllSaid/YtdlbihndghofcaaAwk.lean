/- The document's example, awake: it is true. -/
import Derived.Test.YtdlbihndghofcaaRSpend
namespace Go.Proofs.Ytdlbihndghofcaa
open Go.RowKit
set_option linter.unusedVariables false
set_option linter.unusedSimpArgs false

set_option maxRecDepth 100000 in
set_option maxHeartbeats 1000000 in
theorem awake_any (w : World) : Calls Try.prog 7 #[] w fun e w' => e = .returned (.bool true) ∧ Fr nob w w' := by
  have N := Lib.hid (fun w => new_any 5 ⟨3, 0, 0, 9⟩ w)
  rw [show new 5 ⟨3, 0, 0, 9⟩ = (⟨5, ⟨3, 0, 0, 9⟩, ⟨0, 0, 0, 0⟩⟩, 0) from by decide] at N
  simp only [Pu.v] at N
  have S1 := Lib.hid (fun w => spend_any ⟨5, ⟨3, 0, 0, 9⟩, ⟨0, 0, 0, 0⟩⟩ 0 3 w)
  rw [show spend ⟨5, ⟨3, 0, 0, 9⟩, ⟨0, 0, 0, 0⟩⟩ 0 3 = (⟨2, ⟨0, 0, 0, 9⟩, ⟨3, 0, 0, 0⟩⟩, 0) from by decide] at S1
  simp only [Pu.v] at S1
  have S2 := Lib.hid (fun w => spend_any ⟨5, ⟨3, 0, 0, 9⟩, ⟨0, 0, 0, 0⟩⟩ 0 4 w)
  rw [show spend ⟨5, ⟨3, 0, 0, 9⟩, ⟨0, 0, 0, 0⟩⟩ 0 4 = (zero, 15) from by decide] at S2
  simp only [Pu.v, zero] at S2
  have M1 := Lib.hid (fun w => may_any ⟨5, ⟨3, 0, 0, 9⟩, ⟨0, 0, 0, 0⟩⟩ 0 7 w)
  rw [show may ⟨5, ⟨3, 0, 0, 9⟩, ⟨0, 0, 0, 0⟩⟩ 0 7 = 3 from by decide] at M1
  simp only [Pu.v] at M1
  have M2 := Lib.hid (fun w => may_any ⟨2, ⟨0, 0, 0, 9⟩, ⟨3, 0, 0, 0⟩⟩ 3 7 w)
  rw [show may ⟨2, ⟨0, 0, 0, 9⟩, ⟨3, 0, 0, 0⟩⟩ 3 7 = 2 from by decide] at M2
  simp only [Pu.v] at M2
  have A := Lib.hid (fun w => all_any ⟨2, ⟨0, 0, 0, 9⟩, ⟨3, 0, 0, 0⟩⟩ w)
  rw [show all ⟨2, ⟨0, 0, 0, 9⟩, ⟨3, 0, 0, 0⟩⟩ = 3 from by decide] at A
  simp only [Pu.v] at A
  have R1 := Lib.hid (fun w => right_any ⟨2, ⟨0, 0, 0, 9⟩, ⟨3, 0, 0, 0⟩⟩ w)
  rw [show decide (Pu.ok ⟨2, ⟨0, 0, 0, 9⟩, ⟨3, 0, 0, 0⟩⟩) = true from by decide] at R1
  simp only [Pu.v] at R1
  have R2 := Lib.hid (fun w => right_any ⟨(-1), ⟨0, 0, 0, 0⟩, ⟨0, 0, 0, 0⟩⟩ w)
  rw [show decide (Pu.ok ⟨(-1), ⟨0, 0, 0, 0⟩, ⟨0, 0, 0, 0⟩⟩) = false from by decide] at R2
  simp only [Pu.v] at R2
  go_enter Try.func7, Try.ntmps7
  go_wp2_with (go_at_call 11; refine stop ?_)
  refine Stop.go ((N.out w).mono ?_)
  rintro e w1 ⟨rfl, f⟩
  have F1 := Lib.hid f
  clear f N
  go_wp2_with (go_at_call 9; refine stop ?_)
  obtain ⟨w2, hw2⟩ : ∃ w2, w2 = w1.alloc (.cells #[.int .i64 5, .int .i64 3, .int .i64 0, .int .i64 0, .int .i64 9, .int .i64 0, .int .i64 0, .int .i64 0, .int .i64 0] 24) := ⟨_, rfl⟩
  simp only [← hw2]
  obtain ⟨g, hg⟩ : ∃ g, g = w1.heap.size := ⟨_, rfl⟩
  rw [← hg]
  have b2 : Hid (w2.heap[g]? = some (.cells #[.int .i64 5, .int .i64 3, .int .i64 0, .int .i64 0, .int .i64 9, .int .i64 0, .int .i64 0, .int .i64 0, .int .i64 0] 24 (0, 0))) := hw2 ▸ obj_new hg _
  have F2 : Hid (Fr nob w w2) := hw2 ▸ F1.out.alloc _
  clear hw2 hg
  refine Stop.go ((S1.out w2).mono ?_)
  rintro e w3 ⟨rfl, f⟩
  have F3 := Lib.hid (F2.out.step f)
  have b3 := Lib.hid (f.heap_some b2.out (fun x => x))
  have k0 : ∀ o, (w3.alloc o).cell? ⟨g, 0, none⟩ = some (.int .i64 5) := fun o => obj_cell (obj_alloc b3.out o) 0
  have k1 : ∀ o, (w3.alloc o).cell? ⟨g, 1, none⟩ = some (.int .i64 3) := fun o => obj_cell (obj_alloc b3.out o) 1
  have k2 : ∀ o, (w3.alloc o).cell? ⟨g, 2, none⟩ = some (.int .i64 0) := fun o => obj_cell (obj_alloc b3.out o) 2
  have k3 : ∀ o, (w3.alloc o).cell? ⟨g, 3, none⟩ = some (.int .i64 0) := fun o => obj_cell (obj_alloc b3.out o) 3
  have k4 : ∀ o, (w3.alloc o).cell? ⟨g, 4, none⟩ = some (.int .i64 9) := fun o => obj_cell (obj_alloc b3.out o) 4
  have k5 : ∀ o, (w3.alloc o).cell? ⟨g, 5, none⟩ = some (.int .i64 0) := fun o => obj_cell (obj_alloc b3.out o) 5
  have k6 : ∀ o, (w3.alloc o).cell? ⟨g, 6, none⟩ = some (.int .i64 0) := fun o => obj_cell (obj_alloc b3.out o) 6
  have k7 : ∀ o, (w3.alloc o).cell? ⟨g, 7, none⟩ = some (.int .i64 0) := fun o => obj_cell (obj_alloc b3.out o) 7
  have k8 : ∀ o, (w3.alloc o).cell? ⟨g, 8, none⟩ = some (.int .i64 0) := fun o => obj_cell (obj_alloc b3.out o) 8
  clear f S1
  go_wp2_with (go_at_call 9; refine stop ?_)
  obtain ⟨w4, hw4⟩ : ∃ w4, w4 = w3.alloc (.cells #[.int .i64 2, .int .i64 0, .int .i64 0, .int .i64 0, .int .i64 9, .int .i64 3, .int .i64 0, .int .i64 0, .int .i64 0] 24) := ⟨_, rfl⟩
  simp only [← hw4]
  obtain ⟨h, hh⟩ : ∃ h, h = w3.heap.size := ⟨_, rfl⟩
  rw [← hh]
  have b4 : Hid (w4.heap[g]? = some (.cells #[.int .i64 5, .int .i64 3, .int .i64 0, .int .i64 0, .int .i64 9, .int .i64 0, .int .i64 0, .int .i64 0, .int .i64 0] 24 (0, 0))) := hw4 ▸ obj_alloc b3.out _
  have c4 : Hid (w4.heap[h]? = some (.cells #[.int .i64 2, .int .i64 0, .int .i64 0, .int .i64 0, .int .i64 9, .int .i64 3, .int .i64 0, .int .i64 0, .int .i64 0] 24 (0, 0))) := hw4 ▸ obj_new hh _
  have F4 : Hid (Fr nob w w4) := hw4 ▸ F3.out.alloc _
  clear hw4 hh k0 k1 k2 k3 k4 k5 k6 k7 k8
  refine Stop.go ((S2.out w4).mono ?_)
  rintro e w5 ⟨rfl, f⟩
  have F5 := Lib.hid (F4.out.step f)
  have b5 := Lib.hid (f.heap_some b4.out (fun x => x))
  have c5 := Lib.hid (f.heap_some c4.out (fun x => x))
  have k0 : ∀ o, (w5.alloc o).cell? ⟨g, 0, none⟩ = some (.int .i64 5) := fun o => obj_cell (obj_alloc b5.out o) 0
  have k1 : ∀ o, (w5.alloc o).cell? ⟨g, 1, none⟩ = some (.int .i64 3) := fun o => obj_cell (obj_alloc b5.out o) 1
  have k2 : ∀ o, (w5.alloc o).cell? ⟨g, 2, none⟩ = some (.int .i64 0) := fun o => obj_cell (obj_alloc b5.out o) 2
  have k3 : ∀ o, (w5.alloc o).cell? ⟨g, 3, none⟩ = some (.int .i64 0) := fun o => obj_cell (obj_alloc b5.out o) 3
  have k4 : ∀ o, (w5.alloc o).cell? ⟨g, 4, none⟩ = some (.int .i64 9) := fun o => obj_cell (obj_alloc b5.out o) 4
  have k5 : ∀ o, (w5.alloc o).cell? ⟨g, 5, none⟩ = some (.int .i64 0) := fun o => obj_cell (obj_alloc b5.out o) 5
  have k6 : ∀ o, (w5.alloc o).cell? ⟨g, 6, none⟩ = some (.int .i64 0) := fun o => obj_cell (obj_alloc b5.out o) 6
  have k7 : ∀ o, (w5.alloc o).cell? ⟨g, 7, none⟩ = some (.int .i64 0) := fun o => obj_cell (obj_alloc b5.out o) 7
  have k8 : ∀ o, (w5.alloc o).cell? ⟨g, 8, none⟩ = some (.int .i64 0) := fun o => obj_cell (obj_alloc b5.out o) 8
  clear f S2
  go_wp2_with (go_at_call 14; refine stop ?_)
  obtain ⟨w6, hw6⟩ : ∃ w6, w6 = w5.alloc (.cells #[.int .i64 0, .int .i64 0, .int .i64 0, .int .i64 0, .int .i64 0, .int .i64 0, .int .i64 0, .int .i64 0, .int .i64 0] 24) := ⟨_, rfl⟩
  simp only [← hw6]
  have c6 : Hid (w6.heap[h]? = some (.cells #[.int .i64 2, .int .i64 0, .int .i64 0, .int .i64 0, .int .i64 9, .int .i64 3, .int .i64 0, .int .i64 0, .int .i64 0] 24 (0, 0))) := hw6 ▸ obj_alloc c5.out _
  have F6 : Hid (Fr nob w w6) := hw6 ▸ F5.out.alloc _
  clear hw6 k0 k1 k2 k3 k4 k5 k6 k7 k8
  refine Stop.go ((M1.out w6).mono ?_)
  rintro e w7 ⟨rfl, f⟩
  have F7 := Lib.hid (F6.out.step f)
  have c7 := Lib.hid (f.heap_some c6.out (fun x => x))
  have k0 : w7.cell? ⟨h, 0, none⟩ = some (.int .i64 2) := obj_cell c7.out 0
  have k1 : w7.cell? ⟨h, 1, none⟩ = some (.int .i64 0) := obj_cell c7.out 1
  have k2 : w7.cell? ⟨h, 2, none⟩ = some (.int .i64 0) := obj_cell c7.out 2
  have k3 : w7.cell? ⟨h, 3, none⟩ = some (.int .i64 0) := obj_cell c7.out 3
  have k4 : w7.cell? ⟨h, 4, none⟩ = some (.int .i64 9) := obj_cell c7.out 4
  have k5 : w7.cell? ⟨h, 5, none⟩ = some (.int .i64 3) := obj_cell c7.out 5
  have k6 : w7.cell? ⟨h, 6, none⟩ = some (.int .i64 0) := obj_cell c7.out 6
  have k7 : w7.cell? ⟨h, 7, none⟩ = some (.int .i64 0) := obj_cell c7.out 7
  have k8 : w7.cell? ⟨h, 8, none⟩ = some (.int .i64 0) := obj_cell c7.out 8
  clear f M1
  go_wp2_with (go_at_call 14; refine stop ?_)
  clear k0 k1 k2 k3 k4 k5 k6 k7 k8
  refine Stop.go ((M2.out w7).mono ?_)
  rintro e w8 ⟨rfl, f⟩
  have F8 := Lib.hid (F7.out.step f)
  have c8 := Lib.hid (f.heap_some c7.out (fun x => x))
  have k0 : w8.cell? ⟨h, 0, none⟩ = some (.int .i64 2) := obj_cell c8.out 0
  have k1 : w8.cell? ⟨h, 1, none⟩ = some (.int .i64 0) := obj_cell c8.out 1
  have k2 : w8.cell? ⟨h, 2, none⟩ = some (.int .i64 0) := obj_cell c8.out 2
  have k3 : w8.cell? ⟨h, 3, none⟩ = some (.int .i64 0) := obj_cell c8.out 3
  have k4 : w8.cell? ⟨h, 4, none⟩ = some (.int .i64 9) := obj_cell c8.out 4
  have k5 : w8.cell? ⟨h, 5, none⟩ = some (.int .i64 3) := obj_cell c8.out 5
  have k6 : w8.cell? ⟨h, 6, none⟩ = some (.int .i64 0) := obj_cell c8.out 6
  have k7 : w8.cell? ⟨h, 7, none⟩ = some (.int .i64 0) := obj_cell c8.out 7
  have k8 : w8.cell? ⟨h, 8, none⟩ = some (.int .i64 0) := obj_cell c8.out 8
  clear f M2
  go_wp2_with (go_at_call 16; refine stop ?_)
  clear k0 k1 k2 k3 k4 k5 k6 k7 k8
  refine Stop.go ((A.out w8).mono ?_)
  rintro e w9 ⟨rfl, f⟩
  have F9 := Lib.hid (F8.out.step f)
  have c9 := Lib.hid (f.heap_some c8.out (fun x => x))
  have k0 : w9.cell? ⟨h, 0, none⟩ = some (.int .i64 2) := obj_cell c9.out 0
  have k1 : w9.cell? ⟨h, 1, none⟩ = some (.int .i64 0) := obj_cell c9.out 1
  have k2 : w9.cell? ⟨h, 2, none⟩ = some (.int .i64 0) := obj_cell c9.out 2
  have k3 : w9.cell? ⟨h, 3, none⟩ = some (.int .i64 0) := obj_cell c9.out 3
  have k4 : w9.cell? ⟨h, 4, none⟩ = some (.int .i64 9) := obj_cell c9.out 4
  have k5 : w9.cell? ⟨h, 5, none⟩ = some (.int .i64 3) := obj_cell c9.out 5
  have k6 : w9.cell? ⟨h, 6, none⟩ = some (.int .i64 0) := obj_cell c9.out 6
  have k7 : w9.cell? ⟨h, 7, none⟩ = some (.int .i64 0) := obj_cell c9.out 7
  have k8 : w9.cell? ⟨h, 8, none⟩ = some (.int .i64 0) := obj_cell c9.out 8
  clear f A
  go_wp2_with (go_at_call 13; refine stop ?_)
  clear k0 k1 k2 k3 k4 k5 k6 k7 k8
  refine Stop.go ((R1.out w9).mono ?_)
  rintro e w10 ⟨rfl, f⟩
  have F10 := Lib.hid (F9.out.step f)
  clear f R1
  go_wp2_with (go_at_call 13; refine stop ?_)
  refine Stop.go ((R2.out w10).mono ?_)
  rintro e w11 ⟨rfl, f⟩
  have F11 := Lib.hid (F10.out.step f)
  clear f R2
  go_wp2
  go_ret
  exact ⟨rfl, F11.out⟩

end Go.Proofs.Ytdlbihndghofcaa
