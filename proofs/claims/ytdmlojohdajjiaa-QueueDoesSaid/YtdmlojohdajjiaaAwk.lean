/- The document's example: awake is true. -/
import Derived.Test.YtdmlojohdajjiaaFill
namespace Go.Proofs.Ytdmlojohdajjiaa
open Go.RowKit

theorem QC.lt {w : World} {p c room : Nat} {xs : List Pk} (h : QC w p c room xs) : c < w.heap.size := by
  obtain ⟨_, s, r, h2⟩ := h
  exact obj_lt h2

set_option maxRecDepth 100000 in
set_option maxHeartbeats 400000 in
theorem awake_any (w : World) : Calls Try.prog 6 #[] w fun e w' => e = .returned (.bool true) ∧ Fr nob w w' := by
  go_enter Try.func6, Try.ntmps6
  go_wp2_with (go_at_call 7; refine stop ?_)
  refine Stop.go ((new_ok 2 w (by omega) (by omega)).mono ?_)
  rintro e w1 ⟨rfl, q1, f1⟩
  have Q1 := Lib.hid q1
  have F1 := Lib.hid f1
  obtain ⟨c, hc⟩ : ∃ c, c = w.heap.size := ⟨_, rfl⟩
  have HC := Lib.hid hc
  rw [← hc] at Q1
  rw [← hc]
  clear q1 f1 hc
  go_wp2_with (go_at_call 7; refine stop ?_)
  refine Stop.go ((new_bad 0 w1 (by omega)).mono ?_)
  rintro e w1' ⟨rfl, rfl⟩
  go_wp2_with (go_at_call 13; refine stop ?_)
  obtain ⟨wb, hwb⟩ : ∃ wb, wb = w1.alloc (.cells #[.int .i64 1, .int .i64 0, .int .i64 2, .int .i64 0, .int .i64 3, .int .i64 0] 35) := ⟨_, rfl⟩
  have F2 := Lib.hid (hwb ▸ F1.out.alloc (.cells #[.int .i64 1, .int .i64 0, .int .i64 2, .int .i64 0, .int .i64 3, .int .i64 0] 35))
  have B2 : Hid (wb.heap[w1.heap.size]? = some (.cells #[.int .i64 1, .int .i64 0, .int .i64 2, .int .i64 0, .int .i64 3, .int .i64 0] 35 (0, 0))) := Lib.hid (hwb ▸ obj_new rfl _)
  have Q2 := Lib.hid (Q1.out.fr (hwb ▸ (Fr.refl nob w1).alloc _ : Fr nob w1 wb) (fun x => x) (fun x => x))
  simp only [← hwb]
  refine Stop.go ((fill_any (c + 1) c 2 3 (some ⟨w1.heap.size, 0, none⟩) w1.heap.size 0 [] [(1, 0), (2, 0), (3, 0)] wb Q2.out ⟨.inr rfl, ?_⟩ (by simp) (by simp)).mono ?_)
  · intro j x hj
    match j, hj with
    | 0, hj => obtain rfl := Option.some.inj hj; exact ⟨obj_cell B2.out 0, obj_cell B2.out 1⟩
    | 1, hj => obtain rfl := Option.some.inj hj; exact ⟨obj_cell B2.out 2, obj_cell B2.out 3⟩
    | 2, hj => obtain rfl := Option.some.inj hj; exact ⟨obj_cell B2.out 4, obj_cell B2.out 5⟩
    | j + 3, hj => simp at hj
  rintro e w3 ⟨rfl, q3, f3⟩
  have Q3 : Hid (QC w3 (c + 1) c 2 [(1, 0), (2, 0)]) := Lib.hid (by simpa [fits] using q3)
  have F3 := Lib.hid (F2.out.keep f3 (fun k hk => by have := HC.out; omega))
  rw [show ((fits 2 ([] : List Pk).length ([(1, 0), (2, 0), (3, 0)] : List Pk).length : Nat) : Int) = 2 by decide]
  clear q3 f3 B2 Q2 F2 hwb
  go_wp2_with (go_at_call 11; refine stop ?_)
  refine Stop.go ((pop_some (c + 1) c 2 (1, 0) [(2, 0)] w3 Q3.out).mono ?_)
  rintro e w4 ⟨rfl, q4, f4⟩
  have Q4 := Lib.hid q4
  have F4 := Lib.hid (F3.out.keep f4 (fun k hk => by have := HC.out; omega))
  clear q4 f4
  go_wp2_with (go_at_call 8; refine stop ?_)
  obtain ⟨w5, hw5⟩ : ∃ w5, w5 = w4.alloc (.cells #[.int .i64 1, .int .i64 0] 35) := ⟨_, rfl⟩
  have A5 : Fr nob w4 w5 := hw5 ▸ (Fr.refl nob w4).alloc _
  have F5 := Lib.hid (F4.out.step A5)
  have B5 : Hid (w5.heap[w4.heap.size]? = some (.cells #[.int .i64 1, .int .i64 0] 35 (0, 0))) := Lib.hid (hw5 ▸ obj_new rfl _)
  have Q5 := Lib.hid (Q4.out.fr A5 (fun x => x) (fun x => x))
  have L4 := Lib.hid (Q4.out.lt)
  simp only [← hw5]
  refine Stop.go ((push_room (c + 1) c 2 (4, 0) [(2, 0)] w5 Q5.out (by simp)).mono ?_)
  rintro e w6 ⟨rfl, q6, f6⟩
  have Q6 := Lib.hid q6
  have F6 := Lib.hid (F5.out.keep f6 (fun k hk => by have := HC.out; omega))
  have B6 := Lib.hid (f6.heap_some B5.out (by have := L4.out; omega))
  have e0 : w6.cell? ⟨w4.heap.size, 0, none⟩ = some (.int .i64 1) := obj_cell B6.out 0
  clear q6 f6 A5 hw5
  go_wp2_with (go_at_call 16; refine stop ?_)
  refine Stop.go ((len_any (c + 1) c 2 _ w6 Q6.out).mono ?_)
  rintro e w7 ⟨rfl, rfl⟩
  go_wp2
  go_ret
  exact ⟨rfl, F6.out⟩

end Go.Proofs.Ytdmlojohdajjiaa
