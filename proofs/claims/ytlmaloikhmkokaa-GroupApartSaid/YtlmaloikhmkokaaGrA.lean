/- Events; is one right? -/
import Derived.Test.YtlmaloikhmkokaaRows
import Derived.Test.YtlmaloikhmkokaaBase
import Derived.Laws.OwnMore
import Derived.Outline
import Derived.RegionTactic
import Derived.ChangeAlike
import Derived.Deep.QuietTactic
import Derived.BigQuiet
import Derived.Lib.Hide
import Derived.WalkSpells
import Derived.WalkLawsBesides
import Derived.Deep.RegionWith
import Derived.Deep.RegionHeld3
import Derived.Deep.RegionLaw
import Derived.Deep.LoopGhost
import Derived.Deep.DeepCutAuto
import Derived.Deep.CutBlock
import Derived.IntWalk
namespace Go.Proofs.Ytlmaloikhmkokaa
open Go.RowKit

/-- An event: kind, session, key, value. -/
structure Ev where
  k : Int
  s : Int
  y : Int
  v : Int
deriving DecidableEq
def Ev.cells (e : Ev) : List Value := [.int .i64 e.k, .int .i64 e.s, .int .i64 e.y, .int .i64 e.v]
def Ev.val (e : Ev) : Value := .agg #[.int .i64 e.k, .int .i64 e.s, .int .i64 e.y, .int .i64 e.v]
def itemB (k : Int) : Bool := k == 1 || k == 2
def rightB (e : Ev) : Bool := (decide (0 ≤ e.k) && decide (e.k < 5)) && (decide (0 ≤ e.s) && decide (e.s < 8)) &&
  (if itemB e.k then (decide (0 ≤ e.y) && decide (e.y < 16)) && (decide (0 ≤ e.v) && decide (e.v < 2147483648)) else (e.y == 0 && e.v == 0))

theorem ret_bool {a b : Bool} (h : a = b) : Ending.returned (.bool a) = .returned (.bool b) := by rw [h]

set_option maxRecDepth 100000 in
theorem below_any (n m : Int) (w : World) : Calls Try.prog 19 #[.int .i64 n, .int .i64 m] w fun e w' => e = .returned (.bool (decide (0 ≤ n) && decide (n < m))) ∧ w = w' := by
  by_cases h : 0 ≤ n
  · go_enter Try.func19, Try.ntmps19
    go_wp2
    go_ret
    exact ⟨ret_bool (by simp [h]), rfl⟩
  · go_enter Try.func19, Try.ntmps19
    go_wp2
    go_ret
    exact ⟨ret_bool (by simp; omega), rfl⟩
set_option maxRecDepth 100000 in
theorem item_any (k : Int) (w : World) : Calls Try.prog 20 #[.int .i64 k] w fun e w' => e = .returned (.bool (itemB k)) ∧ w = w' := by
  by_cases h : k = 1
  · subst h
    go_enter Try.func20, Try.ntmps20
    go_wp2
    go_ret
    exact ⟨rfl, rfl⟩
  · have h' : (k == 1) = false := by simpa using h
    go_enter Try.func20, Try.ntmps20
    go_wp2
    go_ret
    exact ⟨ret_bool (by simp [itemB, h']), rfl⟩
set_option maxRecDepth 100000 in
theorem is_any (k : Int) (w : World) : Calls Try.prog 21 #[.int .i64 k] w fun e w' => e = .returned (.bool (decide (0 ≤ k) && decide (k < 2147483648))) ∧ w = w' := by
  by_cases h : 0 ≤ k
  · go_enter Try.func21, Try.ntmps21
    go_wp2
    go_ret
    exact ⟨ret_bool (by simp [h]; omega), rfl⟩
  · go_enter Try.func21, Try.ntmps21
    go_wp2
    go_ret
    exact ⟨ret_bool (by simp; omega), rfl⟩


theorem rightB_eq {k s y v : Int} {A B I Y V Z1 Z2 : Bool} (hA : A = (decide (0 ≤ k) && decide (k < 5))) (hB : B = (decide (0 ≤ s) && decide (s < 8))) (hI : I = itemB k) (hY : Y = (decide (0 ≤ y) && decide (y < 16)))
    (hV : V = (decide (0 ≤ v) && decide (v < 2147483648))) (h1 : Z1 = (y == 0)) (h2 : Z2 = (v == 0)) : rightB ⟨k, s, y, v⟩ = (A && B && (if I then Y && V else Z1 && Z2)) := by
  subst hA hB hI hY hV h1 h2; rfl

set_option maxRecDepth 100000 in
set_option maxHeartbeats 1000000 in
theorem right_any (e : Ev) (w : World) : Calls Try.prog 16 #[e.val] w fun x w' => x = .returned (.bool (rightB e)) ∧ Fr nob w w' := by
  obtain ⟨k, s, y, v⟩ := e
  obtain ⟨A, hA⟩ : ∃ A, A = (decide (0 ≤ k) && decide (k < 5)) := ⟨_, rfl⟩
  obtain ⟨B, hB⟩ : ∃ B, B = (decide (0 ≤ s) && decide (s < 8)) := ⟨_, rfl⟩
  obtain ⟨I, hI⟩ : ∃ I, I = itemB k := ⟨_, rfl⟩
  obtain ⟨Y, hY⟩ : ∃ Y, Y = (decide (0 ≤ y) && decide (y < 16)) := ⟨_, rfl⟩
  obtain ⟨V, hV⟩ : ∃ V, V = (decide (0 ≤ v) && decide (v < 2147483648)) := ⟨_, rfl⟩
  obtain ⟨Z1, h1⟩ : ∃ Z1, Z1 = (y == 0) := ⟨_, rfl⟩
  obtain ⟨Z2, h2⟩ : ∃ Z2, Z2 = (v == 0) := ⟨_, rfl⟩
  have RES := Lib.hid (rightB_eq hA hB hI hY hV h1 h2)
  have CA := Lib.hid (fun w => below_any k 5 w)
  have CB := Lib.hid (fun w => below_any s 8 w)
  have CI := Lib.hid (fun w => item_any k w)
  have CY := Lib.hid (fun w => below_any y 16 w)
  have CV := Lib.hid (fun w => below_any v 2147483648 w)
  rw [← hA] at CA
  rw [← hB] at CB
  rw [← hI] at CI
  rw [← hY] at CY
  rw [← hV] at CV
  have F := Lib.hid ((Fr.refl nob w).alloc (.cells #[.int .i64 k, .int .i64 s, .int .i64 y, .int .i64 v] 44))
  have c0 : (w.alloc (.cells #[.int .i64 k, .int .i64 s, .int .i64 y, .int .i64 v] 44)).cell? ⟨w.heap.size, 0, none⟩ = some (.int .i64 k) := obj_cell (heap_new w _) 0
  have c1 : (w.alloc (.cells #[.int .i64 k, .int .i64 s, .int .i64 y, .int .i64 v] 44)).cell? ⟨w.heap.size, 1, none⟩ = some (.int .i64 s) := obj_cell (heap_new w _) 1
  have c2 : (w.alloc (.cells #[.int .i64 k, .int .i64 s, .int .i64 y, .int .i64 v] 44)).cell? ⟨w.heap.size, 2, none⟩ = some (.int .i64 y) := obj_cell (heap_new w _) 2
  have c3 : (w.alloc (.cells #[.int .i64 k, .int .i64 s, .int .i64 y, .int .i64 v] 44)).cell? ⟨w.heap.size, 3, none⟩ = some (.int .i64 v) := obj_cell (heap_new w _) 3
  clear hA hB hI hY hV
  unfold Ev.val
  simp only
  cases A
  · go_enter Try.func16, Try.ntmps16
    go_wp2_with (go_at_call 19; refine stop ?_)
    refine Stop.go ((CA.out _).mono ?_)
    rintro e w1 ⟨rfl, rfl⟩
    go_wp2
    go_ret
    exact ⟨ret_bool (by rw [RES.out]; rfl), F.out⟩
  · cases B
    · go_enter Try.func16, Try.ntmps16
      go_wp2_with (go_at_call 19; refine stop ?_)
      refine Stop.go ((CA.out _).mono ?_)
      rintro e w1 ⟨rfl, rfl⟩
      go_wp2_with (go_at_call 19; refine stop ?_)
      refine Stop.go ((CB.out _).mono ?_)
      rintro e w1 ⟨rfl, rfl⟩
      go_wp2
      go_ret
      exact ⟨ret_bool (by rw [RES.out]; rfl), F.out⟩
    · cases I
      · have hz1 : (y == 0) = Z1 := h1.symm
        have hz2 : (v == 0) = Z2 := h2.symm
        clear h1 h2
        cases Z1
        · go_enter Try.func16, Try.ntmps16
          go_wp2_with (go_at_call 19; refine stop ?_)
          refine Stop.go ((CA.out _).mono ?_)
          rintro e w1 ⟨rfl, rfl⟩
          go_wp2_with (go_at_call 19; refine stop ?_)
          refine Stop.go ((CB.out _).mono ?_)
          rintro e w1 ⟨rfl, rfl⟩
          go_wp2_with (go_at_call 20; refine stop ?_)
          refine Stop.go ((CI.out _).mono ?_)
          rintro e w1 ⟨rfl, rfl⟩
          go_wp2
          go_ret
          exact ⟨ret_bool (by rw [RES.out]; rfl), F.out⟩
        · go_enter Try.func16, Try.ntmps16
          go_wp2_with (go_at_call 19; refine stop ?_)
          refine Stop.go ((CA.out _).mono ?_)
          rintro e w1 ⟨rfl, rfl⟩
          go_wp2_with (go_at_call 19; refine stop ?_)
          refine Stop.go ((CB.out _).mono ?_)
          rintro e w1 ⟨rfl, rfl⟩
          go_wp2_with (go_at_call 20; refine stop ?_)
          refine Stop.go ((CI.out _).mono ?_)
          rintro e w1 ⟨rfl, rfl⟩
          go_wp2
          go_ret
          exact ⟨ret_bool (by rw [RES.out]; rfl), F.out⟩
      · clear h1 h2
        cases Y
        · go_enter Try.func16, Try.ntmps16
          go_wp2_with (go_at_call 19; refine stop ?_)
          refine Stop.go ((CA.out _).mono ?_)
          rintro e w1 ⟨rfl, rfl⟩
          go_wp2_with (go_at_call 19; refine stop ?_)
          refine Stop.go ((CB.out _).mono ?_)
          rintro e w1 ⟨rfl, rfl⟩
          go_wp2_with (go_at_call 20; refine stop ?_)
          refine Stop.go ((CI.out _).mono ?_)
          rintro e w1 ⟨rfl, rfl⟩
          go_wp2_with (go_at_call 19; refine stop ?_)
          refine Stop.go ((CY.out _).mono ?_)
          rintro e w1 ⟨rfl, rfl⟩
          go_wp2
          go_ret
          exact ⟨ret_bool (by rw [RES.out]; rfl), F.out⟩
        · go_enter Try.func16, Try.ntmps16
          go_wp2_with (go_at_call 19; refine stop ?_)
          refine Stop.go ((CA.out _).mono ?_)
          rintro e w1 ⟨rfl, rfl⟩
          go_wp2_with (go_at_call 19; refine stop ?_)
          refine Stop.go ((CB.out _).mono ?_)
          rintro e w1 ⟨rfl, rfl⟩
          go_wp2_with (go_at_call 20; refine stop ?_)
          refine Stop.go ((CI.out _).mono ?_)
          rintro e w1 ⟨rfl, rfl⟩
          go_wp2_with (go_at_call 19; refine stop ?_)
          refine Stop.go ((CY.out _).mono ?_)
          rintro e w1 ⟨rfl, rfl⟩
          go_wp2_with (go_at_call 19; refine stop ?_)
          refine Stop.go ((CV.out _).mono ?_)
          rintro e w1 ⟨rfl, rfl⟩
          go_wp2
          go_ret
          exact ⟨ret_bool (by rw [RES.out]; rfl), F.out⟩

end Go.Proofs.Ytlmaloikhmkokaa
