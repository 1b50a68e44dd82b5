/- The purse: Plain, May, All. -/
import Derived.Test.YtdlbihndghofcaaRight
import Derived.IntWalk
namespace Go.Proofs.Ytdlbihndghofcaa
open Go.RowKit

def Q4.get (q : Q4) (i : Int) : Int := if i = 0 then q.a else if i = 1 then q.b else if i = 2 then q.c else q.d
def strat (who : Int) : Prop := 0 ≤ who ∧ who < 4
instance (who : Int) : Decidable (strat who) := by unfold strat; exact inferInstance
def may (p : Pu) (who ask : Int) : Int := if p.ok ∧ strat who then max 0 (min (min ask p.l) (p.e.get who)) else 0
def all (p : Pu) : Int := if p.ok then min (p.s.a + p.s.b + p.s.c + p.s.d) 2147483647 else 0

set_option maxRecDepth 100000 in
theorem plain_any (p : Pu) (w : World) : Calls Try.prog 8 #[p.v] w fun e w' => e = .returned p.v ∧ Fr nob w w' := by
  unfold Pu.v
  go_enter Try.func8, Try.ntmps8
  go_wp2
  exact bodyPost_ret (v := p.v) (by simp [results, Try.results8, go_sem, Pu.v]) rfl ⟨rfl, ((Fr.refl nob w).alloc _).alloc _⟩

set_option maxRecDepth 100000 in
theorem may_bad (p : Pu) (who ask : Int) (h : ¬ p.ok) (w : World) : Calls Try.prog 14 #[p.v, .int .i64 who, .int .i64 ask] w fun e w' => e = .returned (.int .i64 0) ∧ Fr nob w w' := by
  have R := Lib.hid (fun w => right_any p w)
  rw [decide_eq_false h] at R
  clear h
  unfold Pu.v at *
  go_enter Try.func14, Try.ntmps14
  go_wp2_with (go_at_call 13; refine stop ?_)
  refine Stop.go ((R.out _).mono ?_)
  rintro e w1 ⟨rfl, f1⟩
  have F := Lib.hid (((Fr.refl nob w).alloc _).trans f1 (U := nob) (fun _ _ x => x) (fun _ _ x => x))
  clear f1
  go_wp2
  go_ret
  exact ⟨rfl, F.out⟩

set_option maxRecDepth 100000 in
theorem may_who (p : Pu) (who ask : Int) (h : p.ok) (h2 : ¬ strat who) (w : World) : Calls Try.prog 14 #[p.v, .int .i64 who, .int .i64 ask] w fun e w' => e = .returned (.int .i64 0) ∧ Fr nob w w' := by
  have R := Lib.hid (fun w => right_any p w)
  rw [decide_eq_true h] at R
  have S := Lib.hid (fun w => strategy_any who w)
  rw [show decide (0 ≤ who ∧ who < 4) = false from decide_eq_false h2] at S
  clear h h2
  unfold Pu.v at *
  go_enter Try.func14, Try.ntmps14
  go_wp2_with (go_at_call 13; refine stop ?_)
  refine Stop.go ((R.out _).mono ?_)
  rintro e w1 ⟨rfl, f1⟩
  have F := Lib.hid (((Fr.refl nob w).alloc _).trans f1 (U := nob) (fun _ _ x => x) (fun _ _ x => x))
  clear f1
  go_wp2_with (go_at_call 18; refine stop ?_)
  refine Stop.go ((S.out _).mono ?_)
  rintro e w2 ⟨rfl, rfl⟩
  go_wp2
  go_ret
  exact ⟨rfl, F.out⟩

set_option maxRecDepth 100000 in
set_option maxHeartbeats 1000000 in
theorem may_good (p : Pu) (who ask : Int) (h : p.ok) (h2 : strat who) (w : World) : Calls Try.prog 14 #[p.v, .int .i64 who, .int .i64 ask] w fun e w' => e = .returned (.int .i64 (max 0 (min (min ask p.l) (p.e.get who)))) ∧ Fr nob w w' := by
  have R := Lib.hid (fun w => right_any p w)
  rw [decide_eq_true h] at R
  have S := Lib.hid (fun w => strategy_any who w)
  rw [show decide (0 ≤ who ∧ who < 4) = true from decide_eq_true h2] at S
  obtain ⟨m, hm⟩ : ∃ m, m = max 0 (min (min ask p.l) (p.e.get who)) := ⟨_, rfl⟩
  rw [← hm]
  obtain ⟨l, ⟨a, b, c, d⟩, ⟨s, t, u, v⟩⟩ := p
  unfold strat at h2
  have HM := Lib.hid hm
  clear h hm
  unfold Pu.v at *
  simp only at *
  go_enter Try.func14, Try.ntmps14
  go_wp2_with (go_at_call 13; refine stop ?_)
  refine Stop.go ((R.out _).mono ?_)
  rintro e w1 ⟨rfl, f1⟩
  have b1 := f1.heap_some (obj_new (w := w) rfl _) (fun x => x)
  have F := Lib.hid (((Fr.refl nob w).alloc _).trans f1 (U := nob) (fun _ _ x => x) (fun _ _ x => x))
  have m0 : w1.cell? ⟨w.heap.size, 0, none⟩ = some (.int .i64 l) := obj_cell b1 0
  have m1 : w1.cell? ⟨w.heap.size, 1, none⟩ = some (.int .i64 a) := obj_cell b1 1
  have m2 : w1.cell? ⟨w.heap.size, 2, none⟩ = some (.int .i64 b) := obj_cell b1 2
  have m3 : w1.cell? ⟨w.heap.size, 3, none⟩ = some (.int .i64 c) := obj_cell b1 3
  have m4 : w1.cell? ⟨w.heap.size, 4, none⟩ = some (.int .i64 d) := obj_cell b1 4
  clear f1 b1
  go_wp2_with (go_at_call 18; refine stop ?_)
  refine Stop.go ((S.out _).mono ?_)
  rintro e w2 ⟨rfl, rfl⟩
  clear R S
  go_wp2_with fail
  obtain rfl | rfl | rfl | rfl : who = 0 ∨ who = 1 ∨ who = 2 ∨ who = 3 := by omega
  all_goals
    refine region_tail 7 (by kernel_rfl) (by kernel_rfl) ?_
    simp only [List.take_succ_cons, List.take_zero, List.drop_succ_cons, List.drop_zero]
    repeat still_step
    refine wpStill_nil ?_
    go_wp2
  all_goals
    go_ret
    refine ⟨?_, F.out.drew⟩
    have hm := HM.out
    simp [Q4.get] at hm
    rw [hm]
    simp
    try omega

theorem may_any (p : Pu) (who ask : Int) (w : World) : Calls Try.prog 14 #[p.v, .int .i64 who, .int .i64 ask] w fun e w' => e = .returned (.int .i64 (may p who ask)) ∧ Fr nob w w' := by
  unfold may
  by_cases h : p.ok
  · by_cases h2 : strat who
    · rw [if_pos ⟨h, h2⟩]; exact may_good p who ask h h2 w
    · rw [if_neg (fun x => h2 x.2)]; exact may_who p who ask h h2 w
  · rw [if_neg (fun x => h x.1)]; exact may_bad p who ask h w

end Go.Proofs.Ytdlbihndghofcaa
