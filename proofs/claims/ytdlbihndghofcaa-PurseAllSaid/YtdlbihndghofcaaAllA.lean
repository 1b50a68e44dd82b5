/- PurseAll: the plain law, and the walk. -/
import Derived.Test.YtdlbihndghofcaaMayB
namespace Go.Proofs.Ytdlbihndghofcaa
open Go.RowKit
set_option linter.unusedVariables false

theorem sum_set (q : Q4) (i x : Int) (h : strat i) : (q.set i x).a + (q.set i x).b + (q.set i x).c + (q.set i x).d = q.a + q.b + q.c + q.d - q.get i + x := by
  unfold strat at h
  obtain rfl | rfl | rfl | rfl : i = 0 ∨ i = 1 ∨ i = 2 ∨ i = 3 := by omega
  all_goals (simp [Q4.set, Q4.get]; try omega)
theorem kept_set (q : Q4) (i x : Int) (h : strat i) (hq : q.ok) : (q.set i x).kept = q.set i (kp x) := by
  obtain ⟨h0, h1, h2, h3⟩ := hq
  unfold strat at h
  obtain rfl | rfl | rfl | rfl : i = 0 ∨ i = 1 ∨ i = 2 ∨ i = 3 := by omega
  all_goals simp [Q4.set, Q4.kept, (kp_iff _).2 h0, (kp_iff _).2 h1, (kp_iff _).2 h2, (kp_iff _).2 h3]
theorem get_le_sum (q : Q4) (i : Int) (h : strat i) (hq : q.ok) : q.get i ≤ q.a + q.b + q.c + q.d := by
  obtain ⟨⟨h0, _⟩, ⟨h1, _⟩, ⟨h2, _⟩, h3, _⟩ := hq
  unfold strat at h
  obtain rfl | rfl | rfl | rfl : i = 0 ∨ i = 1 ∨ i = 2 ∨ i = 3 := by omega
  all_goals (simp [Q4.get]; try omega)
/-- What is asked for, as far as may be, is spent; what all spent grows by it, or stands at the greatest number. -/
theorem all_step (q : Pu) (who ask : Int) (hq : q.ok) (h : strat who) (ha : 0 ≤ ask) :
    spend q who (may q who ask) = (spent q who (may q who ask), 0) ∧ (spent q who (may q who ask)).ok ∧ 0 ≤ may q who ask ∧ may q who ask ≤ q.l ∧
      ¬ all (spent q who (may q who ask)) < all q ∧ ¬ all q + may q who ask < all (spent q who (may q who ask)) ∧ (all (spent q who (may q who ask)) = 2147483647 ∨ all (spent q who (may q who ask)) = all q + may q who ask) := by
  have M := may_val (x := ask) hq h
  have hX : inN (q.e.get who) := get_in hq.2.1
  have hL : inN q.l := hq.1
  have hS : inN (q.s.get who) := get_in hq.2.2
  unfold inN at hX hL hS
  obtain ⟨n, hn⟩ : ∃ n, n = may q who ask := ⟨_, rfl⟩
  rw [← hn] at M ⊢
  have M2 := may_val (x := n) hq h
  have h4 : ¬ may q who n < n := by rw [M2]; omega
  have ok1 := spent_ok hq h (by omega) h4
  have e1 : spend q who n = (spent q who n, 0) := by unfold spend; rw [if_neg (fun x => x ⟨hq, h, by omega⟩), if_neg h4]
  have hsum : (spent q who n).s.a + (spent q who n).s.b + (spent q who n).s.c + (spent q who n).s.d = q.s.a + q.s.b + q.s.c + q.s.d - q.s.get who + kp (q.s.get who + n) := by
    show (q.s.set who (q.s.get who + n)).kept.a + (q.s.set who (q.s.get who + n)).kept.b + (q.s.set who (q.s.get who + n)).kept.c + (q.s.set who (q.s.get who + n)).kept.d = _
    rw [kept_set _ _ _ h hq.2.2]
    exact sum_set _ _ _ h
  have hle := get_le_sum q.s who h hq.2.2
  have hk : kp (q.s.get who + n) = min (q.s.get who + n) 2147483647 := by unfold kp; omega
  refine ⟨e1, ok1, by omega, by omega, ?_⟩
  unfold all
  rw [if_pos ok1, if_pos hq, hsum, hk]
  refine ⟨?_, ?_, ?_⟩ <;> omega

end Go.Proofs.Ytdlbihndghofcaa
