/- PurseMay: the plain law, and what came in. -/
import Derived.Test.YtdlbihndghofcaaMayA
import Derived.Test.YtdlbihndghofcaaPO
namespace Go.Proofs.Ytdlbihndghofcaa
open Go.ChangeShapes Go.WideShapes Go.ChangeAt Go.RowKit

theorem get_set (q : Q4) (i x : Int) (h : strat i) : (q.set i x).get i = x := by
  unfold strat at h
  obtain rfl | rfl | rfl | rfl : i = 0 ∨ i = 1 ∨ i = 2 ∨ i = 3 := by omega
  all_goals simp [Q4.set, Q4.get]
theorem set_set (q : Q4) (i x y : Int) (h : strat i) : (q.set i x).set i y = q.set i y := by
  unfold strat at h
  obtain rfl | rfl | rfl | rfl : i = 0 ∨ i = 1 ∨ i = 2 ∨ i = 3 := by omega
  all_goals simp [Q4.set]
theorem kp_kp (x : Int) : kp (kp x) = kp x := by unfold kp; omega
theorem kp_add (x b : Int) (hb : 0 ≤ b) (hx : 0 ≤ x) : kp (kp x + b) = kp (x + b) := by unfold kp; omega
theorem kept_twice (q : Q4) (i a b : Int) (h : strat i) (hq : q.ok) (ha : 0 ≤ a) (hb : 0 ≤ b) :
    ((q.set i (q.get i + a)).kept.set i ((q.set i (q.get i + a)).kept.get i + b)).kept = (q.set i (q.get i + (a + b))).kept := by
  obtain ⟨⟨h0, _⟩, ⟨h1, _⟩, ⟨h2, _⟩, h3, _⟩ := hq
  unfold strat at h
  obtain rfl | rfl | rfl | rfl : i = 0 ∨ i = 1 ∨ i = 2 ∨ i = 3 := by omega
  · simp [Q4.set, Q4.get, Q4.kept, kp_kp, kp_add _ b hb (Int.add_nonneg h0 ha), Int.add_assoc]
  · simp [Q4.set, Q4.get, Q4.kept, kp_kp, kp_add _ b hb (Int.add_nonneg h1 ha), Int.add_assoc]
  · simp [Q4.set, Q4.get, Q4.kept, kp_kp, kp_add _ b hb (Int.add_nonneg h2 ha), Int.add_assoc]
  · simp [Q4.set, Q4.get, Q4.kept, kp_kp, kp_add _ b hb (Int.add_nonneg h3 ha), Int.add_assoc]
theorem spent_twice (p : Pu) (who a b : Int) (h : p.ok) (h2 : strat who) (ha : 0 ≤ a) (hb : 0 ≤ b) : spent (spent p who a) who b = spent p who (a + b) := by
  unfold spent
  simp only [get_set _ _ _ h2, set_set _ _ _ _ h2, kept_twice p.s who a b h2 h.2.2 ha hb]
  rw [show p.l - a - b = p.l - (a + b) by omega, show p.e.get who - a - b = p.e.get who - (a + b) by omega]
theorem may_val {p : Pu} {who : Int} (x : Int) (h : p.ok) (h2 : strat who) : may p who x = max 0 (min (min x p.l) (p.e.get who)) := by unfold may; rw [if_pos ⟨h, h2⟩]

def askv (p : Pu) (who a b : Int) : Value := .agg #[.int .i64 p.l, .int .i64 p.e.a, .int .i64 p.e.b, .int .i64 p.e.c, .int .i64 p.e.d, .int .i64 p.s.a, .int .i64 p.s.b, .int .i64 p.s.c, .int .i64 p.s.d, .int .i64 who, .int .i64 a, .int .i64 b]

theorem mayl_any (p : Pu) (who a b : Int) (w : World) : Calls Try.prog 5 #[askv p who a b] w fun e w' => e = .returned (.bool true) ∧ Fr nob w w' := by
  by_cases hok : p.ok
  · have ri : ∀ w, Calls Try.prog 13 #[p.v] w fun e w' => e = .returned (.bool true) ∧ Fr nob w w' := fun w => by have := right_any p w; rw [decide_eq_true hok] at this; exact this
    by_cases n0 : who < 0
    · exact mayl_c0 _ _ _ _ _ _ _ _ _ who a b w ri n0
    by_cases n1 : 4 ≤ who
    · exact mayl_c1 _ _ _ _ _ _ _ _ _ who a b w ri n0 n1
    by_cases n2 : a < 0
    · exact mayl_c2 _ _ _ _ _ _ _ _ _ who a b w ri n0 n1 n2
    by_cases n3 : 1000000000 < a
    · exact mayl_c3 _ _ _ _ _ _ _ _ _ who a b w ri n0 n1 n2 n3
    by_cases n4 : b < 0
    · exact mayl_c4 _ _ _ _ _ _ _ _ _ who a b w ri n0 n1 n2 n3 n4
    by_cases n5 : 1000000000 < b
    · exact mayl_c5 _ _ _ _ _ _ _ _ _ who a b w ri n0 n1 n2 n3 n4 n5
    have hst : strat who := by unfold strat; omega
    have hwho : 0 ≤ who ∧ who < 4 := hst
    have ha : 0 ≤ a := by omega
    have hb : 0 ≤ b := by omega
    have M1 := may_val (x := a) hok hst
    have M2 := may_val (x := a + b) hok hst
    have hX : inN (p.e.get who) := get_in hok.2.1
    have hL : inN p.l := hok.1
    unfold inN at hX hL
    have ml : ¬ p.l < may p who a := by rw [M1]; omega
    by_cases h1 : may p who a < a
    · have e1 : spend p who a = (zero, 15) := by unfold spend; rw [if_neg (fun x => x ⟨hok, hst, ha⟩), if_pos h1]
      have h2 : may p who (a + b) < a + b := by rw [M1] at h1; rw [M2]; omega
      have e2 : spend p who (a + b) = (zero, 15) := by unfold spend; rw [if_neg (fun x => x ⟨hok, hst, by omega⟩), if_pos h2]
      exact mayl_no _ _ _ _ _ _ _ _ _ who a b _ _ _ _ _ _ _ _ _ _ _ _ _ _ _ _ _ _ _ _ _ _ _ _ _ _ _ _ _ w ri hwho ⟨ha, by omega⟩ ⟨hb, by omega⟩ h1 ml
        (fun w => by have := spend_any p who a w; rw [e1] at this; exact this) (fun w => by have := spend_any p who (a + b) w; rw [e2] at this; exact this) (fun w => spend_any zero who b w) (may_any p who a)
    · have hm : may p who a = a := by rw [M1] at h1 ⊢; omega
      have e1 : spend p who a = (spent p who a, 0) := by unfold spend; rw [if_neg (fun x => x ⟨hok, hst, ha⟩), if_neg h1]
      have ok1 := spent_ok hok hst ha h1
      have M3 := may_val (x := b) ok1 hst
      have g1 : (spent p who a).e.get who = p.e.get who - a := get_set _ _ _ hst
      have g2 : (spent p who a).l = p.l - a := rfl
      rw [g1, g2] at M3
      rw [M1] at h1
      by_cases h2 : may p who (a + b) < a + b
      · have e2 : spend p who (a + b) = (zero, 15) := by unfold spend; rw [if_neg (fun x => x ⟨hok, hst, by omega⟩), if_pos h2]
        have h3 : may (spent p who a) who b < b := by rw [M2] at h2; rw [M3]; omega
        have e3 : spend (spent p who a) who b = (zero, 15) := by unfold spend; rw [if_neg (fun x => x ⟨ok1, hst, hb⟩), if_pos h3]
        exact mayl_part _ _ _ _ _ _ _ _ _ who a b _ _ _ _ _ _ _ _ _ _ _ _ _ _ _ _ _ _ _ _ _ _ _ _ _ _ _ _ w ri hwho ⟨ha, by omega⟩ ⟨hb, by omega⟩ hm ml
          (fun w => by have := spend_any p who a w; rw [e1] at this; exact this) (fun w => by have := spend_any p who (a + b) w; rw [e2] at this; exact this) (fun w => by have := spend_any (spent p who a) who b w; rw [e3] at this; exact this) (may_any p who a)
      · have e2 : spend p who (a + b) = (spent p who (a + b), 0) := by unfold spend; rw [if_neg (fun x => x ⟨hok, hst, by omega⟩), if_neg h2]
        have h3 : ¬ may (spent p who a) who b < b := by rw [M2] at h2; rw [M3]; omega
        have e3 : spend (spent p who a) who b = (spent p who (a + b), 0) := by unfold spend; rw [if_neg (fun x => x ⟨ok1, hst, hb⟩), if_neg h3, spent_twice p who a b hok hst ha hb]
        exact mayl_all _ _ _ _ _ _ _ _ _ who a b _ _ _ _ _ _ _ _ _ _ _ _ _ _ _ _ _ _ _ w ri hwho ⟨ha, by omega⟩ ⟨hb, by omega⟩ hm ml
          (fun w => by have := spend_any p who a w; rw [e1] at this; exact this) (fun w => by have := spend_any p who (a + b) w; rw [e2] at this; exact this) (fun w => by have := spend_any (spent p who a) who b w; rw [e3] at this; exact this) (may_any p who a)
  · exact mayl_bad _ _ _ _ _ _ _ _ _ who a b w (fun w => by have := right_any p w; rw [decide_eq_false hok] at this; exact this)

end Go.Proofs.Ytdlbihndghofcaa
