/- Two arrays of four numbers, two purses: '=='. -/
import Derived.Test.YtdlbihndghofcaaKept
import Derived.ChangeKeysEq
namespace Go.Proofs.Ytdlbihndghofcaa
open Go.RowKit

theorem info22 : ∃ i, Try.prog.info? 22 = some i := Option.isSome_iff_exists.1 (by kernel_rfl)
theorem info3' : ∃ i, Try.prog.info? 3 = some i := Option.isSome_iff_exists.1 (by kernel_rfl)

set_option maxRecDepth 100000 in
theorem eq4_at (n : Nat) (a b c d a' b' c' d' : Int) (w : World) : (Op.equalIn (n + 2) 22 (.agg #[.int .i64 a, .int .i64 b, .int .i64 c, .int .i64 d]) (.agg #[.int .i64 a', .int .i64 b', .int .i64 c', .int .i64 d'])).run Try.prog w = .ok (decide ((⟨a, b, c, d⟩ : Q4) = ⟨a', b', c', d'⟩)) w := by
  obtain ⟨i, hi⟩ := info3'
  rw [run_equalIn_array w (n + 1) _ _ Try.underlying22 hi]
  have hr : List.range 4 = [0, 1, 2, 3] := by decide
  rw [hr]
  have hc : Try.prog.cellsOf 3 = 1 := by kernel_rfl
  have pk : Try.prog.plainKey 3 = true := by kernel_rfl
  have pt : ∀ (xs : Array Value) (off : Nat) (v : Value) (w : World), xs[off]? = some v → (part 3 xs off).run Try.prog w = .ok v w := fun xs off v w h => run_part_plain w pk h
  have eq : ∀ (x y : Int) (w : World), (Op.equalIn (n + 1) 3 (.int .i64 x) (.int .i64 y)).run Try.prog w = .ok (x == y) w := fun x y w => by simp [go_sem]
  simp only [Op.eqItems, hc, Sem.run_bind]
  rw [pt _ _ (.int .i64 a) w (by rfl), Result.andThen_ok, pt _ _ (.int .i64 a') w (by rfl), Result.andThen_ok, eq, Result.andThen_ok]
  by_cases h1 : a = a'
  · subst h1
    simp only [beq_self_eq_true, Bool.not_true, Bool.false_eq_true, if_false, Sem.run_bind]
    rw [pt _ _ (.int .i64 b) w (by rfl), Result.andThen_ok, pt _ _ (.int .i64 b') w (by rfl), Result.andThen_ok, eq, Result.andThen_ok]
    by_cases h2 : b = b'
    · subst h2
      simp only [beq_self_eq_true, Bool.not_true, Bool.false_eq_true, if_false, Sem.run_bind]
      rw [pt _ _ (.int .i64 c) w (by rfl), Result.andThen_ok, pt _ _ (.int .i64 c') w (by rfl), Result.andThen_ok, eq, Result.andThen_ok]
      by_cases h3 : c = c'
      · subst h3
        simp only [beq_self_eq_true, Bool.not_true, Bool.false_eq_true, if_false, Sem.run_bind]
        rw [pt _ _ (.int .i64 d) w (by rfl), Result.andThen_ok, pt _ _ (.int .i64 d') w (by rfl), Result.andThen_ok, eq, Result.andThen_ok]
        by_cases h4 : d = d'
        · subst h4; simp
        · simp [h4]
      · simp [h3]
    · simp [h2]
  · simp [h1]

theorem eq4 (a b c d a' b' c' d' : Int) (w : World) : (Op.equalIn 10000 22 (.agg #[.int .i64 a, .int .i64 b, .int .i64 c, .int .i64 d]) (.agg #[.int .i64 a', .int .i64 b', .int .i64 c', .int .i64 d'])).run Try.prog w = .ok (decide ((⟨a, b, c, d⟩ : Q4) = ⟨a', b', c', d'⟩)) w := eq4_at 9998 a b c d a' b' c' d' w

theorem q4_ne {p q : Q4} (h : ¬ p = q) : p.a = q.a → p.b = q.b → p.c = q.c → ¬ p.d = q.d := fun h1 h2 h3 h4 => h (by
  obtain ⟨a, b, c, d⟩ := p
  obtain ⟨a', b', c', d'⟩ := q
  simp only at h1 h2 h3 h4
  rw [h1, h2, h3, h4])

set_option maxRecDepth 100000 in
theorem eq24 (p q : Pu) (w : World) : (Op.equalIn 10000 24 p.v q.v).run Try.prog w = .ok (decide (p = q)) w := by
  have e4 : ∀ (a b c d a' b' c' d' : Int) (w : World), (Op.equalIn 9999 22 (.agg #[.int .i64 a, .int .i64 b, .int .i64 c, .int .i64 d]) (.agg #[.int .i64 a', .int .i64 b', .int .i64 c', .int .i64 d'])).run Try.prog w = .ok (decide ((⟨a, b, c, d⟩ : Q4) = ⟨a', b', c', d'⟩)) w := eq4_at 9997
  obtain ⟨l, e, s⟩ := p
  obtain ⟨l', e', s'⟩ := q
  unfold Pu.v
  simp only
  by_cases h1 : l = l'
  · subst h1
    by_cases h2 : e = e'
    · subst h2
      by_cases h3 : s = s'
      · subst h3
        simp [go_sem, e4]
      · simp [go_sem, e4]
        rw [if_pos (q4_ne h3), decide_eq_false h3]
    · simp [go_sem, e4]
      rw [if_pos (q4_ne h2), decide_eq_false h2, Bool.false_and]
  · simp [go_sem, h1]

set_option maxRecDepth 100000 in
theorem eq26 (p q : Pu) (w : World) : (Op.equalIn 10000 26 p.v q.v).run Try.prog w = .ok (decide (p = q)) w := by
  have e4 : ∀ (a b c d a' b' c' d' : Int) (w : World), (Op.equalIn 9999 22 (.agg #[.int .i64 a, .int .i64 b, .int .i64 c, .int .i64 d]) (.agg #[.int .i64 a', .int .i64 b', .int .i64 c', .int .i64 d'])).run Try.prog w = .ok (decide ((⟨a, b, c, d⟩ : Q4) = ⟨a', b', c', d'⟩)) w := eq4_at 9997
  obtain ⟨l, e, s⟩ := p
  obtain ⟨l', e', s'⟩ := q
  unfold Pu.v
  simp only
  by_cases h1 : l = l'
  · subst h1
    by_cases h2 : e = e'
    · subst h2
      by_cases h3 : s = s'
      · subst h3
        simp [go_sem, e4]
      · simp [go_sem, e4]
        rw [if_pos (q4_ne h3), decide_eq_false h3]
    · simp [go_sem, e4]
      rw [if_pos (q4_ne h2), decide_eq_false h2, Bool.false_and]
  · simp [go_sem, h1]

end Go.Proofs.Ytdlbihndghofcaa
