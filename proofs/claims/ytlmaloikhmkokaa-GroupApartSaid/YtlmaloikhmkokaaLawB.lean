/- GroupFirst's law, in plain Lean. -/
import Derived.Test.YtlmaloikhmkokaaGrE
namespace Go.Proofs.Ytlmaloikhmkokaa

theorem grun_kinds : ∀ (l : List Ev) (i : Nat) (st : St), (grun l i st).2.2 ≠ 0 → ∃ j : Nat, j < l.length ∧ grun l i st = ([], ((i + j : Nat) : Int), (grun l i st).2.2) ∧ (grun (l.take j) i st).2.2 = 0 ∧ grun (l.take (j + 1)) i st = ([], ((i + j : Nat) : Int), (grun l i st).2.2)
  | [], i, st, h => absurd rfl h
  | e :: l, i, st, h => by
    by_cases hc : gerr st e = 0
    · have he : grun (e :: l) i st = grun l (i + 1) (gnext st e i) := by rw [grun, if_pos hc]
      rw [he] at h ⊢
      obtain ⟨j, h1, h2, h3, h4⟩ := grun_kinds l (i + 1) (gnext st e i) h
      refine ⟨j + 1, by simpa using h1, ?_, ?_, ?_⟩
      · rw [show i + (j + 1) = i + 1 + j from by omega]; exact h2
      · rw [List.take_succ_cons, grun, if_pos hc]; exact h3
      · rw [List.take_succ_cons, grun, if_pos hc, show i + (j + 1) = i + 1 + j from by omega]; exact h4
    · have he : grun (e :: l) i st = ([], (i : Int), gerr st e) := by rw [grun, if_neg hc]
      refine ⟨0, by simp, ?_, rfl, ?_⟩
      · rw [he]; rfl
      · rw [he, List.take_succ_cons, grun, if_neg hc]; rfl
theorem grun_zero : ∀ (l : List Ev) (i : Nat) (st : St), (grun l i st).2.2 = 0 → (grun l i st).2.1 = 0
  | [], _, _, _ => rfl
  | e :: l, i, st, h => by
    by_cases hc : gerr st e = 0
    · have he : grun (e :: l) i st = grun l (i + 1) (gnext st e i) := by rw [grun, if_pos hc]
      rw [he] at h ⊢
      exact grun_zero l (i + 1) _ h
    · rw [grun, if_neg hc] at h
      exact absurd h hc

def osum (st : St) : Nat := (st.map fun x => x.1.o.length).sum
def tsum (ts : List Tx) : Nat := (ts.map fun x => x.o.length).sum
def nI (l : List Ev) : Nat := (l.filter fun e => itemB e.k).length
def nB (l : List Ev) : Nat := (l.filter fun e => e.k == 0).length
theorem sum_set {α : Type} (f : α → Nat) (y : α) : ∀ (L : List α) (j : Nat) (x : α), L[j]? = some x → ((L.set j y).map f).sum + f x = (L.map f).sum + f y
  | z :: L, 0, x, h => by simp at h; subst h; simp; omega
  | z :: L, j + 1, x, h => by
    have := sum_set f y L j x (by simpa using h)
    simp at this ⊢; omega
theorem gnext_sum {st : St} {e : Ev} (i : Int) (h : gerr st e = 0) : osum (gnext st e i) = osum st + (if itemB e.k then 1 else 0) ∧ (gnext st e i).length = st.length + (if e.k == 0 then 1 else 0) := by
  by_cases hk : e.k = 0
  · rw [gnext0 i hk]
    simp [osum, hk, itemB]
  · obtain ⟨j, t, h1, h2, _⟩ := gerr_open h hk
    rw [gnextk i hk h1 h2]
    have hk' : (e.k == 0) = false := by simpa using hk
    cases hi : itemB e.k
    · have := sum_set (fun x : Tx × Bool => x.1.o.length) ({ t with d := e.k == 3 }, false) st j _ h2
      simp [osum, hk'] at this ⊢
      omega
    · have := sum_set (fun x : Tx × Bool => x.1.o.length) ({ t with o := t.o ++ [e] }, true) st j _ h2
      simp [osum, hk'] at this ⊢
      omega
theorem grun_sum : ∀ (l : List Ev) (i : Nat) (st : St), (grun l i st).2.2 = 0 → st.length ≤ 32 → osum (grun l i st).1 = osum st + nI l ∧ (grun l i st).1.length = st.length + nB l ∧ (grun l i st).1.length ≤ 32
  | [], _, st, _, hl => ⟨rfl, rfl, hl⟩
  | e :: l, i, st, h, hl => by
    by_cases hc : gerr st e = 0
    · have he : grun (e :: l) i st = grun l (i + 1) (gnext st e i) := by rw [grun, if_pos hc]
      rw [he] at h ⊢
      obtain ⟨h1, h2, h3⟩ := grun_sum l (i + 1) _ h (gnext_room _ hc hl)
      obtain ⟨g1, g2⟩ := gnext_sum (i : Int) hc
      refine ⟨?_, ?_, h3⟩
      · rw [h1, g1]; unfold nI; cases hi : itemB e.k <;> simp [hi]; omega
      · rw [h2, g2]; unfold nB; cases hi : (e.k == 0) <;> simp [hi]; omega
    · rw [grun, if_neg hc] at h
      exact absurd h hc
theorem first_ok {l : List Ev} (h : (grun l 0 []).2.2 = 0) : tsum ((grun l 0 []).1.map Prod.fst) = nI l ∧ nB l = ((grun l 0 []).1.map Prod.fst).length ∧ nB l ≤ 32 := by
  obtain ⟨h1, h2, h3⟩ := grun_sum l 0 [] h (by simp)
  refine ⟨?_, by simpa using h2.symm, by simp at h2; omega⟩
  simp [osum] at h1
  simp [tsum, Function.comp_def, h1]
theorem nI_snoc (l : List Ev) (e : Ev) : nI (l ++ [e]) = nI l + (if itemB e.k then 1 else 0) := by unfold nI; cases h : itemB e.k <;> simp [h]
theorem nB_snoc (l : List Ev) (e : Ev) : nB (l ++ [e]) = nB l + (if e.k == 0 then 1 else 0) := by unfold nB; cases h : (e.k == 0) <;> simp [h]
theorem tsum_snoc (ts : List Tx) (t : Tx) : tsum (ts ++ [t]) = tsum ts + t.o.length := by simp [tsum]
theorem nI_le (l : List Ev) : nI l ≤ l.length := List.length_filter_le _ _
theorem nB_le (l : List Ev) : nB l ≤ l.length := List.length_filter_le _ _

end Go.Proofs.Ytlmaloikhmkokaa
