/- GroupBack's law, in plain Lean. -/
import Derived.Test.YtlmaloikhmkokaaLawB
import Derived.Test.YtlmaloikhmkokaaGrJ
namespace Go.Proofs.Ytlmaloikhmkokaa

/-- What a transaction that was grouped is like. -/
def good (t : Tx) : Prop := 0 ≤ t.s ∧ t.s ≤ 7 ∧ ∀ e ∈ t.o, rightB e = true ∧ itemB e.k = true ∧ e.s = t.s
theorem gerr_right {st : St} {e : Ev} (h : gerr st e = 0) : rightB e = true := by
  cases hr : rightB e
  · rw [gerr1 hr] at h; cases h
  · rfl
theorem gnext_good {st : St} {e : Ev} (i : Int) (h : gerr st e = 0) (hg : ∀ x ∈ st, good x.1) : ∀ x ∈ gnext st e i, good x.1 := by
  obtain ⟨-, -, h3, h4⟩ := right_ses (gerr_right h)
  by_cases hk : e.k = 0
  · rw [gnext0 i hk]
    intro x hx
    rcases List.mem_append.1 hx with hx | hx
    · exact hg x hx
    · simp at hx; subst hx; exact ⟨h3, h4, by simp⟩
  · obtain ⟨j, t, h1, h2, h5⟩ := gerr_open h hk
    have ht := hg _ (List.mem_of_getElem? h2)
    rw [gnextk i hk h1 h2]
    intro x hx
    cases hi : itemB e.k
    · rw [hi] at hx
      rcases List.mem_or_eq_of_mem_set hx with hx | rfl
      · exact hg x hx
      · exact ht
    · rw [hi] at hx
      rcases List.mem_or_eq_of_mem_set hx with hx | rfl
      · exact hg x hx
      · refine ⟨ht.1, ht.2.1, fun y hy => ?_⟩
        rcases List.mem_append.1 hy with hy | hy
        · exact ht.2.2 y hy
        · simp at hy; subst hy; exact ⟨gerr_right h, hi, h5.symm⟩
theorem grun_good : ∀ (l : List Ev) (i : Nat) (st : St), (grun l i st).2.2 = 0 → (∀ x ∈ st, good x.1) → ∀ x ∈ (grun l i st).1, good x.1
  | [], _, _, _, hg => hg
  | e :: l, i, st, h, hg => by
    by_cases hc : gerr st e = 0
    · have he : grun (e :: l) i st = grun l (i + 1) (gnext st e i) := by rw [grun, if_pos hc]
      rw [he] at h ⊢
      exact grun_good l (i + 1) _ h (gnext_good _ hc hg)
    · rw [grun, if_neg hc] at h
      exact absurd h hc
theorem lk_closed {st : St} (h : ∀ x ∈ st, x.2 = false) (s : Int) : lk st s = none := by
  cases hl : lk st s with
  | none => rfl
  | some k =>
    obtain ⟨t, h1, _⟩ := lk_at hl
    have := h _ (List.mem_of_getElem? h1)
    cases this
theorem grun_cons {e : Ev} {l : List Ev} {i : Nat} {st : St} (h : gerr st e = 0) : grun (e :: l) i st = grun l (i + 1) (gnext st e i) := by rw [grun, if_pos h]
theorem set_end {α : Type} (st : List α) (x y : α) : (st ++ [x]).set st.length y = st ++ [y] := by simp
theorem get_end {α : Type} (st : List α) (x : α) : (st ++ [x])[st.length]? = some x := by simp
/-- The operations of one. -/
theorem grun_ops (r : List Ev) : ∀ (o : List Ev) (i : Nat) (st : St) (t : Tx), (∀ e ∈ o, rightB e = true ∧ itemB e.k = true ∧ e.s = t.s) →
    grun (o ++ r) i (st ++ [(t, true)]) = grun r (i + o.length) (st ++ [({ t with o := t.o ++ o }, true)])
  | [], i, st, t, _ => by simp
  | e :: o, i, st, t, h => by
    obtain ⟨h1, h2, h3⟩ := h e (List.mem_cons_self ..)
    have hk : ¬ e.k = 0 := fun x => by rw [x] at h2; simp [itemB] at h2
    have hl : lk (st ++ [(t, true)]) e.s = some st.length := by rw [lk_snoc, if_pos h3.symm]
    rw [List.cons_append, grun_cons (gerrk h1 hk hl), gnextk _ hk hl (get_end st _), h2, if_pos rfl, set_end]
    rw [grun_ops r o (i + 1) st { t with o := t.o ++ [e] } (fun y hy => h y (List.mem_cons_of_mem _ hy))]
    simp only [List.length_cons, List.append_assoc, List.singleton_append]
    congr 1
    omega
/-- As they are grouped anew. -/
def mk : List Tx → Nat → St
  | [], _ => []
  | t :: r, i => ({ t with f := (i : Nat) }, false) :: mk r (i + t.o.length + 2)
theorem mk_len : ∀ (ts : List Tx) (i : Nat), (mk ts i).length = ts.length
  | [], _ => rfl
  | t :: r, i => by simp [mk, mk_len r]
theorem mk_at : ∀ (ts : List Tx) (i j : Nat) (t : Tx), ts[j]? = some t → ∃ p : Int, ((mk ts i).map Prod.fst)[j]? = some { t with f := p }
  | t' :: r, i, 0, t, h => by simp at h; subst h; exact ⟨_, rfl⟩
  | t' :: r, i, j + 1, t, h => by
    obtain ⟨p, hp⟩ := mk_at r (i + t'.o.length + 2) j t (by simpa using h)
    exact ⟨p, by simpa [mk] using hp⟩
theorem grun_back : ∀ (ts : List Tx) (i : Nat) (st : St), (∀ t ∈ ts, good t) → (∀ x ∈ st, x.2 = false) → st.length + ts.length ≤ 32 → grun (evs ts) i st = (st ++ mk ts i, 0, 0)
  | [], i, st, _, _, _ => by simp [evs, grun, mk]
  | t :: r, i, st, hg, hc, hl => by
    obtain ⟨g1, g2, g3⟩ := hg t (List.mem_cons_self ..)
    have e0 : evs (t :: r) = ⟨0, t.s, 0, 0⟩ :: (t.o ++ (⟨if t.d then 3 else 4, t.s, 0, 0⟩ :: evs r)) := by simp [evs, evs1]
    have r0 : rightB ⟨0, t.s, 0, 0⟩ = true := by simp [rightB, itemB]; omega
    have r1 : rightB ⟨if t.d then 3 else 4, t.s, 0, 0⟩ = true := by cases t.d <;> simp [rightB, itemB] <;> omega
    have k1 : ¬ (⟨if t.d then 3 else 4, t.s, 0, 0⟩ : Ev).k = 0 := by cases t.d <;> simp
    have i1 : itemB (⟨if t.d then 3 else 4, t.s, 0, 0⟩ : Ev).k = false := by cases t.d <;> simp [itemB]
    have d1 : ((⟨if t.d then 3 else 4, t.s, 0, 0⟩ : Ev).k == 3) = t.d := by cases t.d <;> simp
    rw [e0, grun_cons (gerr0 r0 rfl (lk_closed hc _) (by simp at hl; omega)), gnext0 _ rfl]
    rw [grun_ops _ t.o (i + 1) st ⟨t.s, false, i, []⟩ g3]
    have hl2 : lk (st ++ [(({ s := t.s, d := false, f := i, o := [] ++ t.o } : Tx), true)]) t.s = some st.length := by rw [lk_snoc, if_pos rfl]
    rw [grun_cons (gerrk r1 k1 hl2), gnextk _ k1 hl2 (get_end st _), i1, if_neg (by simp), set_end, d1]
    rw [grun_back r (i + 1 + t.o.length + 1) _ (fun x hx => hg x (List.mem_cons_of_mem _ hx)) (fun x hx => by
      rcases List.mem_append.1 hx with hx | hx
      · exact hc x hx
      · simp at hx; subst hx; rfl) (by simp at hl ⊢; omega)]
    rw [show i + 1 + t.o.length + 1 = i + t.o.length + 2 from by omega]
    simp [mk]
theorem evs_sum (ts : List Tx) : (evs ts).length = tsum ts + 2 * ts.length := by
  induction ts with
  | nil => rfl
  | cons t r ih =>
    have h3 : (evs (t :: r)).length = t.o.length + 2 + (evs r).length := by simp [evs, evs1]; omega
    have h4 : tsum (t :: r) = t.o.length + tsum r := by simp [tsum]
    rw [h3, ih, h4, List.length_cons]; omega
theorem tsum_mem {ts : List Tx} {t : Tx} (h : t ∈ ts) : t.o.length ≤ tsum ts := by
  induction ts with
  | nil => cases h
  | cons x r ih =>
    have h4 : tsum (x :: r) = x.o.length + tsum r := by simp [tsum]
    rcases List.mem_cons.1 h with rfl | h
    · omega
    · have := ih h; omega

end Go.Proofs.Ytlmaloikhmkokaa
