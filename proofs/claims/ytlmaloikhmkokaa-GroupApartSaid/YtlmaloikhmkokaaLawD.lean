/- GroupApart's law, in plain Lean. -/
import Derived.Test.YtlmaloikhmkokaaLawC
namespace Go.Proofs.Ytlmaloikhmkokaa

def fs (s : Int) (st : St) : St := st.filter fun x => x.1.s == s
theorem fs_none {s : Int} : ∀ {st : St} {i : Nat}, lastF s st i = none → fs s st = []
  | [], _, _ => rfl
  | x :: r, i, h => by
    rw [lastF] at h
    cases hr : lastF s r (i + 1) with
    | some p => rw [hr] at h; cases h
    | none =>
      rw [hr] at h
      simp at h
      have := fs_none hr
      unfold fs at this ⊢
      rw [List.filter_cons, if_neg (by simpa using h)]
      exact this
theorem fs_some {s : Int} : ∀ {st : St} {i k : Nat} {b : Bool}, lastF s st i = some (i + k, b) → ∃ F0 t, t.s = s ∧ fs s st = F0 ++ [(t, b)] ∧ st[k]? = some (t, b) ∧ ∀ t' b', t'.s = s → fs s (st.set k (t', b')) = F0 ++ [(t', b')]
  | x :: r, i, k, b, h => by
    rw [lastF] at h
    cases hr : lastF s r (i + 1) with
    | some p =>
      rw [hr] at h
      simp at h
      subst h
      have hge := (lastF_at hr).1
      obtain ⟨k, rfl⟩ : ∃ k', k = k' + 1 := ⟨k - 1, by omega⟩
      obtain ⟨F0, t, h1, h2, h3, h4⟩ := fs_some (st := r) (i := i + 1) (k := k) (b := b) (by rw [hr]; simp; omega)
      by_cases hx : x.1.s = s
      · refine ⟨x :: F0, t, h1, ?_, by simpa using h3, fun t' b' ht => ?_⟩
        · unfold fs at h2 ⊢; rw [List.filter_cons, if_pos (by simpa using hx), h2]; rfl
        · have := h4 t' b' ht
          unfold fs at this ⊢; rw [List.set_cons_succ, List.filter_cons, if_pos (by simpa using hx), this]; rfl
      · refine ⟨F0, t, h1, ?_, by simpa using h3, fun t' b' ht => ?_⟩
        · unfold fs at h2 ⊢; rw [List.filter_cons, if_neg (by simpa using hx), h2]
        · have := h4 t' b' ht
          unfold fs at this ⊢; rw [List.set_cons_succ, List.filter_cons, if_neg (by simpa using hx), this]
    | none =>
      rw [hr] at h
      simp at h
      obtain ⟨hx, hk, hb⟩ := h
      obtain rfl : k = 0 := by omega
      have hn := fs_none hr
      refine ⟨[], x.1, hx, ?_, by simp [← hb], fun t' b' ht => ?_⟩
      · unfold fs at hn ⊢; rw [List.filter_cons, if_pos (by simpa using hx), hn, ← hb]; rfl
      · unfold fs at hn ⊢; rw [List.set_cons_zero, List.filter_cons, if_pos (by simpa using ht), hn]; rfl
theorem fs_other {s : Int} {t t' : Tx} {b b' : Bool} (h : ¬ t.s = s) (h' : ¬ t'.s = s) : ∀ {st : St} {k : Nat}, st[k]? = some (t, b) → fs s (st.set k (t', b')) = fs s st
  | x :: r, 0, hk => by
    simp at hk; subst hk
    unfold fs
    rw [List.set_cons_zero, List.filter_cons, List.filter_cons, if_neg (by simpa using h'), if_neg (by simpa using h)]
  | x :: r, k + 1, hk => by
    have ih := fs_other h h' (b := b) (b' := b') (st := r) (k := k) (by simpa using hk)
    unfold fs at ih ⊢
    rw [List.set_cons_succ, List.filter_cons, List.filter_cons, ih]

/-- Two entries that belong together. -/
def Pair (s : Int) (pl : List Int) (x y : Tx × Bool) : Prop := x.1.s = s ∧ y.1.s = s ∧ x.1.d = y.1.d ∧ x.1.o = y.1.o ∧ x.2 = y.2 ∧ ∃ p : Nat, y.1.f = (p : Nat) ∧ pl[p]? = some x.1.f
/-- Rows of them. -/
def Rows2 (s : Int) (pl : List Int) (F G : St) : Prop := F.length = G.length ∧ ∀ (k : Nat) (x y : Tx × Bool), F[k]? = some x → G[k]? = some y → Pair s pl x y
theorem Pair.more {s : Int} {pl : List Int} {x y : Tx × Bool} (h : Pair s pl x y) (m : List Int) : Pair s (pl ++ m) x y := by
  obtain ⟨h1, h2, h3, h4, h5, p, h6, h7⟩ := h
  exact ⟨h1, h2, h3, h4, h5, p, h6, by rw [List.getElem?_append_left (List.getElem?_eq_some_iff.1 h7).1]; exact h7⟩
theorem Rows2.more {s : Int} {pl : List Int} {F G : St} (h : Rows2 s pl F G) (m : List Int) : Rows2 s (pl ++ m) F G := ⟨h.1, fun k x y hx hy => (h.2 k x y hx hy).more m⟩
theorem Rows2.snoc {s : Int} {pl : List Int} {F G : St} (h : Rows2 s pl F G) {x y : Tx × Bool} (hp : Pair s pl x y) : Rows2 s pl (F ++ [x]) (G ++ [y]) := by
  refine ⟨by simp [h.1], fun k a b ha hb => ?_⟩
  rcases Nat.lt_or_ge k F.length with hk | hk
  · rw [List.getElem?_append_left hk] at ha
    rw [List.getElem?_append_left (by rw [← h.1]; exact hk)] at hb
    exact h.2 k a b ha hb
  · have hk2 : k = F.length := by
      have := (List.getElem?_eq_some_iff.1 ha).1
      simp at this; omega
    subst hk2
    rw [get_end] at ha
    rw [h.1, get_end] at hb
    cases ha; cases hb
    exact hp
theorem Rows2.split {s : Int} {pl : List Int} {F0 G : St} {x : Tx × Bool} (h : Rows2 s pl (F0 ++ [x]) G) : ∃ G0 y, G = G0 ++ [y] ∧ Rows2 s pl F0 G0 ∧ Pair s pl x y := by
  have hl := h.1
  rw [List.length_append, List.length_singleton] at hl
  have hne : G ≠ [] := fun e => by rw [e] at hl; simp at hl
  have hG := (List.dropLast_concat_getLast hne).symm
  obtain ⟨G0, hG0⟩ : ∃ G0, G0 = G.dropLast := ⟨_, rfl⟩
  obtain ⟨y, hy⟩ : ∃ y, y = G.getLast hne := ⟨_, rfl⟩
  rw [← hG0, ← hy] at hG
  subst hG
  simp at hl
  refine ⟨G0, y, rfl, ⟨hl, fun k a b ha hb => ?_⟩, ?_⟩
  · have hk := (List.getElem?_eq_some_iff.1 ha).1
    exact h.2 k a b (by rw [List.getElem?_append_left hk]; exact ha) (by rw [List.getElem?_append_left (by omega)]; exact hb)
  · exact h.2 F0.length x y (get_end _ _) (by rw [hl, get_end])

def own (s : Int) (l : List Ev) : List Ev := l.filter fun e => e.s == s
def pls (s : Int) : List Ev → Nat → List Int
  | [], _ => []
  | e :: r, i => if e.s = s then (i : Int) :: pls s r (i + 1) else pls s r (i + 1)
theorem own_snoc (s : Int) (l : List Ev) (e : Ev) : own s (l ++ [e]) = if e.s = s then own s l ++ [e] else own s l := by
  unfold own; by_cases h : e.s = s <;> simp [h]
theorem pls_snoc (s : Int) (e : Ev) : ∀ (l : List Ev) (i : Nat), pls s (l ++ [e]) i = if e.s = s then pls s l i ++ [((i + l.length : Nat) : Int)] else pls s l i
  | [], i => by by_cases h : e.s = s <;> simp [pls, h]
  | x :: r, i => by
    rw [List.cons_append, pls, pls_snoc s e r (i + 1), pls]
    by_cases h : e.s = s
    · by_cases hx : x.s = s <;> simp [h, hx] <;> omega
    · by_cases hx : x.s = s <;> simp [h, hx]
theorem pls_len (s : Int) : ∀ (l : List Ev) (i : Nat), (pls s l i).length = (own s l).length
  | [], _ => rfl
  | x :: r, i => by
    rw [pls]
    have := pls_len s r (i + 1)
    unfold own at this ⊢
    by_cases hx : x.s = s <;> simp [hx, this]

theorem lk_end {s : Int} {G0 : St} {y : Tx × Bool} (hy : y.1.s = s) : lk (G0 ++ [y]) s = if y.2 then some G0.length else none := by
  unfold lk
  rw [lastF_snoc, if_pos hy]
  cases y.2 <;> simp

theorem sim (s : Int) : ∀ (l : List Ev) (i : Nat) (st st' : St) (pl : List Int), Rows2 s pl (fs s st) st' → st.length ≤ 32 → (grun l i st).2.2 = 0 →
    (grun (own s l) pl.length st').2.2 = 0 ∧ Rows2 s (pl ++ pls s l i) (fs s (grun l i st).1) (grun (own s l) pl.length st').1
  | [], i, st, st', pl, h, _, _ => ⟨rfl, by simpa [pls, own, grun] using h⟩
  | e :: l, i, st, st', pl, h, hl, hr => by
    by_cases hc : gerr st e = 0
    · rw [grun_cons hc] at hr ⊢
      have hroom := gnext_room (i : Int) hc hl
      by_cases hs : e.s = s
      · have ho : own s (e :: l) = e :: own s l := by unfold own; simp [hs]
        have hp : pls s (e :: l) i = (i : Int) :: pls s l (i + 1) := by rw [pls, if_pos hs]
        have hrt := gerr_right hc
        have hfl : (fs s st).length ≤ st.length := List.length_filter_le _ _
        suffices hk : gerr st' e = 0 ∧ Rows2 s (pl ++ [(i : Int)]) (fs s (gnext st e i)) (gnext st' e pl.length) by
          obtain ⟨q1, q2⟩ := sim s l (i + 1) _ _ (pl ++ [(i : Int)]) hk.2 hroom hr
          rw [List.length_append, List.length_singleton] at q1 q2
          rw [ho, grun_cons hk.1, hp]
          refine ⟨q1, ?_⟩
          rw [List.append_assoc] at q2
          exact q2
        by_cases hk : e.k = 0
        · obtain ⟨h32, hn⟩ := gerr_room hc hk hl
          have hn' : lk st' e.s = none := by
            rw [hs] at hn ⊢
            unfold lk at hn
            cases hf : lastF s st 0 with
            | none =>
              have := fs_none hf
              rw [this] at h
              have : st' = [] := List.eq_nil_of_length_eq_zero h.1.symm
              rw [this]; rfl
            | some p =>
              obtain ⟨k, b⟩ := p
              cases b
              · obtain ⟨F0, t, _, h2, _⟩ := fs_some (i := 0) (k := k) (b := false) (by rw [hf]; simp)
                rw [h2] at h
                obtain ⟨G0, y, rfl, _, hy⟩ := h.split
                rw [lk_end hy.2.1, ← hy.2.2.2.2.1]
                rfl
              · rw [hf] at hn; cases hn
          have hlen : st'.length < 32 := by rw [← h.1]; omega
          refine ⟨gerr0 hrt hk hn' (by omega), ?_⟩
          rw [gnext0 _ hk, gnext0 _ hk]
          have hf2 : fs s (st ++ [(⟨e.s, false, (i : Nat), []⟩, true)]) = fs s st ++ [(⟨e.s, false, (i : Nat), []⟩, true)] := by unfold fs; simp [hs]
          rw [hf2]
          exact (h.more _).snoc ⟨hs, hs, rfl, rfl, rfl, pl.length, rfl, get_end _ _⟩
        · obtain ⟨j, t, h1, h2, h5⟩ := gerr_open hc hk
          obtain ⟨_, _, _, hf⟩ := lk_at h1
          rw [hs] at hf
          obtain ⟨F0, t2, g1, g2, g3, g4⟩ := fs_some hf
          rw [h2] at g3
          cases g3
          rw [g2] at h
          obtain ⟨G0, y, rfl, hG, hy⟩ := h.split
          obtain ⟨ty, by'⟩ := y
          obtain ⟨y1, y2, y3, y4, y5, p, y6, y7⟩ := hy
          simp only at y1 y2 y3 y4 y5 y6 y7
          subst y5
          have hl' : lk (G0 ++ [(ty, true)]) e.s = some G0.length := by rw [hs, lk_end y2]; rfl
          refine ⟨gerrk hrt hk hl', ?_⟩
          have y7' : (pl ++ [(i : Int)])[p]? = some t.f := by rw [List.getElem?_append_left (List.getElem?_eq_some_iff.1 y7).1]; exact y7
          rw [gnextk _ hk h1 h2, gnextk _ hk hl' (get_end _ _), set_end, set_end]
          cases itemB e.k
          · rw [if_neg (by simp), if_neg (by simp), g4 _ _ (by exact y1)]
            exact (hG.more _).snoc ⟨y1, y2, rfl, y4, rfl, p, y6, y7'⟩
          · rw [if_pos rfl, if_pos rfl, g4 _ _ (by exact y1)]
            exact (hG.more _).snoc ⟨y1, y2, y3, by simp [y4], rfl, p, y6, y7'⟩
      · have ho : own s (e :: l) = own s l := by unfold own; simp [hs]
        have hp : pls s (e :: l) i = pls s l (i + 1) := by rw [pls, if_neg hs]
        have hf : fs s (gnext st e i) = fs s st := by
          by_cases hk : e.k = 0
          · rw [gnext0 _ hk]; unfold fs; simp [hs]
          · obtain ⟨j, t, h1, h2, h5⟩ := gerr_open hc hk
            rw [gnextk _ hk h1 h2]
            split
            · exact fs_other (by rw [h5]; exact hs) (by rw [← h5] at hs; exact hs) h2
            · exact fs_other (by rw [h5]; exact hs) (by rw [← h5] at hs; exact hs) h2
        rw [ho, hp]
        exact sim s l (i + 1) _ st' pl (by rw [hf]; exact h) hroom hr
    · rw [grun, if_neg hc] at hr
      exact absurd hr hc

end Go.Proofs.Ytlmaloikhmkokaa
