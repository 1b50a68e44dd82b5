/- Transactions of events, in plain Lean. -/
import Derived.Test.YtlmaloikhmkokaaGrA
namespace Go.Proofs.Ytlmaloikhmkokaa

/-- A transaction: session, done, first, operations. -/
structure Tx where
  s : Int
  d : Bool
  f : Int
  o : List Ev
deriving DecidableEq
/-- Transactions, and which are open. -/
abbrev St := List (Tx × Bool)
def lastF (s : Int) : St → Nat → Option (Nat × Bool)
  | [], _ => none
  | x :: r, i => match lastF s r (i + 1) with
    | some p => some p
    | none => if x.1.s = s then some (i, x.2) else none
def lk (st : St) (s : Int) : Option Nat := match lastF s st 0 with | some (k, true) => some k | _ => none
def gerr (st : St) (e : Ev) : Int :=
  if rightB e = false then 1 else if e.k = 0 then (if (lk st e.s).isSome then 5 else if st.length = 32 then 4 else 0) else if (lk st e.s).isSome then 0 else 6
def gput (st : St) (e : Ev) (k : Nat) : St := match st[k]? with
  | none => st
  | some (t, _) => if itemB e.k then st.set k ({ t with o := t.o ++ [e] }, true) else st.set k ({ t with d := e.k == 3 }, false)
def gnext (st : St) (e : Ev) (i : Int) : St :=
  if e.k = 0 then st ++ [(⟨e.s, false, i, []⟩, true)] else match lk st e.s with
  | none => st
  | some k => gput st e k
def grun : List Ev → Nat → St → St × Int × Int
  | [], _, st => (st, 0, 0)
  | e :: l, i, st => if gerr st e = 0 then grun l (i + 1) (gnext st e i) else ([], i, gerr st e)

theorem lastF_snoc (s : Int) (x : Tx × Bool) : ∀ (st : St) (i : Nat), lastF s (st ++ [x]) i = if x.1.s = s then some (i + st.length, x.2) else lastF s st i
  | [], i => by by_cases h : x.1.s = s <;> simp [lastF, h]
  | y :: r, i => by
    rw [List.cons_append, lastF, lastF_snoc s x r (i + 1)]
    by_cases h : x.1.s = s
    · simp [h]; omega
    · simp [h, lastF]
theorem lastF_at {s : Int} : ∀ {st : St} {i k : Nat} {b : Bool}, lastF s st i = some (k, b) → i ≤ k ∧ ∃ t, st[k - i]? = some (t, b) ∧ t.s = s
  | x :: r, i, k, b, h => by
    rw [lastF] at h
    cases hr : lastF s r (i + 1) with
    | some p =>
      rw [hr] at h
      simp at h
      subst h
      obtain ⟨h1, t, h2, h3⟩ := lastF_at hr
      refine ⟨by omega, t, ?_, h3⟩
      rw [show k - i = (k - (i + 1)) + 1 from by omega]
      simpa using h2
    | none =>
      rw [hr] at h
      simp at h
      obtain ⟨h1, rfl, rfl⟩ := h
      exact ⟨Nat.le_refl _, x.1, by simp, h1⟩
theorem lastF_set {s s' : Int} {t' : Tx} (ht : t'.s = s) (b' : Bool) : ∀ {st : St} {i k : Nat} {b : Bool}, lastF s st i = some (i + k, b) → lastF s' (st.set k (t', b')) i = if s' = s then some (i + k, b') else lastF s' st i
  | x :: r, i, k, b, h => by
    rw [lastF] at h
    cases k with
    | zero =>
      cases hr : lastF s r (i + 1) with
      | some p =>
        rw [hr] at h
        simp at h
        subst h
        have := (lastF_at hr).1
        omega
      | none =>
        rw [hr] at h
        simp at h
        rw [List.set_cons_zero, lastF, lastF]
        by_cases e : s' = s
        · subst e
          simp [hr, ht]
        · have h1 : ¬ t'.s = s' := fun x => e (by omega)
          have h2 : ¬ x.1.s = s' := fun x => e (by omega)
          simp [e, h1, h2]
    | succ k =>
      cases hr : lastF s r (i + 1) with
      | some p =>
        rw [hr] at h
        simp at h
        subst h
        have ih := lastF_set (s' := s') ht b' (i := i + 1) (k := k) (b := b) (st := r) (by rw [hr]; simp; omega)
        rw [List.set_cons_succ, lastF, ih, lastF]
        by_cases e : s' = s
        · subst e
          simp; omega
        · simp [e]
      | none =>
        rw [hr] at h
        simp at h
theorem lk_at {st : St} {s : Int} {k : Nat} (h : lk st s = some k) : ∃ t, st[k]? = some (t, true) ∧ t.s = s ∧ lastF s st 0 = some (0 + k, true) := by
  unfold lk at h
  split at h
  · rename_i k' hf
    simp at h
    subst h
    obtain ⟨_, t, h2, h3⟩ := lastF_at hf
    exact ⟨t, by simpa using h2, h3, by rw [hf]; simp⟩
  · cases h
theorem lk_snoc (st : St) (t : Tx) (s : Int) : lk (st ++ [(t, true)]) s = if t.s = s then some st.length else lk st s := by
  unfold lk
  rw [lastF_snoc]
  by_cases h : t.s = s <;> simp [h]
theorem lk_set {st : St} {s : Int} {k : Nat} {t' : Tx} (b' : Bool) (h : lk st s = some k) (ht : t'.s = s) (s' : Int) : lk (st.set k (t', b')) s' = if s' = s then (if b' then some k else none) else lk st s' := by
  obtain ⟨_, _, _, hf⟩ := lk_at h
  unfold lk
  rw [lastF_set ht b' hf]
  by_cases e : s' = s
  · cases b' <;> simp [e]
  · simp [e]
/-- The walk of 'last'. -/
theorem lastF_none {s : Int} : ∀ {st : St} (i : Nat), (∀ (j : Nat) (x : Tx × Bool), st[j]? = some x → ¬ x.1.s = s) → lastF s st i = none
  | [], _, _ => rfl
  | x :: r, i, h => by
    have h0 := h 0 x rfl
    rw [lastF, lastF_none (i + 1) (fun j y hy => h (j + 1) y (by simpa using hy))]
    simp [h0]
theorem lastF_is {s : Int} : ∀ {st : St} (i k : Nat) {t : Tx} {b : Bool}, st[k]? = some (t, b) → t.s = s → (∀ (j : Nat) (x : Tx × Bool), k < j → st[j]? = some x → ¬ x.1.s = s) → lastF s st i = some (i + k, b)
  | x :: r, i, 0, t, b, hk, ht, h => by
    simp at hk
    subst hk
    rw [lastF, lastF_none (i + 1) (fun j y hy => h (j + 1) y (by omega) (by simpa using hy))]
    simp [ht]
  | x :: r, i, k + 1, t, b, hk, ht, h => by
    rw [lastF, lastF_is (i + 1) k (by simpa using hk) ht (fun j y hj hy => h (j + 1) y (by omega) (by simpa using hy))]
    simp; omega

theorem gput_len (st : St) (e : Ev) (k : Nat) : (gput st e k).length = st.length := by
  unfold gput; split
  · rfl
  · split <;> simp
theorem gnext_len (st : St) (e : Ev) (i : Int) : (gnext st e i).length ≤ st.length + 1 := by
  unfold gnext; split
  · simp
  · split
    · omega
    · rw [gput_len]; omega
theorem gerr_open {st : St} {e : Ev} (h : gerr st e = 0) (hk : ¬ e.k = 0) : ∃ k t, lk st e.s = some k ∧ st[k]? = some (t, true) ∧ t.s = e.s := by
  unfold gerr at h
  rw [if_neg hk] at h
  split at h
  · cases h
  · split at h
    · rename_i hs
      obtain ⟨k, hk'⟩ := Option.isSome_iff_exists.1 hs
      obtain ⟨t, h1, h2, _⟩ := lk_at hk'
      exact ⟨k, t, hk', h1, h2⟩
    · cases h
theorem gerr_room {st : St} {e : Ev} (h : gerr st e = 0) (hk : e.k = 0) (hl : st.length ≤ 32) : st.length < 32 ∧ lk st e.s = none := by
  unfold gerr at h
  rw [if_pos hk] at h
  split at h
  · cases h
  · split at h
    · cases h
    · rename_i hs
      split at h
      · cases h
      · exact ⟨by omega, by simpa using hs⟩
theorem gnext_room {st : St} {e : Ev} (i : Int) (h : gerr st e = 0) (hl : st.length ≤ 32) : (gnext st e i).length ≤ 32 := by
  by_cases hk : e.k = 0
  · have := (gerr_room h hk hl).1
    have := gnext_len st e i
    omega
  · unfold gnext
    rw [if_neg hk]
    split
    · exact hl
    · rw [gput_len]; exact hl

end Go.Proofs.Ytlmaloikhmkokaa
