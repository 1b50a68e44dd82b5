/- Numbers as bytes: what the packages compute, in plain Lean; no program in sight. -/
import Derived.Test.YtgjgonnlkponiaaBase
namespace Go.Proofs.Ytgjgonnlkponiaa

def hib (c : UInt8) : Bool := decide (128 ≤ c.toNat)
theorem hib_iff {c : UInt8} : hib c = true ↔ 128 ≤ c.toNat := by simp [hib]

/-- A number's bytes. -/
def enc7 (n : Nat) : List UInt8 :=
  if h : n < 128 then [UInt8.ofNat n] else UInt8.ofNat (128 + n % 128) :: enc7 (n / 128)
termination_by n
decreasing_by omega
theorem enc7_small {n : Nat} (h : n < 128) : enc7 n = [UInt8.ofNat n] := by rw [enc7, dif_pos h]
theorem enc7_big {n : Nat} (h : ¬ n < 128) : enc7 n = UInt8.ofNat (128 + n % 128) :: enc7 (n / 128) := by rw [enc7, dif_neg h]
theorem enc7_len : ∀ (k n : Nat), n < 128 ^ (k + 1) → (enc7 n).length ≤ k + 1
  | 0, n, h => by rw [enc7_small (by simpa using h)]; simp
  | k + 1, n, h => by
    by_cases h1 : n < 128
    · rw [enc7_small h1]; simp
    · rw [enc7_big h1]
      have := enc7_len k (n / 128) (by rw [Nat.pow_succ] at h; omega)
      simp; omega
theorem enc7_five {n : Nat} (h : n ≤ 2147483648) : (enc7 n).length ≤ 5 := enc7_len 4 n (by omega)
theorem enc7_ne (n : Nat) : enc7 n ≠ [] := by
  by_cases h : n < 128
  · rw [enc7_small h]; simp
  · rw [enc7_big h]; simp

/-- The number of bytes. -/
def v7 : List UInt8 → Nat
  | [] => 0
  | c :: r => c.toNat % 128 + 128 * v7 r
theorem v7_snoc (l : List UInt8) (c : UInt8) : v7 (l ++ [c]) = v7 l + (c.toNat % 128) * 128 ^ l.length := by
  induction l with
  | nil => simp [v7]
  | cons a l ih =>
    simp only [List.cons_append, v7, ih, List.length_cons, Nat.pow_succ]
    rw [Nat.mul_add, ← Nat.mul_assoc, Nat.mul_comm 128 (c.toNat % 128), Nat.mul_assoc, Nat.mul_comm 128 (128 ^ l.length)]
    omega
theorem v7_lt (l : List UInt8) : v7 l < 128 ^ l.length := by
  induction l with
  | nil => simp [v7]
  | cons a l ih => simp only [v7, List.length_cons, Nat.pow_succ]; omega

/-- The form of a number's bytes: all but the last are great, the last is not, and is no 0 that could be left out. -/
structure Form (hs : List UInt8) (c : UInt8) : Prop where
  hi : ∀ x ∈ hs, 128 ≤ x.toNat
  lo : c.toNat < 128
  nz : hs ≠ [] → c.toNat ≠ 0
theorem enc7_form (n : Nat) : ∃ hs c, enc7 n = hs ++ [c] ∧ Form hs c ∧ v7 (hs ++ [c]) = n ∧ (1 ≤ n → 1 ≤ c.toNat) := by
  induction n using Nat.strongRecOn with
  | _ n ih =>
    by_cases h : n < 128
    · have ht : (UInt8.ofNat n).toNat = n := by simp; omega
      refine ⟨[], UInt8.ofNat n, by rw [enc7_small h]; rfl, ⟨by simp, by rw [ht]; exact h, fun e => absurd rfl e⟩, ?_, by rw [ht]; exact id⟩
      simp [v7]; omega
    · obtain ⟨hs, c, h1, h2, h3, h4⟩ := ih (n / 128) (by omega)
      have ht : (UInt8.ofNat (128 + n % 128)).toNat = 128 + n % 128 := by simp; omega
      refine ⟨UInt8.ofNat (128 + n % 128) :: hs, c, by rw [enc7_big h, h1]; rfl, ⟨?_, h2.lo, fun _ => by have := h4 (by omega); omega⟩, ?_, fun _ => h4 (by omega)⟩
      · intro x hx
        rcases List.mem_cons.1 hx with rfl | hx
        · rw [ht]; omega
        · exact h2.hi x hx
      · simp only [List.cons_append, v7, h3, ht]; omega
theorem form_pos {hs : List UInt8} {c : UInt8} (h : 1 ≤ c.toNat) (hc : c.toNat < 128) : 1 ≤ v7 (hs ++ [c]) := by
  induction hs with
  | nil => simp [v7]; omega
  | cons a r ih => simp only [List.cons_append, v7]; omega
theorem enc7_of_form {hs : List UInt8} {c : UInt8} (h : Form hs c) : enc7 (v7 (hs ++ [c])) = hs ++ [c] := by
  induction hs with
  | nil =>
    have : c.toNat % 128 + 128 * 0 = c.toNat := by have := h.lo; omega
    simp only [List.nil_append, v7, this]
    rw [enc7_small h.lo]; simp
  | cons a r ih =>
    have ha := h.hi a (List.mem_cons_self ..)
    have hal := a.toNat_lt
    have hnz := h.nz (by simp)
    have hp := form_pos (hs := r) (c := c) (by omega) h.lo
    have := ih ⟨fun x hx => h.hi x (List.mem_cons_of_mem _ hx), h.lo, fun _ => hnz⟩
    simp only [List.cons_append, v7]
    rw [enc7_big (by omega), show (a.toNat % 128 + 128 * v7 (r ++ [c])) / 128 = v7 (r ++ [c]) by omega, show 128 + (a.toNat % 128 + 128 * v7 (r ++ [c])) % 128 = a.toNat by omega, this]
    simp

/-! ### the number at the front -/
def hiN (l : List UInt8) : Nat := (l.takeWhile hib).length
def nxE (l : List UInt8) (most : Nat) : Int :=
  if 5 ≤ hiN l then 2 else if hiN l = l.length then 16 else if (0 < hiN l ∧ l[hiN l]? = some 0) ∨ most < v7 (l.take (hiN l + 1)) then 2 else 0
def nxN (l : List UInt8) (most : Nat) : Int := if nxE l most = 0 then (v7 (l.take (hiN l + 1)) : Nat) else 0
def nxR (l : List UInt8) (most : Nat) : List UInt8 := if nxE l most = 0 then l.drop (hiN l + 1) else []
/-- The first k are great. -/
def Hi (l : List UInt8) (k : Nat) : Prop := ∀ j c, j < k → l[j]? = some c → 128 ≤ c.toNat
theorem Hi.step {l : List UInt8} {k : Nat} {c : UInt8} (h : Hi l k) (hc : l[k]? = some c) (hd : 128 ≤ c.toNat) : Hi l (k + 1) := fun j x hj hx => by
  by_cases e : j = k
  · subst e
    rw [hc] at hx
    obtain rfl := Option.some.inj hx
    exact hd
  · exact h j x (by omega) hx
theorem hiN_le (l : List UInt8) : hiN l ≤ l.length := by
  induction l with
  | nil => simp [hiN]
  | cons a l ih =>
    unfold hiN at ih ⊢
    rw [List.takeWhile_cons]
    split
    · simp; exact ih
    · simp
theorem hiN_ge {l : List UInt8} {k : Nat} (h : Hi l k) (hl : k ≤ l.length) : k ≤ hiN l := by
  induction l generalizing k with
  | nil => simp at hl; omega
  | cons a l ih =>
    cases k with
    | zero => exact Nat.zero_le _
    | succ k =>
      have ha := h 0 a (by omega) rfl
      have := ih (k := k) (fun j c hj hc => h (j + 1) c (by omega) (by simpa using hc)) (by simp at hl; omega)
      unfold hiN at this ⊢
      rw [List.takeWhile_cons, if_pos (hib_iff.2 ha)]
      simp; exact this
theorem hiN_eq {l : List UInt8} {k : Nat} (h : Hi l k) (hk : ∀ c, l[k]? = some c → c.toNat < 128) (hl : k ≤ l.length) : hiN l = k := by
  induction l generalizing k with
  | nil => simp [hiN]; simp at hl; omega
  | cons a l ih =>
    cases k with
    | zero =>
      have ha := hk a rfl
      unfold hiN
      rw [List.takeWhile_cons, if_neg (by rw [hib_iff]; omega)]
      rfl
    | succ k =>
      have ha := h 0 a (by omega) rfl
      have := ih (k := k) (fun j c hj hc => h (j + 1) c (by omega) (by simpa using hc)) (fun c hc => hk c (by simpa using hc)) (by simp at hl; omega)
      unfold hiN at this ⊢
      rw [List.takeWhile_cons, if_pos (hib_iff.2 ha)]
      simp [this]
theorem hiN_hi (l : List UInt8) : Hi l (hiN l) := by
  induction l with
  | nil => intro j c _ h; simp at h
  | cons a l ih =>
    intro j c hj hc
    unfold hiN at hj
    rw [List.takeWhile_cons] at hj
    split at hj
    · rename_i ha
      cases j with
      | zero => obtain rfl := Option.some.inj hc; exact hib_iff.1 ha
      | succ j => exact ih j c (by unfold hiN; simp at hj; omega) (by simpa using hc)
    · simp at hj
theorem hiN_lo (l : List UInt8) : ∀ c, l[hiN l]? = some c → c.toNat < 128 := by
  induction l with
  | nil => intro c h; simp at h
  | cons a l ih =>
    intro c hc
    unfold hiN at hc ih
    rw [List.takeWhile_cons] at hc
    split at hc
    · exact ih c (by simpa using hc)
    · rename_i ha
      simp at hc
      subst hc
      rw [hib_iff] at ha; omega

theorem nx_five {l : List UInt8} (most : Nat) (h : Hi l 5) (hl : 5 ≤ l.length) : nxE l most = 2 := by
  unfold nxE; rw [if_pos (hiN_ge h hl)]
theorem nx_short {l : List UInt8} (most : Nat) (h : Hi l l.length) (hl : l.length < 5) : nxE l most = 16 := by
  have : hiN l = l.length := Nat.le_antisymm (hiN_le l) (hiN_ge h (Nat.le_refl _))
  unfold nxE; rw [if_neg (by omega), if_pos this]
theorem nx_form {l : List UInt8} {k : Nat} {c : UInt8} (most : Nat) (h : Hi l k) (hk : k < 5) (hc : l[k]? = some c) (hlo : c.toNat < 128) (hb : (0 < k ∧ c.toNat = 0) ∨ most < v7 (l.take (k + 1))) : nxE l most = 2 := by
  have hkl := (List.getElem?_eq_some_iff.1 hc).1
  have e := hiN_eq h (fun x hx => by rw [hc] at hx; obtain rfl := Option.some.inj hx; exact hlo) (by omega)
  unfold nxE
  rw [e, if_neg (by omega), if_neg (by omega), if_pos]
  rcases hb with ⟨h1, h2⟩ | h1
  · exact .inl ⟨h1, by rw [hc]; congr 1; exact UInt8.toNat_inj.1 (by simpa using h2)⟩
  · exact .inr h1
theorem nx_ok {l : List UInt8} {k : Nat} {c : UInt8} (most : Nat) (h : Hi l k) (hk : k < 5) (hc : l[k]? = some c) (hlo : c.toNat < 128) (hb : ¬ ((0 < k ∧ c.toNat = 0) ∨ most < v7 (l.take (k + 1)))) :
    nxE l most = 0 ∧ nxN l most = (v7 (l.take (k + 1)) : Nat) ∧ nxR l most = l.drop (k + 1) := by
  have hkl := (List.getElem?_eq_some_iff.1 hc).1
  have e := hiN_eq h (fun x hx => by rw [hc] at hx; obtain rfl := Option.some.inj hx; exact hlo) (by omega)
  have hE : nxE l most = 0 := by
    unfold nxE
    rw [e, if_neg (by omega), if_neg (by omega), if_neg]
    rintro (⟨h1, h2⟩ | h1)
    · rw [hc] at h2
      have := congrArg UInt8.toNat (Option.some.inj h2)
      exact hb (.inl ⟨h1, by simpa using this⟩)
    · exact hb (.inr h1)
  unfold nxN nxR
  rw [hE, e]
  simp
theorem nx_err {l : List UInt8} {most : Nat} (h : nxE l most ≠ 0) : nxN l most = 0 ∧ nxR l most = [] := by simp [nxN, nxR, h]
theorem nx_kinds (l : List UInt8) (most : Nat) : nxE l most = 0 ∨ nxE l most = 2 ∨ nxE l most = 16 := by
  unfold nxE
  split
  · simp
  · split
    · simp
    · split <;> simp
/-- What is well is the bytes of its number. -/
theorem nx_zero {l : List UInt8} {most : Nat} (h : nxE l most = 0) : ∃ n : Nat, nxN l most = n ∧ n ≤ most ∧ l = enc7 n ++ nxR l most := by
  have hN : nxN l most = (v7 (l.take (hiN l + 1)) : Nat) := by simp [nxN, h]
  have hR : nxR l most = l.drop (hiN l + 1) := by simp [nxR, h]
  unfold nxE at h
  split at h
  · cases h
  split at h
  · cases h
  rename_i h5 hlen
  split at h
  · cases h
  rename_i hb
  have hlt : hiN l < l.length := Nat.lt_of_le_of_ne (hiN_le l) hlen
  have hc : l[hiN l]? = some l[hiN l] := List.getElem?_eq_getElem hlt
  have e : l.take (hiN l + 1) = l.take (hiN l) ++ [l[hiN l]] := by rw [List.take_add_one, hc]; rfl
  have hF : Form (l.take (hiN l)) l[hiN l] := ⟨fun x hx => by
      obtain ⟨j, hj, rfl⟩ := List.mem_iff_getElem.1 hx
      simp only [List.length_take] at hj
      exact hiN_hi l j _ (by omega) (by rw [List.getElem_take]; exact List.getElem?_eq_getElem (by omega)), hiN_lo l _ hc, fun hne e0 => by
      refine hb (.inl ⟨?_, ?_⟩)
      · rcases Nat.eq_zero_or_pos (hiN l) with h0 | h0
        · exact absurd (by rw [h0]; rfl) hne
        · exact h0
      · rw [hc]; congr 1; exact UInt8.toNat_inj.1 (by simpa using e0)⟩
  refine ⟨_, hN, ?_, ?_⟩
  · rcases Nat.lt_or_ge most (v7 (l.take (hiN l + 1))) with h1 | h1
    · exact absurd (.inr h1) hb
    · exact h1
  · rw [hR, e, enc7_of_form hF, ← e, List.take_append_drop]
theorem hi_app {hs r : List UInt8} (h : ∀ x ∈ hs, 128 ≤ x.toNat) : Hi (hs ++ r) hs.length := fun j c hj hc => by
  rw [List.getElem?_append_left hj] at hc
  exact h c (List.mem_of_getElem? hc)
/-- What was put stands at the front. -/
theorem nx_enc (n most : Nat) (r : List UInt8) (hn : n ≤ 2147483648) (hm : n ≤ most) : nxE (enc7 n ++ r) most = 0 ∧ nxN (enc7 n ++ r) most = n ∧ nxR (enc7 n ++ r) most = r := by
  obtain ⟨hs, c, h1, h2, h3, _⟩ := enc7_form n
  have hl := enc7_five hn
  rw [h1] at hl
  simp at hl
  have ht : (hs ++ [c] ++ r).take (hs.length + 1) = hs ++ [c] := by
    rw [List.take_append_of_le_length (by simp)]
    exact List.take_of_length_le (by simp)
  have := nx_ok (l := hs ++ [c] ++ r) (k := hs.length) (c := c) most (by rw [List.append_assoc]; exact hi_app h2.hi) (by omega) (by simp) h2.lo (by
    rw [ht, h3]
    rintro (⟨a, b⟩ | a)
    · exact h2.nz (fun e => by rw [e] at a; simp at a) b
    · omega)
  rw [ht, h3] at this
  rw [h1]
  refine ⟨this.1, this.2.1, ?_⟩
  rw [this.2.2, List.append_assoc, show hs.length + 1 = hs.length + 1 from rfl, ← List.drop_drop, List.drop_left]
  rfl
/-- A front of what was put is too short. -/
theorem nx_front (n most : Nat) (p q : List UInt8) (hn : n ≤ 2147483648) (h : enc7 n = p ++ q) (hq : q ≠ []) : nxE p most = 16 := by
  obtain ⟨hs, c, h1, h2, _, _⟩ := enc7_form n
  have hl := enc7_five hn
  rw [h] at hl h1
  simp at hl
  have hq1 : 1 ≤ q.length := by
    cases q with
    | nil => exact absurd rfl hq
    | cons _ _ => simp
  have hpl : p.length ≤ hs.length := by
    have := congrArg List.length h1
    simp at this
    omega
  refine nx_short most ?_ (by omega)
  intro j x hj hx
  have h3 : (p ++ q)[j]? = some x := by rw [List.getElem?_append_left hj]; exact hx
  rw [h1, List.getElem?_append_left (by omega)] at h3
  exact h2.hi x (List.mem_of_getElem? h3)

/-! ### Put -/
def okN (x : Int) : Bool := decide (-1 ≤ x ∧ x ≤ 2147483647)
def encL (l : List Int) : List UInt8 := l.flatMap fun x => enc7 (x + 1).toNat
theorem encL_app (l m : List Int) : encL (l ++ m) = encL l ++ encL m := by simp [encL]
theorem encL_one (x : Int) : encL [x] = enc7 (x + 1).toNat := by simp [encL]
theorem encL_len {l : List Int} (h : l.all okN = true) : (encL l).length ≤ 5 * l.length := by
  induction l with
  | nil => simp [encL]
  | cons x l ih =>
    simp only [List.all_cons, Bool.and_eq_true] at h
    have hx : -1 ≤ x ∧ x ≤ 2147483647 := by simpa [okN] using h.1
    have h1 := ih h.2
    have h2 := enc7_five (n := (x + 1).toNat) (by omega)
    have : encL (x :: l) = enc7 (x + 1).toNat ++ encL l := by simp [encL]
    rw [this]
    simp; omega
def putE (l : List Int) : Int := if 100000 < l.length then 4 else if l.all okN then 0 else 1
def putL (l : List Int) : List UInt8 := if putE l = 0 then enc7 l.length ++ encL l else []
theorem putE_many {l : List Int} (h : 100000 < l.length) : putE l = 4 ∧ putL l = [] := by
  have : putE l = 4 := by simp [putE, h]
  simp [putL, this]
theorem putE_no {l : List Int} (h : ¬ 100000 < l.length) (k : Nat) (x : Int) (hx : l[k]? = some x) (hr : okN x = false) : putE l = 1 ∧ putL l = [] := by
  have h1 : l.all okN = false := List.all_eq_false.2 ⟨x, List.mem_of_getElem? hx, by simp [hr]⟩
  have : putE l = 1 := by simp [putE, h, h1]
  simp [putL, this]
theorem putE_ok {l : List Int} (h : ¬ 100000 < l.length) (hr : l.all okN = true) : putE l = 0 ∧ putL l = enc7 l.length ++ encL l := by
  have : putE l = 0 := by simp [putE, h, hr]
  simp [putL, this]
theorem putE_zero {l : List Int} (h : putE l = 0) : l.length ≤ 100000 ∧ l.all okN = true ∧ putL l = enc7 l.length ++ encL l := by
  have hp : putL l = enc7 l.length ++ encL l := by simp [putL, h]
  unfold putE at h
  split at h
  · cases h
  · split at h
    · exact ⟨by omega, by assumption, hp⟩
    · cases h
theorem putL_err {l : List Int} (h : putE l ≠ 0) : putL l = [] := by simp [putL, h]

/-! ### Get -/
def top : Nat := 2147483648
def gtE : Nat → List UInt8 → Int
  | 0, l => if l = [] then 0 else 2
  | k + 1, l => if nxE l top = 0 then gtE k (nxR l top) else nxE l top
def gtL : Nat → List UInt8 → List Int
  | 0, _ => []
  | k + 1, l => (nxN l top - 1) :: gtL k (nxR l top)
def getE (l : List UInt8) : Int := if nxE l 100000 = 0 then gtE (nxN l 100000).toNat (nxR l 100000) else nxE l 100000
def getL (l : List UInt8) : List Int := if getE l = 0 then gtL (nxN l 100000).toNat (nxR l 100000) else []
theorem getL_err {l : List UInt8} (h : getE l ≠ 0) : getL l = [] := by simp [getL, h]
theorem gtL_len : ∀ (k : Nat) (l : List UInt8), (gtL k l).length = k
  | 0, _ => rfl
  | k + 1, l => by simp [gtL, gtL_len k]
theorem gt_kinds : ∀ (k : Nat) (l : List UInt8), gtE k l = 0 ∨ gtE k l = 2 ∨ gtE k l = 16
  | 0, l => by unfold gtE; split <;> simp
  | k + 1, l => by
    unfold gtE
    split
    · exact gt_kinds k _
    · exact nx_kinds l top
theorem get_kinds (l : List UInt8) : getE l = 0 ∨ getE l = 2 ∨ getE l = 16 := by
  unfold getE
  split
  · exact gt_kinds _ _
  · exact nx_kinds l _
/-- What is well is what was put. -/
theorem gt_zero : ∀ (k : Nat) (l : List UInt8), gtE k l = 0 → (gtL k l).all okN = true ∧ l = encL (gtL k l)
  | 0, l, h => by
    unfold gtE at h
    split at h
    · rename_i e; subst e; exact ⟨rfl, rfl⟩
    · cases h
  | k + 1, l, h => by
    unfold gtE at h
    split at h
    · rename_i he
      obtain ⟨n, hn, hm, hl⟩ := nx_zero he
      obtain ⟨h1, h2⟩ := gt_zero k _ h
      unfold top at hm
      refine ⟨?_, ?_⟩
      · simp only [gtL, List.all_cons, h1, hn, Bool.and_true]
        simp [okN]; omega
      · have : encL (gtL (k + 1) l) = enc7 n ++ encL (gtL k (nxR l top)) := by
          simp only [gtL, hn, encL, List.flatMap_cons, show ((n : Int) - 1 + 1).toNat = n by omega]
        rw [this, ← h2]; exact hl
    · rename_i he; exact absurd h he
theorem get_zero {l : List UInt8} (h : getE l = 0) : (getL l).all okN = true ∧ (getL l).length ≤ 100000 ∧ putL (getL l) = l ∧ putE (getL l) = 0 := by
  have hL : getL l = gtL (nxN l 100000).toNat (nxR l 100000) := by simp [getL, h]
  unfold getE at h
  split at h
  · rename_i he
    obtain ⟨n, hn, hm, hl⟩ := nx_zero he
    obtain ⟨h1, h2⟩ := gt_zero _ _ h
    rw [hn, Int.toNat_natCast] at hL h1 h2
    have hlen : (getL l).length = n := by rw [hL, gtL_len]
    have hp := putE_ok (l := getL l) (by omega) (by rw [hL]; exact h1)
    refine ⟨by rw [hL]; exact h1, by omega, ?_, hp.1⟩
    rw [hp.2, hlen, hL, ← h2]
    exact hl.symm
  · rename_i he; exact absurd h he
theorem encL_cons (x : Int) (l : List Int) : encL (x :: l) = enc7 (x + 1).toNat ++ encL l := by simp [encL]
theorem okN_le {x : Int} (h : okN x = true) : (x + 1).toNat ≤ 2147483648 ∧ (((x + 1).toNat : Nat) : Int) - 1 = x := by
  have : -1 ≤ x ∧ x ≤ 2147483647 := by simpa [okN] using h
  omega
/-- What was put is got; with something behind it it has not the form. -/
theorem gt_enc : ∀ (xs : List Int) (r : List UInt8), xs.all okN = true → gtE xs.length (encL xs ++ r) = (if r = [] then 0 else 2) ∧ gtL xs.length (encL xs ++ r) = xs
  | [], r, _ => by simp [gtE, gtL, encL]
  | x :: xs, r, h => by
    simp only [List.all_cons, Bool.and_eq_true] at h
    obtain ⟨h1, h2⟩ := okN_le h.1
    obtain ⟨e1, e2, e3⟩ := nx_enc (x + 1).toNat top (encL xs ++ r) h1 (by unfold top; omega)
    have ih := gt_enc xs r h.2
    rw [encL_cons, List.append_assoc]
    simp only [List.length_cons, gtE, gtL, e1, e2, e3, if_true, ih, h2, and_self]
theorem gt_front : ∀ (xs : List Int) (p q : List UInt8), xs.all okN = true → encL xs = p ++ q → q ≠ [] → gtE xs.length p = 16
  | [], p, q, _, h, hq => by
    have := congrArg List.length h
    simp [encL] at this
    cases q with
    | nil => exact absurd rfl hq
    | cons _ _ => simp at this
  | x :: xs, p, q, h, he, hq => by
    simp only [List.all_cons, Bool.and_eq_true] at h
    obtain ⟨h1, h2⟩ := okN_le h.1
    rw [encL_cons] at he
    rcases List.append_eq_append_iff.1 he with ⟨a, ha, hb⟩ | ⟨b, ha, hb⟩
    · -- p reaches behind the first
      obtain ⟨e1, e2, e3⟩ := nx_enc (x + 1).toNat top a h1 (by unfold top; omega)
      rw [ha]
      simp only [List.length_cons, gtE, e1, e3, if_true]
      exact gt_front xs a q h.2 hb hq
    · by_cases hb0 : b = []
      · subst hb0
        rw [List.append_nil] at ha
        rw [List.nil_append] at hb
        obtain ⟨e1, e2, e3⟩ := nx_enc (x + 1).toNat top [] h1 (by unfold top; omega)
        rw [List.append_nil] at e1 e3
        rw [← ha]
        simp only [List.length_cons, gtE, e1, e3, if_true]
        exact gt_front xs [] q h.2 (by rw [List.nil_append]; exact hb.symm) hq
      · have := nx_front (x + 1).toNat top p b h1 ha hb0
        simp only [List.length_cons, gtE, this]
        rfl
theorem get_put {l : List Int} (h : putE l = 0) (r : List UInt8) : getE (putL l ++ r) = (if r = [] then 0 else 2) ∧ getL (putL l ++ r) = (if r = [] then l else []) := by
  obtain ⟨h1, h2, h3⟩ := putE_zero h
  obtain ⟨e1, e2, e3⟩ := nx_enc l.length 100000 (encL l ++ r) (by omega) h1
  have g := gt_enc l r h2
  have hE : getE (putL l ++ r) = (if r = [] then 0 else 2) := by
    unfold getE
    rw [h3, List.append_assoc, e1, e2, e3, if_pos rfl, Int.toNat_natCast]
    exact g.1
  refine ⟨hE, ?_⟩
  by_cases hr : r = []
  · rw [if_pos hr] at hE ⊢
    unfold getL
    rw [if_pos hE, h3, List.append_assoc, e2, e3, Int.toNat_natCast]
    exact g.2
  · rw [if_neg hr] at hE ⊢
    exact getL_err (by rw [hE]; decide)
theorem get_front {l : List Int} (h : putE l = 0) (p q : List UInt8) (hq : q ≠ []) (he : putL l = p ++ q) : getE p = 16 ∧ getL p = [] := by
  obtain ⟨h1, h2, h3⟩ := putE_zero h
  have hE : getE p = 16 := by
    rw [h3] at he
    unfold getE
    rcases List.append_eq_append_iff.1 he with ⟨a, ha, hb⟩ | ⟨b, ha, hb⟩
    · obtain ⟨e1, e2, e3⟩ := nx_enc l.length 100000 a (by omega) h1
      rw [ha, e1, e2, e3, if_pos rfl, Int.toNat_natCast]
      exact gt_front l a q h2 hb hq
    · by_cases hb0 : b = []
      · subst hb0
        rw [List.append_nil] at ha
        rw [List.nil_append] at hb
        obtain ⟨e1, e2, e3⟩ := nx_enc l.length 100000 [] (by omega) h1
        rw [List.append_nil] at e1 e2 e3
        rw [← ha, e1, e2, e3, if_pos rfl, Int.toNat_natCast]
        exact gt_front l [] q h2 (by rw [List.nil_append]; exact hb.symm) hq
      · have := nx_front l.length 100000 p b (by omega) ha hb0
        rw [this]; rfl
  exact ⟨hE, getL_err (by rw [hE]; decide)⟩

end Go.Proofs.Ytgjgonnlkponiaa
