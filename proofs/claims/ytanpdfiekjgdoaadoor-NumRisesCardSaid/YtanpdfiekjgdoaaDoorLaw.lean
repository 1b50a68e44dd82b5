/- Numbers in digits: what the packages compute, in plain Lean; no program in sight. -/
import Derived.Test.YtanpdfiekjgdoaaDoorBase
import Derived.Lib.ItoaNum
namespace Go.Proofs.YtanpdfiekjgdoaaDoor
open Go.Lib

theorem snoc_ind {α : Type} {p : List α → Prop} (h0 : p []) (hs : ∀ l a, p l → p (l ++ [a])) : ∀ l, p l := by
  intro l
  rw [← List.reverse_reverse l]
  induction l.reverse with
  | nil => exact h0
  | cons a r ih => rw [List.reverse_cons]; exact hs _ _ ih

/-- Is a byte a digit? -/
def isd (c : UInt8) : Bool := decide (48 ≤ c.toNat ∧ c.toNat ≤ 57)
theorem isd_iff {c : UInt8} : isd c = true ↔ 48 ≤ c.toNat ∧ c.toNat ≤ 57 := by simp [isd]
/-- The digits at the front. -/
def dp (l : List UInt8) : List UInt8 := l.takeWhile isd
/-- The number of digits. -/
def val (l : List UInt8) : Nat := l.foldl (fun n c => 10 * n + (c.toNat - 48)) 0
theorem val_nil : val [] = 0 := rfl
theorem val_snoc (l : List UInt8) (c : UInt8) : val (l ++ [c]) = 10 * val l + (c.toNat - 48) := by simp [val, List.foldl_append]
theorem val_app_le (l m : List UInt8) : val l ≤ val (l ++ m) := by
  refine snoc_ind (p := fun m => val l ≤ val (l ++ m)) (by simp) (fun m c ih => ?_) m
  rw [← List.append_assoc, val_snoc]; omega
theorem val_one (c : UInt8) : val [c] = c.toNat - 48 := by have := val_snoc [] c; simpa [val_nil] using this

theorem dp_all (l : List UInt8) : ∀ c ∈ dp l, isd c = true := by
  induction l with
  | nil => intro c hc; cases hc
  | cons a l ih =>
    intro c hc
    unfold dp at hc
    rw [List.takeWhile_cons] at hc
    split at hc
    · rename_i h
      rcases List.mem_cons.1 hc with rfl | h2
      · exact h
      · exact ih c h2
    · cases hc
/-- k digits, and then none. -/
theorem dp_take {l : List UInt8} {k : Nat} (h : ∀ j c, j < k → l[j]? = some c → isd c = true) (hk : ∀ c, l[k]? = some c → isd c = false) (hl : k ≤ l.length) : dp l = l.take k := by
  induction l generalizing k with
  | nil => simp [dp]
  | cons a l ih =>
    cases k with
    | zero =>
      have := hk a rfl
      unfold dp
      rw [List.takeWhile_cons, this]; rfl
    | succ k =>
      have h0 := h 0 a (by omega) rfl
      have := ih (k := k) (fun j c hj hc => h (j + 1) c (by omega) (by simpa using hc)) (fun c hc => hk c (by simpa using hc)) (by simp at hl; omega)
      unfold dp at this ⊢
      rw [List.takeWhile_cons, h0]
      simp [this]
theorem dp_le (l : List UInt8) : (dp l).length ≤ l.length := by
  induction l with
  | nil => simp [dp]
  | cons a l ih =>
    unfold dp at ih ⊢
    rw [List.takeWhile_cons]
    split
    · simp; exact ih
    · simp
theorem dp_prefix (l : List UInt8) : l.take (dp l).length = dp l := by
  induction l with
  | nil => rfl
  | cons a l ih =>
    unfold dp at ih ⊢
    rw [List.takeWhile_cons]
    split
    · simp [ih]
    · rfl
theorem dp_front {d r : List UInt8} (h : ∀ c ∈ d, isd c = true) (hr : ∀ c, r.head? = some c → isd c = false) : dp (d ++ r) = d := by
  induction d with
  | nil =>
    cases r with
    | nil => rfl
    | cons a r => simp [dp, hr a rfl]
  | cons a d ih =>
    have := ih (fun c hc => h c (List.mem_cons_of_mem _ hc))
    unfold dp at this ⊢
    simp [h a (List.mem_cons_self ..), this]

/-! ### Show -/
def M : Nat := 2147483647
def showE (n : Int) : Int := if 0 ≤ n ∧ n ≤ 2147483647 then 0 else 1
def showS (n : Int) : ByteArray := if 0 ≤ n ∧ n ≤ 2147483647 then ⟨(decDigits n.toNat).toArray⟩ else ByteArray.empty
theorem showE_ok {n : Int} (h0 : 0 ≤ n) (h1 : n ≤ 2147483647) : showE n = 0 := by simp [showE, h0, h1]
theorem showS_ok {n : Int} (h0 : 0 ≤ n) (h1 : n ≤ 2147483647) : showS n = ⟨(decDigits n.toNat).toArray⟩ := by simp [showS, h0, h1]
theorem showE_no {n : Int} (h : n < 0 ∨ 2147483647 < n) : showE n = 1 := by unfold showE; rw [if_neg (by omega)]
theorem showS_no {n : Int} (h : n < 0 ∨ 2147483647 < n) : showS n = ByteArray.empty := by unfold showS; rw [if_neg (by omega)]
theorem showE_zero {n : Int} : showE n = 0 ↔ 0 ≤ n ∧ n ≤ 2147483647 := by
  constructor
  · intro h
    by_cases hc : 0 ≤ n ∧ n ≤ 2147483647
    · exact hc
    · rw [showE_no (by omega)] at h; cases h
  · exact fun h => showE_ok h.1 h.2

/-! ### Take -/
/-- Digits that are no number's. -/
def bad (d : List UInt8) : Prop := d = [] ∨ 1 < d.length ∧ d.head? = some 48
instance (d : List UInt8) : Decidable (bad d) := inferInstanceAs (Decidable (_ ∨ _))
def tkE (l : List UInt8) (k : Int) : Int :=
  if k < 0 ∨ (l.length : Int) < k then 1 else if bad (dp (l.drop k.toNat)) then 2 else if M < val (dp (l.drop k.toNat)) then 3 else 0
def tkN (l : List UInt8) (k : Int) : Int := if tkE l k = 0 then (val (dp (l.drop k.toNat)) : Nat) else 0
def tkT (l : List UInt8) (k : Int) : Int := if tkE l k = 0 then k + ((dp (l.drop k.toNat)).length : Nat) else 0
theorem tk_arg {l : List UInt8} {k : Int} (h : k < 0 ∨ (l.length : Int) < k) : tkE l k = 1 ∧ tkN l k = 0 ∧ tkT l k = 0 := by
  have : tkE l k = 1 := by simp [tkE, h]
  simp [tkN, tkT, this]
theorem tk_bad {l : List UInt8} {k : Nat} (h : k ≤ l.length) (hb : bad (dp (l.drop k))) : tkE l k = 2 ∧ tkN l k = 0 ∧ tkT l k = 0 := by
  have : tkE l k = 2 := by unfold tkE; rw [if_neg (by omega), Int.toNat_natCast, if_pos hb]
  simp [tkN, tkT, this]
theorem tk_great {l : List UInt8} {k : Nat} (h : k ≤ l.length) (hb : ¬ bad (dp (l.drop k))) (hg : M < val (dp (l.drop k))) : tkE l k = 3 ∧ tkN l k = 0 ∧ tkT l k = 0 := by
  have : tkE l k = 3 := by unfold tkE; rw [if_neg (by omega), Int.toNat_natCast, if_neg hb, if_pos hg]
  simp [tkN, tkT, this]
theorem tk_ok {l : List UInt8} {k : Nat} (h : k ≤ l.length) (hb : ¬ bad (dp (l.drop k))) (hg : ¬ M < val (dp (l.drop k))) : tkE l k = 0 ∧ tkN l k = (val (dp (l.drop k)) : Nat) ∧ tkT l k = (k : Int) + ((dp (l.drop k)).length : Nat) := by
  have : tkE l k = 0 := by unfold tkE; rw [if_neg (by omega), Int.toNat_natCast, if_neg hb, if_neg hg]
  simp [tkN, tkT, this]
theorem tk_zero {l : List UInt8} {k : Int} (h : tkE l k = 0) : ∃ j : Nat, k = j ∧ j ≤ l.length ∧ ¬ bad (dp (l.drop j)) ∧ val (dp (l.drop j)) ≤ M ∧ tkN l k = (val (dp (l.drop j)) : Nat) ∧ tkT l k = (j : Int) + ((dp (l.drop j)).length : Nat) := by
  by_cases h1 : k < 0 ∨ (l.length : Int) < k
  · rw [(tk_arg h1).1] at h; cases h
  · obtain ⟨j, rfl⟩ : ∃ j : Nat, k = j := ⟨k.toNat, by omega⟩
    have hj : j ≤ l.length := by omega
    by_cases h2 : bad (dp (l.drop j))
    · rw [(tk_bad hj h2).1] at h; cases h
    · by_cases h3 : M < val (dp (l.drop j))
      · rw [(tk_great hj h2 h3).1] at h; cases h
      · exact ⟨j, rfl, hj, h2, by omega, (tk_ok hj h2 h3).2⟩
theorem tk_nonzero {l : List UInt8} {k : Int} (h : tkE l k ≠ 0) : tkN l k = 0 ∧ tkT l k = 0 := by simp [tkN, tkT, h]

/-! ### Whole -/
def whE (l : List UInt8) : Int := if tkE l 0 = 0 ∧ tkT l 0 < l.length then 2 else tkE l 0
def whN (l : List UInt8) : Int := if tkE l 0 = 0 ∧ tkT l 0 < l.length then 0 else tkN l 0

/-! ### digits and numbers -/
theorem dec_small {u : Nat} (h : u < 10) : decDigits u = [UInt8.ofNat (48 + u)] := decDigits_one h
theorem dec_big {u : Nat} (h : ¬ u < 10) : decDigits u = decDigits (u / 10) ++ [UInt8.ofNat (48 + u % 10)] := by rw [decDigits, dif_neg h]
theorem dig_nat {x : Nat} (h : x < 10) : (UInt8.ofNat (48 + x)).toNat = 48 + x := by simp; omega
theorem val_dec (u : Nat) : val (decDigits u) = u := by
  induction u using Nat.strongRecOn with
  | _ u ih =>
    by_cases h : u < 10
    · rw [dec_small h, val_one, dig_nat h]; omega
    · rw [dec_big h, val_snoc, ih (u / 10) (by omega), dig_nat (by omega)]; omega
theorem dec_digits (u : Nat) : ∀ c ∈ decDigits u, isd c = true := by
  induction u using Nat.strongRecOn with
  | _ u ih =>
    by_cases h : u < 10
    · rw [dec_small h]; intro c hc
      simp only [List.mem_singleton] at hc
      subst hc
      rw [isd_iff, dig_nat h]; omega
    · rw [dec_big h]; intro c hc
      rcases List.mem_append.1 hc with h1 | h1
      · exact ih (u / 10) (by omega) c h1
      · simp only [List.mem_singleton] at h1
        subst h1
        rw [isd_iff, dig_nat (by omega)]; omega
theorem dec_ne (u : Nat) : decDigits u ≠ [] := by
  intro h
  have := decDigits_length u
  rw [h] at this
  have := nDigits_pos u
  simp at *
  omega
theorem dec_head (u : Nat) (h : 1 ≤ u) : (decDigits u).head? ≠ some 48 := by
  induction u using Nat.strongRecOn with
  | _ u ih =>
    by_cases h1 : u < 10
    · rw [dec_small h1]
      intro e
      simp only [List.head?_cons, Option.some.injEq] at e
      have := congrArg UInt8.toNat e
      rw [dig_nat h1] at this
      simp at this
      omega
    · rw [dec_big h1]
      have := ih (u / 10) (by omega) (by omega)
      cases hc : decDigits (u / 10) with
      | nil => exact absurd hc (dec_ne _)
      | cons a r => rw [hc] at this; simpa using this
theorem dec_good (u : Nat) : ¬ bad (decDigits u) := by
  rintro (h | ⟨h1, h2⟩)
  · exact dec_ne u h
  · by_cases h0 : 1 ≤ u
    · exact dec_head u h0 h2
    · have : u = 0 := by omega
      subst this
      rw [dec_small (by omega)] at h1
      simp at h1
theorem val_pos {d : List UInt8} (h : ∀ c ∈ d, isd c = true) (hne : d ≠ []) (hh : d.head? ≠ some 48) : 1 ≤ val d := by
  cases d with
  | nil => exact absurd rfl hne
  | cons a r =>
    have ha := isd_iff.1 (h a (List.mem_cons_self ..))
    have h48 : a.toNat ≠ 48 := fun e => hh (by simp; exact UInt8.toNat_inj.1 (by simpa using e))
    have := val_app_le [a] r
    rw [val_one] at this
    simp at this
    omega
/-- Digits of which none is too many are their number's. -/
theorem dec_val (d : List UInt8) : (∀ c ∈ d, isd c = true) → ¬ bad d → decDigits (val d) = d := by
  refine snoc_ind (p := fun d => (∀ c ∈ d, isd c = true) → ¬ bad d → decDigits (val d) = d) ?_ ?_ d
  · exact fun _ hg => absurd (.inl rfl) hg
  · intro d c ih h hg
    have hc := isd_iff.1 (h c (by simp))
    have hcc : UInt8.ofNat (48 + (c.toNat - 48)) = c := by
      rw [show 48 + (c.toNat - 48) = c.toNat by omega]; simp
    by_cases hd : d = []
    · subst hd
      rw [List.nil_append, val_one, dec_small (by omega), hcc]
    · have hh : d.head? ≠ some 48 := fun e => hg (.inr ⟨by
        cases d with
        | nil => exact absurd rfl hd
        | cons a r => simp, by
        cases d with
        | nil => exact absurd rfl hd
        | cons a r => simpa using e⟩)
      have hp := val_pos (fun x hx => h x (by simp [hx])) hd hh
      have hi := ih (fun x hx => h x (by simp [hx])) (by
        rintro (e | ⟨_, e⟩)
        · exact hd e
        · exact hh e)
      rw [val_snoc, dec_big (by omega), show (10 * val d + (c.toNat - 48)) / 10 = val d by omega, show (10 * val d + (c.toNat - 48)) % 10 = c.toNat - 48 by omega, hi, hcc]

end Go.Proofs.YtanpdfiekjgdoaaDoor
