/- Scripts: what the packages compute, in plain Lean; no program in sight. -/
import Derived.Test.YtlppphhgbfehcaaBase
namespace Go.Proofs.Ytlppphhgbfehcaa

abbrev Pk := Int × Int

/-- May a pick be? -/
def rt (p : Pk) : Bool := decide ((p.1 = 4 ∨ p.1 = 5) ∧ p.2 = 0 ∨ (0 ≤ p.1 ∧ p.1 ≤ 3 ∧ 1 ≤ p.2 ∧ p.2 ≤ 255))
theorem rt_iff {p : Pk} : rt p = true ↔ ((p.1 = 4 ∨ p.1 = 5) ∧ p.2 = 0 ∨ (0 ≤ p.1 ∧ p.1 ≤ 3 ∧ 1 ≤ p.2 ∧ p.2 ≤ 255)) := by simp [rt]
theorem rt_range {p : Pk} (h : rt p = true) : 0 ≤ p.1 ∧ p.1 < 256 ∧ 0 ≤ p.2 ∧ p.2 < 256 := by have := rt_iff.1 h; omega

/-- A pick's bytes, as numbers. -/
def enc : List Pk → List Int
  | [] => []
  | x :: xs => x.1 :: x.2 :: enc xs
theorem enc_len (xs : List Pk) : (enc xs).length = 2 * xs.length := by
  induction xs with
  | nil => rfl
  | cons x xs ih => simp [enc, ih]; omega
theorem enc_app (xs ys : List Pk) : enc (xs ++ ys) = enc xs ++ enc ys := by
  induction xs with
  | nil => rfl
  | cons x xs ih => simp [enc, ih]

/-- The picks of bytes. -/
def dec : List UInt8 → List Pk
  | a :: b :: r => ((a.toNat : Int), (b.toNat : Int)) :: dec r
  | _ => []
theorem dec_len : ∀ l : List UInt8, (dec l).length = l.length / 2
  | [] => rfl
  | [_] => by simp [dec]
  | a :: b :: r => by simp [dec, dec_len r]; omega
theorem dec_app : ∀ (l m : List UInt8), l.length % 2 = 0 → dec (l ++ m) = dec l ++ dec m
  | [], _, _ => rfl
  | [a], _, h => by simp at h
  | a :: b :: r, m, h => by
    have : r.length % 2 = 0 := by simp at h; omega
    simp [dec, dec_app r m this]

/-- Numbers as bytes. -/
def by8 (l : List Int) : List UInt8 := l.map fun n => UInt8.ofNat n.toNat
theorem by8_app (l m : List Int) : by8 (l ++ m) = by8 l ++ by8 m := by simp [by8]
theorem u8_back {x : Int} (h0 : 0 ≤ x) (h1 : x < 256) : ((UInt8.ofNat x.toNat).toNat : Int) = x := by
  have : x.toNat < 256 := by omega
  simp [UInt8.toNat_ofNat']; omega
theorem u8_fore (b : UInt8) : UInt8.ofNat ((b.toNat : Int)).toNat = b := by simp

theorem dec_enc (xs : List Pk) (h : xs.all rt = true) : dec (by8 (enc xs)) = xs := by
  induction xs with
  | nil => rfl
  | cons x xs ih =>
    simp only [List.all_cons, Bool.and_eq_true] at h
    have r := rt_range h.1
    have := ih h.2
    unfold by8 at this
    simp only [enc, by8, List.map_cons, dec, this]
    rw [u8_back r.1 r.2.1, u8_back r.2.2.1 r.2.2.2]
theorem enc_dec : ∀ (l : List UInt8), l.length % 2 = 0 → by8 (enc (dec l)) = l
  | [], _ => rfl
  | [a], h => by simp at h
  | a :: b :: r, h => by
    have h2 : r.length % 2 = 0 := by simp at h; omega
    have := enc_dec r h2
    unfold by8 at this
    simp only [dec, enc, by8, List.map_cons, this]
    simp

/-- What Put answers: the bytes, and what is wrong. -/
def putE (ps : List Pk) : Int := if 2000 < ps.length then 4 else if ps.all rt then 0 else 1
def putS (ps : List Pk) : ByteArray := if 2000 < ps.length then ByteArray.empty else if ps.all rt then ⟨(by8 (enc ps)).toArray⟩ else ByteArray.empty
/-- What Get answers. -/
def getE (l : List UInt8) : Int := if l.length % 2 = 1 then 16 else if 4000 < l.length then 4 else if (dec l).all rt then 0 else 2
def getP (l : List UInt8) : List Pk := if l.length % 2 = 1 then [] else if 4000 < l.length then [] else if (dec l).all rt then dec l else []

theorem putE_many {ps : List Pk} (h : 2000 < ps.length) : putE ps = 4 := by simp [putE, h]
theorem putS_many {ps : List Pk} (h : 2000 < ps.length) : putS ps = ByteArray.empty := by simp [putS, h]
theorem putE_no {ps : List Pk} (h : ¬ 2000 < ps.length) (k : Nat) (x : Pk) (hx : ps[k]? = some x) (hr : rt x = false) : putE ps = 1 := by
  have : ps.all rt = false := List.all_eq_false.2 ⟨x, List.mem_of_getElem? hx, by simp [hr]⟩
  simp [putE, h, this]
theorem putS_no {ps : List Pk} (k : Nat) (x : Pk) (hx : ps[k]? = some x) (hr : rt x = false) : putS ps = ByteArray.empty := by
  have : ps.all rt = false := List.all_eq_false.2 ⟨x, List.mem_of_getElem? hx, by simp [hr]⟩
  simp [putS, this]
theorem putE_ok {ps : List Pk} (h : ¬ 2000 < ps.length) (hr : ps.all rt = true) : putE ps = 0 := by simp [putE, h, hr]
theorem putS_ok {ps : List Pk} (h : ¬ 2000 < ps.length) (hr : ps.all rt = true) : putS ps = ⟨(by8 (enc ps)).toArray⟩ := by simp [putS, h, hr]
theorem putE_cases (ps : List Pk) : (putE ps = 0 ∧ ps.length ≤ 2000 ∧ ps.all rt = true ∧ putS ps = ⟨(by8 (enc ps)).toArray⟩) ∨ (putE ps ≠ 0 ∧ putS ps = ByteArray.empty) := by
  by_cases h : 2000 < ps.length
  · exact .inr ⟨by rw [putE_many h]; decide, putS_many h⟩
  · by_cases hr : ps.all rt = true
    · exact .inl ⟨putE_ok h hr, by omega, hr, putS_ok h hr⟩
    · exact .inr ⟨by simp [putE, h, hr], by simp [putS, hr]⟩
theorem get_cases (l : List UInt8) : (getE l = 0 ∧ l.length % 2 = 0 ∧ l.length ≤ 4000 ∧ (dec l).all rt = true ∧ getP l = dec l) ∨ (getE l ≠ 0 ∧ getP l = []) := by
  by_cases h1 : l.length % 2 = 1
  · exact .inr ⟨by simp [getE, h1], by simp [getP, h1]⟩
  · by_cases h2 : 4000 < l.length
    · exact .inr ⟨by simp [getE, h1, h2], by simp [getP, h2]⟩
    · by_cases hr : (dec l).all rt = true
      · exact .inl ⟨by simp [getE, h1, h2, hr], by omega, by omega, hr, by simp [getP, h1, h2, hr]⟩
      · exact .inr ⟨by simp [getE, h1, h2, hr], by simp [getP, hr]⟩
/-- What is put is got. -/
theorem get_put {ps : List Pk} (h : putE ps = 0) : getE (putS ps).data.toList = 0 ∧ getP (putS ps).data.toList = ps ∧ (putS ps).size = 2 * ps.length := by
  rcases putE_cases ps with ⟨_, h1, h2, h3⟩ | ⟨h1, _⟩
  · have hl : (by8 (enc ps)).length = 2 * ps.length := by simp [by8, enc_len]
    rw [h3]
    have hd := dec_enc ps h2
    refine ⟨?_, ?_, by simp [ByteArray.size, hl]⟩
    · simp only [getE, hl, hd, h2]
      rw [if_neg (by omega), if_neg (by omega)]; rfl
    · simp only [getP, hl, hd, h2]
      rw [if_neg (by omega), if_neg (by omega)]; rfl
  · exact absurd h h1
/-- What is got is put. -/
theorem put_get {s : ByteArray} (h : getE s.data.toList = 0) : putE (getP s.data.toList) = 0 ∧ putS (getP s.data.toList) = s := by
  rcases get_cases s.data.toList with ⟨_, h1, h2, h3, h4⟩ | ⟨h1, _⟩
  · have hl := dec_len s.data.toList
    rw [h4]
    have hn : ¬ 2000 < (dec s.data.toList).length := by omega
    refine ⟨putE_ok hn h3, ?_⟩
    rw [putS_ok hn h3, enc_dec _ h1]
  · exact absurd h h1
/-- Two scripts. -/
theorem get_two {s t : List UInt8} (hs : getE s = 0) (ht : getE t = 0) (h1 : s.length ≤ 2000) (h2 : t.length ≤ 2000) : getE (s ++ t) = 0 ∧ getP (s ++ t) = getP s ++ getP t := by
  rcases get_cases s with ⟨_, a1, a2, a3, a4⟩ | ⟨a1, _⟩
  · rcases get_cases t with ⟨_, b1, b2, b3, b4⟩ | ⟨b1, _⟩
    · have hd := dec_app s t a1
      have hl : (s ++ t).length = s.length + t.length := List.length_append
      have hr : (dec (s ++ t)).all rt = true := by rw [hd, List.all_append, a3, b3]; rfl
      refine ⟨?_, ?_⟩
      · simp only [getE, hl, hr]; rw [if_neg (by omega), if_neg (by omega)]; rfl
      · rw [a4, b4, ← hd]; simp only [getP, hl, hr]; rw [if_neg (by omega), if_neg (by omega)]; rfl
    · exact absurd ht b1
  · exact absurd hs a1

/-! ### fair -/
def FairP (l : List Pk) (who win : Int) : Prop := 1 ≤ win ∧ ∀ i : Nat, (i : Int) + win ≤ l.length → ∃ k : Nat, i ≤ k ∧ (k : Int) < i + win ∧ ∃ x, l[k]? = some x ∧ x.1 = who
noncomputable def fairB (l : List Pk) (who win : Int) : Bool := @decide (FairP l who win) (Classical.propDecidable _)
theorem fairB_true {l : List Pk} {who win : Int} : fairB l who win = true ↔ FairP l who win := by unfold fairB; exact @decide_eq_true_iff _ (Classical.propDecidable _)
theorem fairB_yes {l : List Pk} {who win : Int} (h : FairP l who win) : fairB l who win = true := fairB_true.2 h
theorem fairB_no {l : List Pk} {who win : Int} (h : ¬ FairP l who win) : fairB l who win = false := by
  cases hb : fairB l who win with
  | false => rfl
  | true => exact absurd (fairB_true.1 hb) h

theorem fair_more {l : List Pk} {who win : Int} (h : FairP l who win) : FairP l who (win + 1) := by
  obtain ⟨h1, h2⟩ := h
  refine ⟨by omega, fun i hi => ?_⟩
  obtain ⟨k, a, b, c⟩ := h2 i (by omega)
  exact ⟨k, a, by omega, c⟩
theorem fair_take {l : List Pk} {who win : Int} (n : Nat) (h : FairP l who win) : FairP (l.take n) who win := by
  obtain ⟨h1, h2⟩ := h
  refine ⟨h1, fun i hi => ?_⟩
  have hl : (l.take n).length = min n l.length := List.length_take
  obtain ⟨k, a, b, x, c, d⟩ := h2 i (by omega)
  exact ⟨k, a, b, x, by rw [List.getElem?_take_of_lt (by omega)]; exact c, d⟩
theorem fair_drop {l : List Pk} {who win : Int} (n : Nat) (h : FairP l who win) : FairP (l.drop n) who win := by
  obtain ⟨h1, h2⟩ := h
  refine ⟨h1, fun i hi => ?_⟩
  have hl : (l.drop n).length = l.length - n := List.length_drop
  obtain ⟨k, a, b, x, c, d⟩ := h2 (i + n) (by omega)
  refine ⟨k - n, by omega, by omega, x, ?_, d⟩
  rw [List.getElem?_drop, show n + (k - n) = k by omega]
  exact c
/-- A script without the strategy. -/
theorem fair_bare {l : List Pk} {who win : Int} (hb : ∀ x ∈ l, x.1 ≠ who) : FairP l who win ↔ 1 ≤ win ∧ (l.length : Int) < win := by
  constructor
  · rintro ⟨h1, h2⟩
    refine ⟨h1, ?_⟩
    by_cases h : (l.length : Int) < win
    · exact h
    · obtain ⟨k, _, _, x, c, d⟩ := h2 0 (by omega)
      exact absurd d (hb x (List.mem_of_getElem? c))
  · rintro ⟨h1, h2⟩
    exact ⟨h1, fun i hi => by omega⟩

/-- How it stands behind k picks, s of them since the strategy's last. -/
structure Since (l : List Pk) (who win : Int) (k s : Nat) : Prop where
  sk : s ≤ k
  sw : (s : Int) < win
  none : ∀ j x, k - s ≤ j → j < k → l[j]? = some x → x.1 ≠ who
  last : s = k ∨ ∃ x, l[k - s - 1]? = some x ∧ x.1 = who
  ok : ∀ i : Nat, (i : Int) + win ≤ k → ∃ j : Nat, i ≤ j ∧ (j : Int) < i + win ∧ ∃ x, l[j]? = some x ∧ x.1 = who
theorem Since.zero {l : List Pk} {who win : Int} (h : 1 ≤ win) : Since l who win 0 0 :=
  ⟨Nat.le_refl _, by omega, fun j x _ h => by omega, .inl rfl, fun i hi => by omega⟩
theorem Since.hit {l : List Pk} {who win : Int} {k s : Nat} {x : Pk} (h : Since l who win k s) (hx : l[k]? = some x) (hw : x.1 = who) : Since l who win (k + 1) 0 := by
  have := h.sw
  refine ⟨Nat.zero_le _, by omega, fun j x a b => by omega, .inr ⟨x, by simpa using hx, hw⟩, fun i hi => ?_⟩
  by_cases hk : (i : Int) + win ≤ k
  · exact h.ok i hk
  · exact ⟨k, by omega, by omega, x, hx, hw⟩
theorem Since.miss {l : List Pk} {who win : Int} {k s : Nat} {x : Pk} (h : Since l who win k s) (hx : l[k]? = some x) (hw : x.1 ≠ who) (hs : (s : Int) + 1 ≠ win) : Since l who win (k + 1) (s + 1) := by
  have h1 := h.sw
  have h2 := h.sk
  refine ⟨by omega, by omega, fun j y a b hy => ?_, ?_, fun i hi => ?_⟩
  · by_cases hj : j = k
    · subst hj
      rw [hx] at hy
      obtain rfl := Option.some.inj hy
      exact hw
    · exact h.none j y (by omega) (by omega) hy
  · rcases h.last with e | ⟨y, c, d⟩
    · exact .inl (by omega)
    · exact .inr ⟨y, by rw [show k + 1 - (s + 1) - 1 = k - s - 1 by omega]; exact c, d⟩
  · by_cases hk : (i : Int) + win ≤ k
    · exact h.ok i hk
    · rcases h.last with e | ⟨y, c, d⟩
      · omega
      · exact ⟨k - s - 1, by omega, by omega, y, c, d⟩
theorem Since.full {l : List Pk} {who win : Int} {k s : Nat} {x : Pk} (h : Since l who win k s) (hx : l[k]? = some x) (hw : x.1 ≠ who) (hs : (s : Int) + 1 = win) : ¬ FairP l who win := by
  rintro ⟨_, h2⟩
  have h0 := h.sk
  have hk : k < l.length := (List.getElem?_eq_some_iff.1 hx).1
  obtain ⟨j, a, b, y, c, d⟩ := h2 (k - s) (by omega)
  by_cases hj : j = k
  · subst hj
    rw [hx] at c
    obtain rfl := Option.some.inj c
    exact hw d
  · exact h.none j y a (by omega) c d
theorem Since.done {l : List Pk} {who win : Int} {s : Nat} (h : Since l who win l.length s) (h1 : 1 ≤ win) : FairP l who win := ⟨h1, h.ok⟩

/-! ### bare -/
def bareOf (who : Int) (l : List Pk) : List Pk := l.filter fun x => x.1 != who
theorem bare_none (who : Int) (l : List Pk) : ∀ x ∈ bareOf who l, x.1 ≠ who := by
  intro x hx
  simp [bareOf] at hx
  exact hx.2
theorem bare_len (who : Int) (l : List Pk) : (bareOf who l).length ≤ l.length := List.length_filter_le _ _
theorem take_snoc {α : Type} {xs : List α} {k : Nat} {x : α} (h : xs[k]? = some x) : xs.take (k + 1) = xs.take k ++ [x] := by
  rw [List.take_add_one, h]; rfl
theorem bare_in {who : Int} {l : List Pk} {k : Nat} {x : Pk} (h : l[k]? = some x) (hw : x.1 ≠ who) : bareOf who (l.take (k + 1)) = bareOf who (l.take k) ++ [x] := by
  rw [take_snoc h]; simp [bareOf, List.filter_append, hw]
theorem bare_out {who : Int} {l : List Pk} {k : Nat} {x : Pk} (h : l[k]? = some x) (hw : x.1 = who) : bareOf who (l.take (k + 1)) = bareOf who (l.take k) := by
  rw [take_snoc h]; simp [bareOf, List.filter_append, hw]

end Go.Proofs.Ytlppphhgbfehcaa
