/- The reference's Fair. -/
import Derived.Test.YtlppphhgbfehcaaScA
namespace Go.Proofs.Ytlppphhgbfehcaa
open Go.RowKit

set_option maxRecDepth 100000 in
theorem rfair_low (a : Option Addr) (n cap : Nat) (who win : Int) (w : World) (hw : win < 1) :
    Calls Try.prog 17 #[.slice a n cap, .int .i64 who, .int .i64 win] w fun e w' => e = .returned (.bool false) ∧ Fr nob w w' := by
  go_enter Try.func17, Try.ntmps17
  go_wp2
  go_ret
  exact ⟨rfl, Fr.refl _ _⟩

/-- Is one of the picks from i on, ahead of k? -/
def Hits (l : List Pk) (who : Int) (i k : Nat) : Prop := ∃ j : Nat, i ≤ j ∧ j < k ∧ ∃ x, l[j]? = some x ∧ x.1 = who
noncomputable def hitB (l : List Pk) (who : Int) (i k : Nat) : Bool := @decide (Hits l who i k) (Classical.propDecidable _)
theorem hitB_true {l : List Pk} {who : Int} {i k : Nat} : hitB l who i k = true ↔ Hits l who i k := by unfold hitB; exact @decide_eq_true_iff _ (Classical.propDecidable _)
theorem hitB_none (l : List Pk) (who : Int) (i : Nat) : hitB l who i i = false := by
  cases hb : hitB l who i i with
  | false => rfl
  | true =>
    obtain ⟨j, a, b, _⟩ := hitB_true.1 hb
    omega
theorem hitB_yes {l : List Pk} {who : Int} {i k : Nat} (h : hitB l who i k = true) : hitB l who i (k + 1) = true := by
  obtain ⟨j, a, b, c⟩ := hitB_true.1 h
  exact hitB_true.2 ⟨j, a, by omega, c⟩
theorem hitB_here {l : List Pk} {who : Int} {i k : Nat} {x : Pk} (h : i ≤ k) (hx : l[k]? = some x) (hw : x.1 = who) : hitB l who i (k + 1) = true :=
  hitB_true.2 ⟨k, h, by omega, x, hx, hw⟩
theorem hitB_not {l : List Pk} {who : Int} {i k : Nat} {x : Pk} (h : hitB l who i k = false) (hx : l[k]? = some x) (hw : x.1 ≠ who) : hitB l who i (k + 1) = false := by
  cases hb : hitB l who i (k + 1) with
  | false => rfl
  | true =>
    obtain ⟨j, a, b, y, c, d⟩ := hitB_true.1 hb
    by_cases hj : j = k
    · subst hj
      rw [hx] at c
      obtain rfl := Option.some.inj c
      exact absurd d hw
    · rw [hitB_true.2 ⟨j, a, by omega, y, c, d⟩] at h
      cases h

/-- The windows ahead of i are well. -/
def Okto (l : List Pk) (who : Int) (win i : Nat) : Prop := ∀ j : Nat, j < i → Hits l who j (j + win)
theorem Okto.fair {l : List Pk} {who : Int} {win i : Nat} (h : Okto l who win i) (h1 : 1 ≤ win) (hi : l.length < i + win) : FairP l who win := by
  refine ⟨by omega, fun j hj => ?_⟩
  obtain ⟨k, a, b, c⟩ := h j (by omega)
  exact ⟨k, a, by omega, c⟩
theorem Okto.step {l : List Pk} {who : Int} {win i : Nat} (h : Okto l who win i) (hh : hitB l who i (i + win) = true) : Okto l who win (i + 1) := fun j hj => by
  by_cases e : j = i
  · subst e; exact hitB_true.1 hh
  · exact h j (by omega)
theorem not_fair {l : List Pk} {who : Int} {win i : Nat} (hi : i + win ≤ l.length) (hh : hitB l who i (i + win) = false) : ¬ FairP l who win := fun h => by
  obtain ⟨k, a, b, c⟩ := h.2 i (by omega)
  rw [hitB_true.2 ⟨k, a, by omega, c⟩] at hh
  cases hh

set_option maxRecDepth 100000 in
set_option maxHeartbeats 400000 in
theorem rfair_fit (a : Option Addr) (b off cap : Nat) (ps : List Pk) (who : Int) (win : Nat) (w : World) (h : PAt w a b off ps) (hb : ps.length ≤ 100000) (hw : 1 ≤ win) (hwl : win ≤ ps.length) :
    Calls Try.prog 17 #[.slice a ps.length cap, .int .i64 who, .int .i64 win] w fun e w' => e = .returned (.bool (fairB ps who win)) ∧ Fr nob w w' := by
  have H := Lib.hid h
  clear h
  go_enter Try.func17, Try.ntmps17
  go_wp2_with fail
  go_loopg [7] (ps.length + 1 - win) (fun gk i wr => ∃ k : Nat, k + gk = ps.length + 1 - win ∧ i = .int .i64 k ∧ Okto ps who win k ∧ Fr nob w wr)
  case atStart => exact ⟨0, Nat.zero_add _, rfl, fun j hj => by omega, Fr.refl _ _⟩
  case round =>
    obtain ⟨k, hk, rfl, hok, hf⟩ := hrel
    have F := Lib.hid hf
    have HK := Lib.hid hk
    have HO := Lib.hid hok
    have hkl : k + win ≤ ps.length + 1 := by omega
    clear hf hk hok
    have t1 : wrap64 ((ps.length : Int) - (win : Int)) = (ps.length : Int) - win := by unfold wrap64; omega
    by_cases hlt : k + win ≤ ps.length
    · have t2 : (k : Int) ≤ (ps.length : Int) - win := by omega
      have t3 : wrap64 ((k : Int) + (win : Int)) = (k : Int) + win := by unfold wrap64; omega
      obtain ⟨gO, rfl⟩ : ∃ gO, gO = gk := ⟨_, rfl⟩
      go_wp2_with fail
      go_loopg [8, 9] win (fun gj s8 j wq => ∃ m : Nat, k ≤ m ∧ m + gj = k + win ∧ j = .int .i64 m ∧ s8 = .bool (hitB ps who k m) ∧ Fr nob w wq)
      case atStart => exact ⟨k, Nat.le_refl _, rfl, rfl, by rw [hitB_none], F.out⟩
      case round =>
        obtain ⟨m, hm, hmk, rfl, rfl, hf⟩ := hrel
        have FQ := Lib.hid hf
        have HM := Lib.hid hmk
        have hmw : m ≤ k + win := by omega
        clear hf hmk
        by_cases hlm : m < k + win
        · have hlm' : (m : Int) < (k : Int) + win := by omega
          obtain ⟨x, hx⟩ : ∃ x, ps[m]? = some x := ⟨_, List.getElem?_eq_getElem (by omega)⟩
          obtain rfl := H.out.addr hx
          obtain ⟨d0, d1⟩ := (H.out.nob FQ.out).2 m x hx
          have HX := Lib.hid hx
          clear hx
          have hidx0 : (0 : Int) ≤ (m : Int) := Int.natCast_nonneg _
          have hidx1 : (m : Int) < (ps.length : Int) := by omega
          obtain ⟨x1, x2⟩ := x
          cases hh : hitB ps who k m with
          | true =>
            have HH := Lib.hid (hitB_yes hh)
            clear hh
            go_wp2
            go_roundg (gk - 1)
            case measure => have := HM.out; omega
            case rel => exact ⟨m + 1, by omega, by have := HM.out; omega, by go_num, by rw [HH.out], FQ.out⟩
          | false =>
            by_cases hwho : x1 = who
            · have q2 : (x1 == who) = true := by simpa using hwho
              have HH := Lib.hid (hitB_here (i := k) hm HX.out hwho)
              clear hh hwho
              go_wp2
              go_roundg (gk - 1)
              case measure => have := HM.out; omega
              case rel => exact ⟨m + 1, by omega, by have := HM.out; omega, by go_num, by rw [HH.out], FQ.out⟩
            · have q2 : (x1 == who) = false := by simpa using hwho
              have HH := Lib.hid (hitB_not hh HX.out hwho)
              clear hh hwho
              go_wp2
              go_roundg (gk - 1)
              case measure => have := HM.out; omega
              case rel => exact ⟨m + 1, by omega, by have := HM.out; omega, by go_num, by rw [HH.out], FQ.out⟩
        · obtain rfl : m = k + win := by omega
          have hlm' : ¬ (k : Int) + win < (k : Int) + win := by omega
          cases hh : hitB ps who k (k + win) with
          | true =>
            have HH := Lib.hid (HO.out.step hh)
            clear hh
            go_wp2
            go_roundg (gO - 1)
            case measure => have := HK.out; omega
            case rel => exact ⟨k + 1, by have := HK.out; omega, by go_num, HH.out, FQ.out⟩
          | false =>
            have HH := Lib.hid (fairB_no (not_fair hlt hh))
            clear hh
            go_wp2
            go_ret
            rw [HH.out]
            exact ⟨rfl, FQ.out⟩
    · have t2 : ¬ (k : Int) ≤ (ps.length : Int) - win := by omega
      have HH := Lib.hid (fairB_yes (HO.out.fair hw (by omega)))
      go_wp2
      go_ret
      rw [HH.out]
      exact ⟨rfl, F.out⟩

set_option maxRecDepth 100000 in
theorem rfair_short (a : Option Addr) (cap : Nat) (ps : List Pk) (who win : Int) (w : World) (hw : 1 ≤ win) (hwl : (ps.length : Int) < win) :
    Calls Try.prog 17 #[.slice a ps.length cap, .int .i64 who, .int .i64 win] w fun e w' => e = .returned (.bool (fairB ps who win)) ∧ Fr nob w w' := by
  rw [fairB_yes ⟨hw, fun i hi => by omega⟩]
  have hc : ¬ win ≤ (ps.length : Int) := by omega
  have hc' : decide (win ≤ (ps.length : Int)) = false := by simp; omega
  go_enter Try.func17, Try.ntmps17
  go_wp2_with fail
  go_loopg [7] 0 (fun _ i wr => i = .int .i64 0 ∧ Fr nob w wr)
  case atStart => exact ⟨rfl, Fr.refl _ _⟩
  case round =>
    obtain ⟨rfl, hf⟩ := hrel
    have F := Lib.hid hf
    clear hf
    go_wp2
    go_ret
    exact ⟨rfl, F.out⟩

theorem rfair_any (v : Value) (ps : List Pk) (who win : Int) (w : World) (h : RP w v ps) (hb : ps.length ≤ 100000) :
    Calls Try.prog 17 #[v, .int .i64 who, .int .i64 win] w fun e w' => e = .returned (.bool (fairB ps who win)) ∧ Fr nob w w' := by
  obtain ⟨a, b, off, cap, rfl, h1, h2, h3⟩ := h
  by_cases hw : 1 ≤ win
  · by_cases hl : (ps.length : Int) < win
    · exact rfair_short a cap ps who win w hw hl
    · obtain ⟨n, rfl⟩ : ∃ n : Nat, win = n := ⟨win.toNat, by omega⟩
      exact rfair_fit a b off cap ps who n w h3 hb (by omega) (by omega)
  · rw [fairB_no (fun h => hw h.1)]
    exact rfair_low a _ cap who win w (by omega)

end Go.Proofs.Ytlppphhgbfehcaa
