/- Fair. -/
import Derived.Test.YtlppphhgbfehcaaScA
namespace Go.Proofs.Ytlppphhgbfehcaa
open Go.RowKit

set_option maxRecDepth 100000 in
theorem fair_low (a : Option Addr) (b off cap : Nat) (ps : List Pk) (who win : Int) (w : World) (h : PAt w a b off ps) (hb : ps.length ≤ 100000) (hw : win < 1) :
    Calls Try.prog 16 #[.slice a ps.length cap, .int .i64 who, .int .i64 win] w fun e w' => e = .returned (.bool false) ∧ Fr nob w w' := by
  have H := Lib.hid h
  have hw' : ¬ 0 < win := by omega
  clear h
  go_enter Try.func16, Try.ntmps16
  go_wp2_with fail
  go_loopg [7, 12] ps.length (fun gk s i wr => ∃ k z : Nat, k + gk = ps.length ∧ z ≤ k ∧ i = .int .i64 k ∧ s = .int .i64 z ∧ Fr nob w wr)
  case atStart => exact ⟨0, 0, Nat.zero_add _, Nat.le_refl _, rfl, rfl, Fr.refl _ _⟩
  case round =>
    obtain ⟨k, z, hk, hz, rfl, rfl, hf⟩ := hrel
    have F := Lib.hid hf
    have HK := Lib.hid hk
    have hkl : k ≤ ps.length := by omega
    clear hf hk
    by_cases hlt : k < ps.length
    · obtain ⟨x, hx⟩ : ∃ x, ps[k]? = some x := ⟨_, List.getElem?_eq_getElem hlt⟩
      obtain rfl := H.out.addr hx
      obtain ⟨d0, d1⟩ := (H.out.nob F.out).2 k x hx
      clear hx
      have hidx0 : (0 : Int) ≤ (k : Int) := Int.natCast_nonneg _
      have hidx1 : (k : Int) < (ps.length : Int) := by omega
      obtain ⟨x1, x2⟩ := x
      have q1 : ((z : Int) + 1 == win) = false := by simp; omega
      by_cases hwho : x1 = who
      · subst hwho
        by_cases h0 : win = 0
        · subst h0
          go_wp2
          go_ret
          exact ⟨rfl, F.out.alloc _⟩
        · have q0 : ((0 : Int) == win) = false := by simp; omega
          go_wp2
          go_roundg (gk - 1)
          case measure => have := HK.out; omega
          case rel => exact ⟨k + 1, 0, by have := HK.out; omega, by omega, by go_num, by go_num, F.out.alloc _⟩
      · have q2 : (x1 == who) = false := by simpa using hwho
        go_wp2
        go_roundg (gk - 1)
        case measure => have := HK.out; omega
        case rel => exact ⟨k + 1, z + 1, by have := HK.out; omega, by omega, by go_num, by go_num, F.out.alloc _⟩
    · go_wp2
      go_ret
      exact ⟨ret_bool (by simp; omega), F.out⟩

set_option maxRecDepth 100000 in
theorem fair_high (a : Option Addr) (b off cap : Nat) (ps : List Pk) (who win : Int) (w : World) (h : PAt w a b off ps) (hb : ps.length ≤ 100000) (hw : 1 ≤ win) :
    Calls Try.prog 16 #[.slice a ps.length cap, .int .i64 who, .int .i64 win] w fun e w' => e = .returned (.bool (fairB ps who win)) ∧ Fr nob w w' := by
  have H := Lib.hid h
  have hw' : 0 < win := by omega
  have hw0 : ((0 : Int) == win) = false := by simp; omega
  clear h
  go_enter Try.func16, Try.ntmps16
  go_wp2_with fail
  go_loopg [7, 12] ps.length (fun gk s i wr => ∃ k z : Nat, k + gk = ps.length ∧ Since ps who win k z ∧ i = .int .i64 k ∧ s = .int .i64 z ∧ Fr nob w wr)
  case atStart => exact ⟨0, 0, Nat.zero_add _, Since.zero hw, rfl, rfl, Fr.refl _ _⟩
  case round =>
    obtain ⟨k, z, hk, hs, rfl, rfl, hf⟩ := hrel
    have F := Lib.hid hf
    have HK := Lib.hid hk
    have hz := hs.sk
    have HS := Lib.hid hs
    have hkl : k ≤ ps.length := by omega
    clear hf hk hs
    by_cases hlt : k < ps.length
    · obtain ⟨x, hx⟩ : ∃ x, ps[k]? = some x := ⟨_, List.getElem?_eq_getElem hlt⟩
      obtain rfl := H.out.addr hx
      obtain ⟨d0, d1⟩ := (H.out.nob F.out).2 k x hx
      have HX := Lib.hid hx
      clear hx
      have hidx0 : (0 : Int) ≤ (k : Int) := Int.natCast_nonneg _
      have hidx1 : (k : Int) < (ps.length : Int) := by omega
      obtain ⟨x1, x2⟩ := x
      by_cases hwho : x1 = who
      · have HW := Lib.hid hwho
        have q2 : (x1 == who) = true := by simpa using hwho
        clear hwho
        go_wp2
        go_roundg (gk - 1)
        case measure => have := HK.out; omega
        case rel => exact ⟨k + 1, 0, by have := HK.out; omega, HS.out.hit HX.out HW.out, by go_num, by go_num, F.out.alloc _⟩
      · have q2 : (x1 == who) = false := by simpa using hwho
        have HW := Lib.hid hwho
        clear hwho
        by_cases hf : (z : Int) + 1 = win
        · have q1 : ((z : Int) + 1 == win) = true := by simpa using hf
          have HF := Lib.hid (fairB_no (HS.out.full HX.out HW.out hf))
          clear hf
          go_wp2
          go_ret
          rw [HF.out]
          exact ⟨rfl, F.out.alloc _⟩
        · have q1 : ((z : Int) + 1 == win) = false := by simpa using hf
          have HF := Lib.hid hf
          clear hf
          go_wp2
          go_roundg (gk - 1)
          case measure => have := HK.out; omega
          case rel => exact ⟨k + 1, z + 1, by have := HK.out; omega, HS.out.miss HX.out HW.out HF.out, by go_num, by go_num, F.out.alloc _⟩
    · obtain rfl : k = ps.length := by omega
      have HF := Lib.hid (fairB_yes (HS.out.done hw))
      go_wp2
      go_ret
      rw [HF.out]
      exact ⟨rfl, F.out⟩

theorem fair_any (v : Value) (ps : List Pk) (who win : Int) (w : World) (h : RP w v ps) (hb : ps.length ≤ 100000) :
    Calls Try.prog 16 #[v, .int .i64 who, .int .i64 win] w fun e w' => e = .returned (.bool (fairB ps who win)) ∧ Fr nob w w' := by
  obtain ⟨a, b, off, cap, rfl, h1, h2, h3⟩ := h
  by_cases hw : 1 ≤ win
  · exact fair_high a b off cap ps who win w h3 hb hw
  · rw [fairB_no (fun h => hw h.1)]
    exact fair_low a b off cap ps who win w h3 hb (by omega)

end Go.Proofs.Ytlppphhgbfehcaa
