/- Same. -/
import Derived.Test.YtlppphhgbfehcaaScB
namespace Go.Proofs.Ytlppphhgbfehcaa
open Go.RowKit

set_option maxRecDepth 100000 in
theorem same_any (v v' : Value) (xs ys : List Pk) (w : World) (h : RP w v xs) (h' : RP w v' ys) :
    Calls Try.prog 13 #[v, v'] w fun e w' => e = .returned (.bool (decide (xs = ys))) ∧ Fr nob w w' := by
  obtain ⟨a, b, off, cap, rfl, h1, h2, h3⟩ := h
  obtain ⟨a', b', off', cap', rfl, h1', h2', h3'⟩ := h'
  unfold maxLen at h2 h2'
  have H := Lib.hid h3
  have H' := Lib.hid h3'
  clear h3 h3'
  by_cases hl : xs.length = ys.length
  · obtain ⟨n, hn⟩ : ∃ n, n = xs.length := ⟨_, rfl⟩
    rw [← hl, ← hn]
    have HN := Lib.hid hn
    have HL := Lib.hid (hn.trans hl)
    have hn63 : n ≤ 9223372036854775807 := by omega
    clear hl hn h1 h2 h1' h2'
    go_enter Try.func13, Try.ntmps13
    go_wp2_with fail
    go_loopg [5] n (fun gk i wr => ∃ k : Nat, k + gk = n ∧ i = .int .i64 k ∧ xs.take k = ys.take k ∧ Fr nob w wr)
    case atStart => exact ⟨0, Nat.zero_add _, rfl, rfl, Fr.refl _ _⟩
    case round =>
      obtain ⟨k, hk, rfl, ht, hf⟩ := hrel
      have F := Lib.hid hf
      have HK := Lib.hid hk
      have HT := Lib.hid ht
      have hkl : k ≤ n := by omega
      clear ht hf hk
      by_cases hlt : k < n
      · obtain ⟨x, hx⟩ : ∃ x, xs[k]? = some x := ⟨_, List.getElem?_eq_getElem (by have := HN.out; omega)⟩
        obtain ⟨y, hy⟩ : ∃ y, ys[k]? = some y := ⟨_, List.getElem?_eq_getElem (by have := HL.out; omega)⟩
        obtain rfl := H.out.addr hx
        obtain rfl := H'.out.addr hy
        obtain ⟨d0, d1⟩ := (H.out.nob F.out).2 k x hx
        obtain ⟨e0, e1⟩ := (H'.out.nob F.out).2 k y hy
        have HX := Lib.hid hx
        have HY := Lib.hid hy
        clear hx hy
        have hidx0 : (0 : Int) ≤ (k : Int) := Int.natCast_nonneg _
        have hidx1 : (k : Int) < (n : Int) := by omega
        obtain ⟨x1, x2⟩ := x
        obtain ⟨y1, y2⟩ := y
        by_cases q1 : x1 = y1
        · subst q1
          by_cases q2 : x2 = y2
          · subst q2
            go_wp2_with fail
            go_quiet (fail)
            have F1 := Lib.hid (F.out.drewN nq)
            clear d0 d1 e0 e1
            go_wp2
            go_roundg (gk - 1)
            case measure => have := HK.out; omega
            case rel => exact ⟨k + 1, by have := HK.out; omega, by go_num, by rw [take_snoc HX.out, take_snoc HY.out, HT.out], F1.out⟩
          · have q2' : (x2 == y2) = false := by simpa using q2
            have q2'' : (x2 != y2) = true := by simpa using q2
            have NE : Hid (¬ xs = ys) := Lib.hid (fun e => by have := HX.out; rw [e, HY.out] at this; simp at this; exact q2 this.symm)
            go_wp2_with fail
            go_quiet (fail)
            have F1 := Lib.hid (F.out.drewN nq)
            clear d0 d1 e0 e1
            go_wp2
            go_ret
            exact ⟨ret_bool (by simp [NE.out]), F1.out⟩
        · have q1' : (x1 == y1) = false := by simpa using q1
          have q1'' : (x1 != y1) = true := by simpa using q1
          have NE : Hid (¬ xs = ys) := Lib.hid (fun e => by have := HX.out; rw [e, HY.out] at this; simp at this; exact q1 this.1.symm)
          go_wp2_with fail
          go_quiet (fail)
          have F1 := Lib.hid (F.out.drewN nq)
          clear d0 d1 e0 e1
          go_wp2
          go_ret
          exact ⟨ret_bool (by simp [NE.out]), F1.out⟩
      · have EQ : Hid (xs = ys) := Lib.hid (by
          have hkn : k = n := by omega
          have := HT.out
          rw [hkn] at this
          rw [List.take_of_length_le (by have := HN.out; omega), List.take_of_length_le (by have := HL.out; omega)] at this
          exact this)
        go_wp2
        go_ret
        exact ⟨ret_bool (by simp [EQ.out]), F.out⟩
  · have NE : Hid (¬ xs = ys) := Lib.hid (fun e => hl (by rw [e]))
    have hl' : ((xs.length : Int) == (ys.length : Int)) = false := by simp; omega
    have hl'' : ((xs.length : Int) != (ys.length : Int)) = true := by simp; omega
    go_enter Try.func13, Try.ntmps13
    go_wp2
    go_ret
    exact ⟨ret_bool (by simp [NE.out]), Fr.refl _ _⟩

end Go.Proofs.Ytlppphhgbfehcaa
