/- GroupFirst. -/
import Derived.Test.YtlmaloikhmkokaaGrK
import Derived.Test.YtlmaloikhmkokaaLawB
namespace Go.Proofs.Ytlmaloikhmkokaa
open Go.RowKit

theorem RE.take {w : World} {b off cap j : Nat} {l : List Ev} (h : EAt w (some ⟨b, off, none⟩) b off l) (hj : j ≤ l.length) (hc : l.length ≤ cap) (hm : cap ≤ maxLen) : RE w (.slice (some ⟨b, off, none⟩) j cap) (l.take j) :=
  ⟨_, b, off, cap, by rw [List.length_take]; rw [Nat.min_eq_left hj], by rw [List.length_take]; omega, hm, .inr rfl, fun i e he => h.2 i e (by rw [List.getElem?_take] at he; split at he; exact he; cases he)⟩
theorem GO.of {l : List Ev} {w w' : World} {e : Ending} {p : Int} {c : Int} (h : GO l w e w') (h1 : (grun l 0 []).2.1 = p) (h2 : (grun l 0 []).2.2 = c) : ∃ v, e = .returned (.tuple #[v, .int .i64 p, .int .i64 c]) ∧ RT w' v ((grun l 0 []).1.map Prod.fst) ∧ Fr nob w w' := by
  obtain ⟨v, r1, r2, r3⟩ := h
  rw [h1, h2] at r1
  exact ⟨v, r1, r2, r3⟩

theorem tsum_take (ts : List Tx) (k : Nat) : tsum (ts.take k) ≤ tsum ts := by
  have h : tsum ts = tsum (ts.take k) + tsum (ts.drop k) := by
    conv => lhs; rw [← List.take_append_drop k ts]
    simp only [tsum, List.map_append, List.sum_append]
  omega

set_option maxRecDepth 100000 in
set_option maxHeartbeats 1000000 in
theorem first_any (v : Value) (l : List Ev) (w : World) (h : RE w v l) : Calls Try.prog 6 #[v] w (Tr w) := by
  have R := Lib.hid h
  obtain ⟨a, b, off, cap, rfl, hcap, hmax, h3⟩ := h
  have H := Lib.hid h3
  unfold maxLen at hmax
  obtain ⟨n, hn⟩ : ∃ n, n = l.length := ⟨_, rfl⟩
  rw [← hn] at R hcap
  rw [← hn]
  have HN := Lib.hid hn
  clear hn h3
  go_enter Try.func6, Try.ntmps6
  go_wp2_with (go_at_call 7; refine stop ?_)
  refine Stop.go ((awake_any _).mono ?_)
  rintro e w1 ⟨rfl, f1⟩
  have F1 := Lib.hid f1
  have R1 := Lib.hid (R.out.fr f1)
  clear f1 R
  by_cases c1 : 600 < n
  · go_wp2
    go_ret
    exact ⟨rfl, F1.out⟩
  · go_wp2_with (go_at_call 8; refine stop ?_)
    refine Stop.go ((group_any _ l _ R1.out (by have := HN.out; omega)).mono ?_)
    intro e w2 g2
    by_cases hc : (grun l 0 []).2.2 = 0
    · obtain ⟨v2, rfl, hv2, f2⟩ := g2.of (grun_zero l 0 [] hc) hc
      obtain ⟨r1, r2, r3⟩ := first_ok hc
      obtain ⟨ts, hts⟩ : ∃ ts, ts = (grun l 0 []).1.map Prod.fst := ⟨_, rfl⟩
      rw [← hts] at hv2 r1 r2
      obtain ⟨a4, b4, off4, cap4, rfl, -, -, ht⟩ := hv2
      have T := Lib.hid ht
      have F2 := Lib.hid (F1.out.step f2)
      obtain ⟨m, hm⟩ : ∃ m, m = ts.length := ⟨_, rfl⟩
      rw [← hm] at r2
      rw [← hm]
      have HM := Lib.hid hm
      have RR1 := Lib.hid r1
      have RR2 := Lib.hid r2
      have hm32 : m ≤ 32 := by omega
      clear ht hm r1 r2 r3 hts g2 f2 hc R1 F1
      go_wp2_with fail
      go_loopg [13, 14] m (fun gk s13 i wr => ∃ k : Nat, k + gk = m ∧ i = .int .i64 k ∧ s13 = .int .i64 (tsum (ts.take k) : Nat) ∧ wr = w2)
      case atStart => exact ⟨0, Nat.zero_add _, rfl, rfl, rfl⟩
      case round =>
        obtain ⟨k, hk, rfl, rfl, rfl⟩ := hrel
        have HK := Lib.hid hk
        have hkl : k ≤ m := by omega
        clear hk
        have hS0 : tsum (ts.take k) ≤ 600 := by have h1 := tsum_take ts k; have h2 := RR1.out; have h3 := nI_le l; have := HN.out; omega
        by_cases hlt : k < m
        · obtain ⟨x, hx⟩ : ∃ x, ts[k]? = some x := ⟨_, List.getElem?_eq_getElem (by have := HM.out; omega)⟩
          obtain rfl := T.out.addr hx
          obtain ⟨sv, -, -, -, d3, hsv⟩ := T.out.2 k x hx
          obtain ⟨a7, n7, rfl, -⟩ := hsv.slice
          have hS1 : tsum (ts.take (k + 1)) = tsum (ts.take k) + x.o.length := by rw [take_snoc hx, tsum_snoc]
          have hS2 : tsum (ts.take k) + x.o.length ≤ 600 := by have h1 := tsum_take ts (k + 1); have h2 := RR1.out; have h3 := nI_le l; have := HN.out; omega
          have HS1 := Lib.hid hS1
          have hidx0 : (0 : Int) ≤ (k : Int) := Int.natCast_nonneg _
          have hidx1 : (k : Int) < (m : Int) := by omega
          clear hx hsv hS1
          go_wp2
          go_roundg (gk - 1)
          case measure => have := HK.out; omega
          case rel => exact ⟨k + 1, by have := HK.out; omega, by go_num, by rw [HS1.out]; go_num, rfl⟩
        · have hkm : k = m := by omega
          have hS : tsum (ts.take k) = nI l := by rw [List.take_of_length_le (by have := HM.out; omega)]; exact RR1.out
          rw [hS]
          have HB := Lib.hid (nI_le l)
          have HB2 := Lib.hid (nB_le l)
          clear hS hS0 HK hkm
          go_wp2_with fail
          go_loopg [15, 16, 17] n (fun gq s15 s16 i wz => ∃ k : Nat, k + gq = n ∧ i = .int .i64 k ∧ s15 = .int .i64 (nI (l.take k) : Nat) ∧ s16 = .int .i64 (nB (l.take k) : Nat) ∧ wz = wr)
          case atStart => exact ⟨0, Nat.zero_add _, rfl, rfl, rfl, rfl⟩
          case round =>
            obtain ⟨k2, hk2, rfl, rfl, rfl, rfl⟩ := hrel
            have HK2 := Lib.hid hk2
            have hkl2 : k2 ≤ n := by omega
            have hq1 : nI (l.take k2) ≤ 600 := by have := nI_le (l.take k2); rw [List.length_take] at this; have := HN.out; omega
            have hq2 : nB (l.take k2) ≤ 600 := by have := nB_le (l.take k2); rw [List.length_take] at this; have := HN.out; omega
            clear hk2
            by_cases hlt2 : k2 < n
            · obtain ⟨e, he⟩ : ∃ e, l[k2]? = some e := ⟨_, List.getElem?_eq_getElem (by have := HN.out; omega)⟩
              obtain rfl := H.out.addr he
              obtain ⟨d0, -⟩ := (H.out.nob F2.out).2 k2 e he
              have hI : nI (l.take (k2 + 1)) = nI (l.take k2) + (if itemB e.k then 1 else 0) := by rw [take_snoc he, nI_snoc]
              have hB : nB (l.take (k2 + 1)) = nB (l.take k2) + (if e.k == 0 then 1 else 0) := by rw [take_snoc he, nB_snoc]
              have hidx0 : (0 : Int) ≤ (k2 : Int) := Int.natCast_nonneg _
              have hidx1 : (k2 : Int) < (n : Int) := by omega
              obtain ⟨K, hK⟩ : ∃ K, K = e.k := ⟨_, rfl⟩
              rw [← hK] at d0 hI hB
              clear he hK
              by_cases q1 : K = 1
              · subst q1
                have HI : Hid (nI (l.take (k2 + 1)) = nI (l.take k2) + 1) := Lib.hid hI
                have HBB : Hid (nB (l.take (k2 + 1)) = nB (l.take k2)) := Lib.hid hB
                clear hI hB
                go_wp2
                go_roundg (gk - 1)
                case measure => have := HK2.out; omega
                case rel => exact ⟨k2 + 1, by have := HK2.out; omega, by go_num, by rw [HI.out]; go_num, by rw [HBB.out], rfl⟩
              · by_cases q2 : K = 2
                · subst q2
                  have HI : Hid (nI (l.take (k2 + 1)) = nI (l.take k2) + 1) := Lib.hid (hI)
                  have HBB : Hid (nB (l.take (k2 + 1)) = nB (l.take k2)) := Lib.hid (hB)
                  clear hI hB
                  go_wp2
                  go_roundg (gk - 1)
                  case measure => have := HK2.out; omega
                  case rel => exact ⟨k2 + 1, by have := HK2.out; omega, by go_num, by rw [HI.out]; go_num, by rw [HBB.out], rfl⟩
                · by_cases q0 : K = 0
                  · subst q0
                    have HI : Hid (nI (l.take (k2 + 1)) = nI (l.take k2)) := Lib.hid (hI)
                    have HBB : Hid (nB (l.take (k2 + 1)) = nB (l.take k2) + 1) := Lib.hid (hB)
                    clear hI hB
                    go_wp2
                    go_roundg (gk - 1)
                    case measure => have := HK2.out; omega
                    case rel => exact ⟨k2 + 1, by have := HK2.out; omega, by go_num, by rw [HI.out], by rw [HBB.out]; go_num, rfl⟩
                  · have b1 : (K == 1) = false := by simpa using q1
                    have b2 : (K == 2) = false := by simpa using q2
                    have b0 : (K == 0) = false := by simpa using q0
                    have HI : Hid (nI (l.take (k2 + 1)) = nI (l.take k2)) := Lib.hid (by rw [hI]; simp [itemB, b1, b2])
                    have HBB : Hid (nB (l.take (k2 + 1)) = nB (l.take k2)) := Lib.hid (by rw [hB, b0]; rfl)
                    clear hI hB
                    go_wp2
                    go_roundg (gk - 1)
                    case measure => have := HK2.out; omega
                    case rel => exact ⟨k2 + 1, by have := HK2.out; omega, by go_num, by rw [HI.out], by rw [HBB.out], rfl⟩
            · have e1 : nI (l.take k2) = nI l := by rw [List.take_of_length_le (by have := HN.out; omega)]
              have e2 : nB (l.take k2) = m := by rw [List.take_of_length_le (by have := HN.out; omega)]; exact RR2.out
              have hq3 := hq1
              rw [e1] at hq3 ⊢
              rw [e2]
              clear e1 e2 hq1 hq2
              have hm32' : decide ((m : Int) ≤ 32) = true := by simp; omega
              go_wp2
              go_ret
              exact ⟨ret_bool (by first | rfl | exact hm32'), F2.out⟩
    · obtain ⟨j, hj, heq, g3, g4⟩ := grun_kinds l 0 [] hc
      obtain ⟨C, hC⟩ : ∃ C, C = (grun l 0 []).2.2 := ⟨_, rfl⟩
      rw [← hC] at heq g4 hc
      rw [Nat.zero_add] at heq g4
      obtain ⟨v2, rfl, hv2, f2⟩ := g2.of (p := (j : Nat)) (c := C) (by rw [heq]) (by rw [hC])
      obtain ⟨a4, b4, off4, cap4, rfl, -⟩ := hv2
      obtain ⟨L4, hL4⟩ : ∃ L4, L4 = ((grun l 0 []).1.map Prod.fst).length := ⟨_, rfl⟩
      rw [← hL4]
      clear hL4
      obtain ⟨y, hy⟩ : ∃ y, l[j]? = some y := ⟨_, List.getElem?_eq_getElem hj⟩
      obtain rfl := H.out.addr hy
      have F2 := Lib.hid (F1.out.step f2)
      have hjn : j < n := by have := HN.out; omega
      have hj0 : (0 : Int) ≤ (j : Int) := Int.natCast_nonneg _
      have hj1 : (j : Int) < (n : Int) := by omega
      have hj2 : (j : Int) ≤ (cap : Int) := by omega
      have hj3 : (j : Int) + 1 ≤ (cap : Int) := by omega
      have hC0 : (C == 0) = false := by simpa using hc
      have hC1 : (C != 0) = true := by simpa using hc
      have G3 := Lib.hid g3
      have G4 := Lib.hid g4
      have HJ := Lib.hid hj
      clear hy f2 g2 heq hC g3 g4 hj R1 F1
      go_wp2_with (go_at_call 8; refine stop ?_)
      refine Stop.go ((group_any _ (l.take j) _ (RE.take (H.out.nob F2.out) (by have := HJ.out; omega) (by have := HN.out; omega) (by unfold maxLen; omega)) (by rw [List.length_take]; have := HN.out; omega)).mono ?_)
      intro e w3 g5
      obtain ⟨v3, rfl, -, f3⟩ := g5.of (grun_zero _ 0 [] G3.out) G3.out
      have F3 := Lib.hid (F2.out.step f3)
      clear g5 f3 F2
      go_wp2_with (go_at_call 8; refine stop ?_)
      refine Stop.go ((group_any _ (l.take (j + 1)) _ (RE.take (H.out.nob F3.out) (by have := HJ.out; omega) (by have := HN.out; omega) (by unfold maxLen; omega)) (by rw [List.length_take]; have := HN.out; omega)).mono ?_)
      intro e w4 g6
      obtain ⟨v4, rfl, -, f4⟩ := g6.of (p := (j : Nat)) (c := C) (by rw [G4.out]) (by rw [G4.out])
      have F4 := Lib.hid (F3.out.step f4)
      clear g6 f4 F3
      go_wp2
      go_ret
      exact ⟨rfl, F4.out⟩

theorem first_walk (a : Option Addr) (len cap : Nat) (X : Nat → Nat → Int) (w : World) (h : NumsAt w a len cap [.i64, .i64, .i64, .i64] X) :
    Calls Try.prog 6 #[.slice a len cap] w fun e w' => e = .returned (.bool true) ∧ Below w.heap.size w w' := by
  obtain ⟨xs, _, hr⟩ := h.evs
  exact (first_any _ xs w hr).mono fun e w' ⟨h1, h2⟩ => ⟨h1, h2.below0⟩

end Go.Proofs.Ytlmaloikhmkokaa
