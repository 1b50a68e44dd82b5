/- GroupBack. -/
import Derived.Test.YtlmaloikhmkokaaGrL
import Derived.Test.YtlmaloikhmkokaaLawC
namespace Go.Proofs.Ytlmaloikhmkokaa
open Go.RowKit

set_option maxRecDepth 100000 in
set_option maxHeartbeats 1000000 in
theorem back_any (v : Value) (l : List Ev) (w : World) (h : RE w v l) : Calls Try.prog 4 #[v] w (Tr w) := by
  have R := Lib.hid h
  obtain ⟨a, b, off, cap, rfl, hcap, hmax, h3⟩ := h
  clear h3 hcap hmax
  obtain ⟨n, hn⟩ : ∃ n, n = l.length := ⟨_, rfl⟩
  rw [← hn] at R
  rw [← hn]
  have HN := Lib.hid hn
  clear hn
  go_enter Try.func4, Try.ntmps4
  go_wp2_with (go_at_call 7; refine stop ?_)
  refine Stop.go ((awake_any _).mono ?_)
  rintro e w1 ⟨rfl, f1⟩
  have F1 := Lib.hid f1
  have R1 := Lib.hid (R.out.fr f1)
  clear f1 R
  by_cases c1 : 600 < n
  · go_wp2
    go_ret
    exact ⟨rfl, F1.out⟩
  · go_wp2_with (go_at_call 8; refine stop ?_)
    refine Stop.go ((group_any _ l _ R1.out (by have := HN.out; omega)).mono ?_)
    intro e w2 g2
    by_cases hc : (grun l 0 []).2.2 = 0
    · obtain ⟨v2, rfl, hv2, f2⟩ := g2.of (grun_zero l 0 [] hc) hc
      obtain ⟨r1, r2, r3⟩ := first_ok hc
      have hgd := grun_good l 0 [] hc (by simp)
      obtain ⟨ts, hts⟩ : ∃ ts, ts = (grun l 0 []).1.map Prod.fst := ⟨_, rfl⟩
      rw [← hts] at hv2 r1 r2
      have hgood : ∀ t ∈ ts, good t := fun t ht => by
        rw [hts] at ht
        obtain ⟨x, hx, rfl⟩ := List.mem_map.1 ht
        exact hgd x hx
      have hm32 : ts.length ≤ 32 := by omega
      have hsum : tsum ts ≤ 600 := by have := nI_le l; have := HN.out; omega
      have hback := grun_back ts 0 [] hgood (by simp) (by simp; omega)
      rw [List.nil_append] at hback
      have hops : ∀ t ∈ ts, t.o.length ≤ 100000 := fun t ht => by have := tsum_mem ht; omega
      have hel : (evs ts).length ≤ 10000 := by rw [evs_sum]; omega
      have V2 := Lib.hid hv2
      obtain ⟨a4, b4, off4, cap4, rfl, -, -, -⟩ := hv2
      have F2 := Lib.hid (F1.out.step f2)
      obtain ⟨m, hm⟩ : ∃ m, m = ts.length := ⟨_, rfl⟩
      rw [← hm] at V2 hm32
      rw [← hm]
      have HM := Lib.hid hm
      have HB := Lib.hid hback
      have HO := Lib.hid hops
      clear hm r1 r2 r3 hts g2 f2 hc R1 F1 hgd hgood hback hops hsum
      go_wp2_with (go_at_call 13; refine stop ?_)
      refine Stop.go ((events_any _ ts _ V2.out (by have := HM.out; omega) HO.out).mono ?_)
      rintro e w3 ⟨v3, rfl, hv3, f3⟩
      have F3 := Lib.hid (F2.out.step f3)
      have V3 := Lib.hid (V2.out.fr f3)
      have E3 := Lib.hid hv3
      clear hv3 f3 V2 F2
      go_wp2_with (go_at_call 8; refine stop ?_)
      refine Stop.go ((group_any _ (evs ts) _ E3.out hel).mono ?_)
      intro e w4 g4
      obtain ⟨v4, rfl, hv4, f4⟩ := g4.of (p := 0) (c := 0) (by rw [HB.out]) (by rw [HB.out])
      rw [HB.out] at hv4
      obtain ⟨us, hus⟩ : ∃ us, us = (mk ts 0).map Prod.fst := ⟨_, rfl⟩
      have hat := mk_at ts 0
      simp only at hv4
      rw [← hus] at hv4 hat
      have hul : us.length = m := by rw [hus, List.length_map, mk_len]; exact HM.out.symm
      have F4 := Lib.hid (F3.out.step f4)
      have V4 := Lib.hid (V3.out.fr f4)
      have U4 := Lib.hid hv4
      have HU := Lib.hid hul
      have AT := Lib.hid hat
      obtain ⟨a5, b5, off5, cap5, rfl, -, -, -⟩ := hv4
      rw [hul] at U4
      rw [hul]
      clear g4 f4 V3 F3 E3 hus hat hul HB
      go_wp2_with (go_at_call 11; refine stop ?_)
      refine Stop.go ((plain_any _ ts _ V4.out (by have := HM.out; omega)).mono ?_)
      rintro e w5 ⟨v5, rfl, hv5, f5⟩
      have F5 := Lib.hid (F4.out.step f5)
      have U5 := Lib.hid (U4.out.fr f5)
      have P5 := Lib.hid hv5
      clear hv5 f5 V4 F4 U4
      go_wp2_with (go_at_call 11; refine stop ?_)
      refine Stop.go ((plain_any _ us _ U5.out (by have := HU.out; omega)).mono ?_)
      rintro e w6 ⟨v6, rfl, hv6, f6⟩
      have F6 := Lib.hid (F5.out.step f6)
      have P6 := P5.out.fr f6
      obtain ⟨a7, b7, off7, cap7, rfl, -, -, ht7⟩ := P6
      obtain ⟨a8, b8, off8, cap8, rfl, -, -, ht8⟩ := hv6
      rw [HU.out]
      rw [← HM.out]
      have T7 := Lib.hid ht7
      have T8 := Lib.hid ht8
      clear ht7 ht8 f6 U5 P5 F5
      go_wp2_with fail
      go_loopg [12] m (fun gk i wr => ∃ k : Nat, k + gk = m ∧ i = .int .i64 k ∧ Fr nob w6 wr)
      case atStart => exact ⟨0, Nat.zero_add _, rfl, Fr.refl _ _⟩
      case round =>
        obtain ⟨k, hk, rfl, hf⟩ := hrel
        have HK := Lib.hid hk
        have FW := Lib.hid hf
        have hkl : k ≤ m := by omega
        clear hk hf
        by_cases hlt : k < m
        · obtain ⟨x, hx⟩ : ∃ x, ts[k]? = some x := ⟨_, List.getElem?_eq_getElem (by have := HM.out; omega)⟩
          obtain ⟨p, hy⟩ := AT.out k x hx
          obtain rfl := T7.out.addr hx
          obtain rfl := T8.out.addr hy
          obtain ⟨sx, d0, d1, d2, d3, hsx⟩ := (T7.out.nob FW.out).2 k x hx
          obtain ⟨sy, e0, e1, e2, e3, hsy⟩ := (T8.out.nob FW.out).2 k _ hy
          obtain ⟨ax, nx, rfl, -⟩ := hsx.slice
          obtain ⟨ay, ny, rfl, -⟩ := hsy.slice
          have hone : oneB x { x with f := p } = true := by simp [oneB]
          have ONE : Hid (∀ W, Fr nob wr W → Calls Try.prog 15 #[.agg #[.int .i64 x.s, .bool x.d, .int .i64 x.f, .slice ax x.o.length nx], .agg #[.int .i64 x.s, .bool x.d, .int .i64 p, .slice ay x.o.length ny]] W fun e w' => e = .returned (.bool true) ∧ Fr nob W w') :=
            Lib.hid (fun W f => by have := one_any x { x with f := p } _ _ W (hsx.fr f) (hsy.fr f); rw [hone] at this; exact this)
          have hidx0 : (0 : Int) ≤ (k : Int) := Int.natCast_nonneg _
          have hidx1 : (k : Int) < (m : Int) := by omega
          simp only at e0 e1 e2 e3
          clear hx hy hsx hsy hone
          go_wp2_with fail
          go_region_with (go_at_call 15; refine (ONE.out _ ((Fr.refl nob wr).drew)).mono ?_; rintro e w7 ⟨rfl, f7⟩)
          all_goals
            have F7 := Lib.hid ((FW.out.drew).step f7)
            clear f7 d0 d1 d2 d3 e0 e1 e2 e3 ONE
            go_wp2
            go_roundg (gk - 1)
            case measure => have := HK.out; omega
            case rel => exact ⟨k + 1, by have := HK.out; omega, by go_num, F7.out⟩
        · go_wp2
          go_ret
          exact ⟨rfl, F6.out.step FW.out⟩
    · obtain ⟨j, hj, heq, -, -⟩ := grun_kinds l 0 [] hc
      obtain ⟨C, hC⟩ : ∃ C, C = (grun l 0 []).2.2 := ⟨_, rfl⟩
      rw [← hC] at heq hc
      rw [Nat.zero_add] at heq
      obtain ⟨v2, rfl, hv2, f2⟩ := g2.of (p := (j : Nat)) (c := C) (by rw [heq]) (by rw [hC])
      rw [heq] at hv2
      obtain ⟨a4, b4, off4, cap4, rfl, -⟩ := hv2
      have F2 := Lib.hid (F1.out.step f2)
      have hjn : j < n := by have := HN.out; omega
      have hj0 : (0 : Int) ≤ (j : Int) := Int.natCast_nonneg _
      have hj1 : (j : Int) < (n : Int) := by omega
      have hC1 : (C != 0) = true := by simpa using hc
      have hC0 : (C == 0) = false := by simpa using hc
      simp only [List.map_nil, List.length_nil]
      clear f2 g2 heq hC hj R1 F1
      go_wp2
      go_ret
      exact ⟨ret_bool (by simp), F2.out⟩

theorem back_walk (a : Option Addr) (len cap : Nat) (X : Nat → Nat → Int) (w : World) (h : NumsAt w a len cap [.i64, .i64, .i64, .i64] X) :
    Calls Try.prog 4 #[.slice a len cap] w fun e w' => e = .returned (.bool true) ∧ Below w.heap.size w w' := by
  obtain ⟨xs, _, hr⟩ := h.evs
  exact (back_any _ xs w hr).mono fun e w' ⟨h1, h2⟩ => ⟨h1, h2.below0⟩

end Go.Proofs.Ytlmaloikhmkokaa
