/- GroupApart. -/
import Derived.Test.YtlmaloikhmkokaaGrM
import Derived.Test.YtlmaloikhmkokaaLawD
namespace Go.Proofs.Ytlmaloikhmkokaa
open Go.RowKit

theorem appInt : AppT Try.prog 42 3 1 8 := AppT.of Try.underlying42 (z := .int .i64 0) (by kernel_rfl) rfl (by decide)
def ic (xs : List Int) : List Value := xs.map (Value.int .i64)
theorem ic_app (xs ys : List Int) : ic (xs ++ ys) = ic xs ++ ic ys := by simp [ic]
def ft (s : Int) (ts : List Tx) : List Tx := ts.filter fun x => x.s == s
def cnt (s : Int) (ts : List Tx) (k : Nat) : Nat := (ft s (ts.take k)).length
theorem ft_at {s : Int} {ts : List Tx} {i : Nat} {x : Tx} (h : ts[i]? = some x) (hs : x.s = s) : (ft s ts)[cnt s ts i]? = some x := by
  obtain ⟨hi, hv⟩ := List.getElem?_eq_some_iff.1 h
  have h1 : ft s ts = ft s (ts.take i) ++ x :: ft s (ts.drop (i + 1)) := by
    conv => lhs; rw [← List.take_append_drop i ts, List.drop_eq_getElem_cons hi, hv]
    unfold ft
    rw [List.filter_append, List.filter_cons, if_pos (by simpa using hs)]
  rw [h1]
  unfold cnt
  rw [List.getElem?_append_right (Nat.le_refl _)]
  simp
theorem cnt_next {s : Int} {ts : List Tx} {i : Nat} {x : Tx} (h : ts[i]? = some x) : cnt s ts (i + 1) = if x.s = s then cnt s ts i + 1 else cnt s ts i := by
  unfold cnt ft
  rw [take_snoc h]
  by_cases hs : x.s = s <;> simp [hs]
theorem cnt_le (s : Int) (ts : List Tx) (k : Nat) : cnt s ts k ≤ ts.length := by
  unfold cnt ft
  have := List.length_filter_le (fun x : Tx => x.s == s) (ts.take k)
  rw [List.length_take] at this
  omega
theorem apart {l : List Ev} (s : Int) (h : (grun l 0 []).2.2 = 0) : (grun (own s l) 0 []).2.2 = 0 ∧ (ft s ((grun l 0 []).1.map Prod.fst)).length = ((grun (own s l) 0 []).1.map Prod.fst).length ∧
    ∀ (k : Nat) (x : Tx), (ft s ((grun l 0 []).1.map Prod.fst))[k]? = some x → ∃ (y : Tx) (p : Nat), ((grun (own s l) 0 []).1.map Prod.fst)[k]? = some y ∧ oneB x y = true ∧ y.f = (p : Nat) ∧ (pls s l 0)[p]? = some x.f := by
  obtain ⟨h1, h2, h3⟩ := sim s l 0 [] [] [] ⟨rfl, by simp [fs]⟩ (by simp) h
  simp only [List.nil_append, List.length_nil] at h1 h2 h3
  have hm : ft s ((grun l 0 []).1.map Prod.fst) = (fs s (grun l 0 []).1).map Prod.fst := by
    unfold ft fs; rw [List.filter_map]; rfl
  refine ⟨h1, by rw [hm, List.length_map, List.length_map]; exact h2, fun k x hx => ?_⟩
  rw [hm, List.getElem?_map, Option.map_eq_some_iff] at hx
  obtain ⟨a, ha, rfl⟩ := hx
  have hk := (List.getElem?_eq_some_iff.1 ha).1
  obtain ⟨b, hb⟩ : ∃ b, (grun (own s l) 0 []).1[k]? = some b := ⟨_, List.getElem?_eq_getElem (by rw [← show _ = _ from h2]; exact hk)⟩
  obtain ⟨q1, q2, q3, q4, q5, p, q6, q7⟩ := h3 k a b ha hb
  exact ⟨b.1, p, by rw [List.getElem?_map]; exact congrArg (Option.map Prod.fst) hb, by simp [oneB, q1, q2, q3, q4], q6, q7⟩

theorem ints_at {w : World} {B : Nat} {v : Value} {n : Nat} {xs : List Int} (h : w.ownsRow B 3 1 v n (ic xs)) {j : Nat} {i : Int} (hj : xs[j]? = some i) :
    ∃ g cap, v = .slice (some ⟨g, 0, none⟩) n cap ∧ w.cell? ⟨g, j, none⟩ = some (.int .i64 i) ∧ j < n := by
  have hl := h.1
  have hjl := (List.getElem?_eq_some_iff.1 hj).1
  simp [ic] at hl
  rcases h.2 with ⟨rfl, h0⟩ | ⟨g, cap, cur, rfl, hb, hg, hn, hc, hs, ht⟩
  · omega
  · have c := h.cells (g := g) rfl j (.int .i64 i) (by simp [ic, hj])
    rw [Addr.add_lit, Nat.zero_add] at c
    exact ⟨g, cap, rfl, c, by omega⟩

set_option maxRecDepth 100000 in
set_option maxHeartbeats 1000000 in
theorem apart_any (v : Value) (l : List Ev) (s : Int) (w : World) (h : RE w v l) : Calls Try.prog 5 #[v, .int .i64 s] w (Tr w) := by
  have R := Lib.hid h
  obtain ⟨a, b, off, cap, rfl, hcap, hmax, h3⟩ := h
  have H := Lib.hid h3
  clear h3 hcap hmax
  obtain ⟨n, hn⟩ : ∃ n, n = l.length := ⟨_, rfl⟩
  rw [← hn] at R
  rw [← hn]
  have HN := Lib.hid hn
  clear hn
  go_enter Try.func5, Try.ntmps5
  go_wp2_with (go_at_call 7; refine stop ?_)
  refine Stop.go ((awake_any _).mono ?_)
  rintro e w1 ⟨rfl, f1⟩
  have F1 := Lib.hid f1
  have R1 := Lib.hid (R.out.fr f1)
  clear f1 R
  by_cases c1 : 600 < n
  · go_wp2
    go_ret
    exact ⟨rfl, F1.out⟩
  · go_wp2_with (go_at_call 8; refine stop ?_)
    refine Stop.go ((group_any _ l _ R1.out (by have := HN.out; omega)).mono ?_)
    intro e w2 g2
    by_cases hc : (grun l 0 []).2.2 = 0
    · obtain ⟨v2, rfl, hv2, f2⟩ := g2.of (grun_zero l 0 [] hc) hc
      obtain ⟨r1, r2, r3⟩ := first_ok hc
      obtain ⟨p1, p2, p3⟩ := apart s hc
      obtain ⟨ts, hts⟩ : ∃ ts, ts = (grun l 0 []).1.map Prod.fst := ⟨_, rfl⟩
      rw [← hts] at hv2 r2 p2 p3
      have V2 := Lib.hid hv2
      obtain ⟨a4, b4, off4, cap4, rfl, -, -, -⟩ := hv2
      have F2 := Lib.hid (F1.out.step f2)
      obtain ⟨m, hm⟩ : ∃ m, m = ts.length := ⟨_, rfl⟩
      rw [← hm] at V2
      rw [← hm]
      have hm32 : m ≤ 32 := by omega
      have HM := Lib.hid hm
      have P1 := Lib.hid p1
      have P2 := Lib.hid p2
      have P3 := Lib.hid p3
      clear hm r1 r2 r3 hts g2 f2 hc R1 F1 p1 p2 p3
      obtain ⟨B, hB⟩ : ∃ B, B = w2.heap.size := ⟨_, rfl⟩
      have HB := Lib.hid hB
      clear hB
      go_wp2_with fail
      go_loopg [9, 10, 11] n (fun gk s9 s10 i wr => ∃ k : Nat, k + gk = n ∧ i = .int .i64 k ∧ wr.ownsRow B 44 4 s9 (own s (l.take k)).length (ec (own s (l.take k))) ∧ wr.ownsRow B 3 1 s10 (own s (l.take k)).length (ic (pls s (l.take k) 0)) ∧ Fr nob w2 wr)
      case atStart => exact ⟨0, Nat.zero_add _, rfl, World.ownsRow_nil _ _ _ _, World.ownsRow_nil _ _ _ _, Fr.refl _ _⟩
      case round =>
        obtain ⟨k, hk, rfl, ho, hp, hf2⟩ := hrel
        obtain ⟨q, hq⟩ : ∃ q, q = (own s (l.take k)).length := ⟨_, rfl⟩
        have hqk : q ≤ 600 := by
          have h1 : (own s (l.take k)).length ≤ (l.take k).length := List.length_filter_le _ _
          rw [List.length_take] at h1
          have := HN.out; omega
        rw [← hq] at ho hp
        obtain ⟨a9, cap9, rfl, -, -⟩ := owns_shape ho
        obtain ⟨a10, cap10, rfl, -, -⟩ := owns_shape hp
        have HK := Lib.hid hk
        have HQ := Lib.hid hq
        have OO := Lib.hid ho
        have PP := Lib.hid hp
        have FF := Lib.hid hf2
        have F := Lib.hid (F2.out.step hf2)
        have hkl : k ≤ n := by omega
        clear hk hq ho hp hf2
        by_cases hlt : k < n
        · obtain ⟨e, he⟩ : ∃ e, l[k]? = some e := ⟨_, List.getElem?_eq_getElem (by have := HN.out; omega)⟩
          obtain rfl := H.out.addr he
          obtain ⟨d0, d1, d2, d3⟩ := (H.out.nob F.out).2 k e he
          have hidx0 : (0 : Int) ≤ (k : Int) := Int.natCast_nonneg _
          have hidx1 : (k : Int) < (n : Int) := by omega
          have hon := own_snoc s (l.take k) e
          have hpn := pls_snoc s e (l.take k) 0
          rw [← take_snoc he] at hon hpn
          rw [Nat.zero_add, List.length_take, Nat.min_eq_left (by have := HN.out; omega)] at hpn
          clear he
          obtain ⟨ek, es, ey, ev⟩ := e
          simp only at d0 d1 d2 d3 hon hpn
          by_cases hs : es = s
          · have hs' : s = es := hs.symm
            rw [if_pos hs] at hon hpn
            subst hs'
            have HON := Lib.hid hon
            have HPN := Lib.hid hpn
            clear hon hpn hs
            go_wp2_with (at_builtin; refine stop ?_)
            refine Stop.go (wpList_app rfl (.tmp 50) (.tmp 55) rfl appEv rfl (base := B) (n := q) (xs := ec (own s (l.take k))) ?p1 (m := 1) (news := ec [⟨ek, s, ey, ev⟩]) rfl rfl ?p3 ?p4 ?p5 ?p6 ?p7)
            case p1 => exact OO.out.alloc _
            case p3 => exact Src.block (cs := #[.int .i64 ek, .int .i64 s, .int .i64 ey, .int .i64 ev]) (obj_new rfl _) (ec_one [⟨ek, s, ey, ev⟩])
            case p4 => omega
            case p5 => simp only [maxLen]; omega
            case p6 => have := FF.out.size; have := HB.out; simp; omega
            case p7 =>
              intro v3 w3 ho3 hg3 _
              have FF3 := Lib.hid ((FF.out.alloc _).grownOwn (by have := HB.out; omega) (OO.out.alloc _) hg3)
              have PP3 : Hid (w3.ownsRow B 3 1 (.slice a10 q cap10) q (ic (pls s (l.take k) 0))) := Lib.hid ((fr_of_grownBy hg3).owns (PP.out.alloc _) (fun i hi x => own_ne OO.out PP.out (by decide) x hi))
              obtain ⟨a11, cap11, rfl, -, -⟩ := owns_shape ho3
              have OO3 : Hid (w3.ownsRow B 44 4 (.slice a11 (q + 1) cap11) (q + 1) (ec (own s (l.take (k + 1))))) := Lib.hid (by rw [HON.out, ec_app]; exact ho3)
              clear ho3 hg3 OO PP F FF d0 d1 d2 d3
              go_wp2_with (at_builtin; refine stop ?_)
              refine Stop.go (wpList_app rfl (.tmp 57) (.tmp 59) rfl appInt rfl (base := B) (n := q) (xs := ic (pls s (l.take k) 0)) ?q1 (m := 1) (news := [.int .i64 k]) rfl rfl ?q3 ?q4 ?q5 ?q6 ?q7)
              case q1 => exact PP3.out.alloc _
              case q3 => exact Src.one _ _ _ rfl
              case q4 => omega
              case q5 => simp only [maxLen]; omega
              case q6 => have := FF3.out.size; have := HB.out; simp; omega
              case q7 =>
                intro v5 w5 ho5 hg5 _
                have FF5 := Lib.hid ((FF3.out.alloc _).grownOwn (by have := HB.out; omega) (PP3.out.alloc _) hg5)
                have OO5 : Hid (w5.ownsRow B 44 4 (.slice a11 (q + 1) cap11) (own s (l.take (k + 1))).length (ec (own s (l.take (k + 1))))) := Lib.hid (by
                  have := (fr_of_grownBy hg5).owns (OO3.out.alloc _) (fun i hi x => own_ne PP3.out OO3.out (by decide) x hi)
                  have hl : (own s (l.take (k + 1))).length = q + 1 := by rw [HON.out, List.length_append, ← HQ.out]; rfl
                  rw [hl]; exact this)
                obtain ⟨a13, cap13, rfl, -, -⟩ := owns_shape ho5
                have PP5 : Hid (w5.ownsRow B 3 1 (.slice a13 (q + 1) cap13) (own s (l.take (k + 1))).length (ic (pls s (l.take (k + 1)) 0))) := Lib.hid (by
                  have hl : (own s (l.take (k + 1))).length = q + 1 := by rw [HON.out, List.length_append, ← HQ.out]; rfl
                  rw [hl, HPN.out, ic_app]; exact ho5)
                clear ho5 hg5 OO3 PP3 FF3
                go_wp2
                go_roundg (gk - 1)
                case measure => have := HK.out; omega
                case rel => exact ⟨k + 1, by have := HK.out; omega, by go_num, OO5.out, PP5.out, FF5.out⟩
          · have hs' : (es == s) = false := by simpa using hs
            rw [if_neg hs] at hon hpn
            have OO5 : Hid (wr.ownsRow B 44 4 (.slice a9 q cap9) (own s (l.take (k + 1))).length (ec (own s (l.take (k + 1))))) := Lib.hid (by rw [hon, ← HQ.out]; exact OO.out)
            have PP5 : Hid (wr.ownsRow B 3 1 (.slice a10 q cap10) (own s (l.take (k + 1))).length (ic (pls s (l.take (k + 1)) 0))) := Lib.hid (by rw [hon, hpn, ← HQ.out]; exact PP.out)
            clear hon hpn hs OO PP
            go_wp2
            go_roundg (gk - 1)
            case measure => have := HK.out; omega
            case rel => exact ⟨k + 1, by have := HK.out; omega, by go_num, OO5.out, PP5.out, FF.out⟩
        · have htk : l.take k = l := List.take_of_length_le (by have := HN.out; omega)
          have OO1 := OO.out
          have PP1 := PP.out
          have HQ1 := HQ.out
          rw [htk] at OO1 PP1 HQ1
          have OO := Lib.hid OO1
          have PP := Lib.hid PP1
          have HQ := Lib.hid HQ1
          clear htk OO1 PP1 HQ1 HK hkl
          go_wp2_with (go_at_call 8; refine stop ?_)
          refine Stop.go ((group_any _ (own s l) _ (RE.of_owns HQ.out OO.out) (by have := HQ.out; omega)).mono ?_)
          intro e w4 g4
          obtain ⟨v4, rfl, hv4, f4⟩ := g4.of (grun_zero _ 0 [] P1.out) P1.out
          obtain ⟨us, hus⟩ : ∃ us, us = (grun (own s l) 0 []).1.map Prod.fst := ⟨_, rfl⟩
          have p2 := P2.out
          have p3 := P3.out
          rw [← hus] at hv4 p2 p3
          have HU := Lib.hid p2
          have HP := Lib.hid p3
          have hul : us.length ≤ 32 := by
            rw [← p2]
            have h1 : (ft s ts).length ≤ ts.length := List.length_filter_le _ _
            have := HM.out; omega
          have F4 := Lib.hid (F.out.step f4)
          have V4 := Lib.hid ((V2.out.fr FF.out).fr f4)
          have PP4 : Hid (w4.ownsRow B 3 1 (.slice a10 q cap10) q (ic (pls s l 0))) := Lib.hid (f4.owns PP.out (fun _ _ x => x))
          have U4 := Lib.hid hv4
          obtain ⟨a5, b5, off5, cap5, rfl, -, -, -⟩ := hv4
          obtain ⟨u, hu⟩ : ∃ u, u = us.length := ⟨_, rfl⟩
          rw [← hu] at U4
          rw [← hu]
          have HUL := Lib.hid hu
          clear g4 f4 hus p2 p3 hu OO PP F FF
          go_wp2_with (go_at_call 11; refine stop ?_)
          refine Stop.go ((plain_any _ ts _ V4.out (by have := HM.out; omega)).mono ?_)
          rintro e w5 ⟨v5, rfl, hv5, f5⟩
          have F5 := Lib.hid (F4.out.step f5)
          have U5 := Lib.hid (U4.out.fr f5)
          have Q5 := Lib.hid hv5
          have PP5 : Hid (w5.ownsRow B 3 1 (.slice a10 q cap10) q (ic (pls s l 0))) := Lib.hid (f5.owns PP4.out (fun _ _ x => x))
          clear hv5 f5 V4 F4 U4 PP4
          go_wp2_with (go_at_call 11; refine stop ?_)
          refine Stop.go ((plain_any _ us _ U5.out (by omega)).mono ?_)
          rintro e w6 ⟨v6, rfl, hv6, f6⟩
          have F6 := Lib.hid (F5.out.step f6)
          have P6 := Q5.out.fr f6
          have PP6 : Hid (w6.ownsRow B 3 1 (.slice a10 q cap10) q (ic (pls s l 0))) := Lib.hid (f6.owns PP5.out (fun _ _ x => x))
          obtain ⟨a7, b7, off7, cap7, rfl, -, -, ht7⟩ := P6
          obtain ⟨a8, b8, off8, cap8, rfl, -, -, ht8⟩ := hv6
          rw [← HUL.out]
          rw [← HM.out]
          have T7 := Lib.hid ht7
          have T8 := Lib.hid ht8
          have hu32 : u ≤ 32 := by have := HUL.out; omega
          clear ht7 ht8 f6 U5 Q5 F5 PP5 hul
          go_wp2_with fail
          go_loopg [15, 18] m (fun gk c i wr => ∃ k : Nat, k + gk = m ∧ i = .int .i64 k ∧ c = .int .i64 (cnt s ts k : Nat) ∧ Fr nob w6 wr)
          case atStart => exact ⟨0, Nat.zero_add _, rfl, rfl, Fr.refl _ _⟩
          case round =>
            obtain ⟨k2, hk2, rfl, rfl, hf2⟩ := hrel
            have HK2 := Lib.hid hk2
            have FW := Lib.hid hf2
            have hkl2 : k2 ≤ m := by omega
            have hcl : cnt s ts k2 ≤ 32 := by have := cnt_le s ts k2; have := HM.out; omega
            clear hk2 hf2
            by_cases hlt2 : k2 < m
            · obtain ⟨x, hx⟩ : ∃ x, ts[k2]? = some x := ⟨_, List.getElem?_eq_getElem (by have := HM.out; omega)⟩
              obtain rfl := T7.out.addr hx
              obtain ⟨sx, d0, d1, d2, d3, hsx⟩ := (T7.out.nob FW.out).2 k2 x hx
              have hcn := cnt_next (s := s) hx
              have hidx0 : (0 : Int) ≤ (k2 : Int) := Int.natCast_nonneg _
              have hidx1 : (k2 : Int) < (m : Int) := by omega
              by_cases hs : x.s = s
              · rw [if_pos hs] at hcn
                obtain ⟨y, pp, hy, hone, hyf, hpl⟩ := HP.out _ _ (ft_at hx hs)
                obtain ⟨c, hc⟩ : ∃ c, c = cnt s ts k2 := ⟨_, rfl⟩
                rw [← hc] at hy hcl hcn
                rw [← hc]
                have hcu : c < u := by have := (List.getElem?_eq_some_iff.1 hy).1; have := HUL.out; omega
                have HCN := Lib.hid hcn
                obtain rfl := T8.out.addr hy
                obtain ⟨sy, e0, e1, e2, e3, hsy⟩ := (T8.out.nob FW.out).2 c _ hy
                rw [hyf] at e2
                obtain ⟨ax, nx, rfl, -⟩ := hsx.slice
                obtain ⟨ay, ny, rfl, -⟩ := hsy.slice
                obtain ⟨gp, capp, hsp, hpc, hpq⟩ := ints_at PP6.out hpl
                obtain ⟨rfl, rfl⟩ : a10 = some ⟨gp, 0, none⟩ ∧ cap10 = capp := by simp at hsp; exact hsp
                have ONE : Hid (∀ W, Fr nob wr W → Calls Try.prog 15 #[.agg #[.int .i64 x.s, .bool x.d, .int .i64 x.f, .slice ax x.o.length nx], .agg #[.int .i64 y.s, .bool y.d, .int .i64 (pp : Nat), .slice ay y.o.length ny]] W fun e w' => e = .returned (.bool true) ∧ Fr nob W w') :=
                  Lib.hid (fun W f => by have := one_any x y _ _ W (hsx.fr f) (hsy.fr f); rw [hone, hyf] at this; exact this)
                have D2 := Lib.hid d2
                have E2 := Lib.hid e2
                have PC := Lib.hid (FW.out.cell_some hpc (fun x => x))
                have hc0 : (0 : Int) ≤ (c : Int) := Int.natCast_nonneg _
                have hc1 : (c : Int) < (u : Int) := by omega
                have hp0 : (0 : Int) ≤ (pp : Int) := Int.natCast_nonneg _
                have hp1 : (pp : Int) < (q : Int) := by omega
                have hq0 : decide ((pp : Int) < 0) = false := by simp
                have hq1 : decide ((q : Int) ≤ (pp : Int)) = false := by simp; omega
                have hs1 : (x.s != s) = false := by simpa using hs
                clear hx hy hsx hsy hone hyf hpl hsp hpc hs hcn hc
                go_wp2_with fail
                go_region_with (go_at_call 15; refine (ONE.out _ ((Fr.refl nob wr).drew)).mono ?_; rintro e w7 ⟨rfl, f7⟩)
                all_goals
                  have fr7 := ((Fr.refl nob wr).drew).step f7
                  have F7 := Lib.hid (FW.out.step fr7)
                  have x2 := fr7.cell_some D2.out (fun x => x)
                  have y2 := fr7.cell_some E2.out (fun x => x)
                  have z2 := fr7.cell_some PC.out (fun x => x)
                  clear f7 fr7 d0 d1 d2 d3 e0 e1 e2 e3 ONE D2 E2 PC
                  go_wp2_with fail
                  go_quiet (fail)
                  have F8 := Lib.hid (F7.out.drewN nq)
                  clear x2 y2 z2
                  go_wp2
                  go_roundg (gk - 1)
                  case measure => have := HK2.out; omega
                  case rel => exact ⟨k2 + 1, by have := HK2.out; omega, by go_num, by rw [HCN.out]; go_num, F8.out⟩
              · rw [if_neg hs] at hcn
                have HCN := Lib.hid hcn
                have hs1 : (x.s != s) = true := by simpa using hs
                have hs2 : (x.s == s) = false := by simpa using hs
                clear hx hsx hs hcn
                go_wp2
                go_roundg (gk - 1)
                case measure => have := HK2.out; omega
                case rel => exact ⟨k2 + 1, by have := HK2.out; omega, by go_num, by rw [HCN.out], FW.out⟩
            · have hcu : cnt s ts k2 = u := by
                unfold cnt
                rw [List.take_of_length_le (by have := HM.out; omega), HU.out]
                exact HUL.out.symm
              rw [hcu]
              clear hcu hcl
              go_wp2
              go_ret
              exact ⟨rfl, F6.out.step FW.out⟩
    · obtain ⟨j, hj, heq, -, -⟩ := grun_kinds l 0 [] hc
      obtain ⟨C, hC⟩ : ∃ C, C = (grun l 0 []).2.2 := ⟨_, rfl⟩
      rw [← hC] at heq hc
      rw [Nat.zero_add] at heq
      obtain ⟨v2, rfl, hv2, f2⟩ := g2.of (p := (j : Nat)) (c := C) (by rw [heq]) (by rw [hC])
      rw [heq] at hv2
      obtain ⟨a4, b4, off4, cap4, rfl, -⟩ := hv2
      have F2 := Lib.hid (F1.out.step f2)
      have hC1 : (C != 0) = true := by simpa using hc
      have hC0 : (C == 0) = false := by simpa using hc
      simp only [List.map_nil, List.length_nil]
      clear f2 g2 heq hC hj R1 F1
      go_wp2
      go_ret
      exact ⟨ret_bool (by simp), F2.out⟩

theorem apart_walk (a : Option Addr) (len cap : Nat) (X : Nat → Nat → Int) (s : Int) (w : World) (h : NumsAt w a len cap [.i64, .i64, .i64, .i64] X) (_ : (Lit.int .i64 s).wf = true) :
    Calls Try.prog 5 #[.slice a len cap, .int .i64 s] w fun e w' => e = .returned (.bool true) ∧ Below w.heap.size w w' := by
  obtain ⟨xs, _, hr⟩ := h.evs
  exact (apart_any _ xs s w hr).mono fun e w' ⟨h1, h2⟩ => ⟨h1, h2.below0⟩

end Go.Proofs.Ytlmaloikhmkokaa
