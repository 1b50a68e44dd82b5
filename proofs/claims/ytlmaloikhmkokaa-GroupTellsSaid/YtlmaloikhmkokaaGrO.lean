/- GroupTells. -/
import Derived.Test.YtlmaloikhmkokaaGrN
import Derived.Test.YtlmaloikhmkokaaGrG
import Derived.Test.YtlmaloikhmkokaaGrK
import Derived.Test.YtlmaloikhmkokaaLawB
namespace Go.Proofs.Ytlmaloikhmkokaa
open Go.ChangeShapes Go.WideShapes Go.ChangeAt Go.RowKit

instance : Inhabited Tx := ⟨⟨0, false, 0, []⟩⟩
section
variable {H : Type} {enc : TypeId × Value → H} {W : World}
theorem evs_cells {fuel : Nat} {cs : List Value} {x : DataW H × List MemPlace} (h : DataW.trod enc Try.prog W 0 (fun _ => true) true fuel 22 cs = some x) : ∃ v o, cs = [v] ∧ RE W v o := by
  have key : ∀ a len cap, cs = [.slice a len cap] → ∃ v o, cs = [v] ∧ RE W v o := by
    rintro a len cap rfl
    have h' : DataW.Trod enc Try.prog W 0 (fun _ => true) true 22 (.slice a len cap) x.1 x.2 := ⟨fuel, h⟩
    obtain ⟨X, hX⟩ := nums_of_structs (ks := [.i64, .i64, .i64, .i64]) Try.underlying22 Try.underlying44 (by kernel_rfl) rfl (by decide) (by
      intro j k hk
      rcases j with _ | _ | _ | _ | j
      · simp at hk; subst hk; exact ⟨_, rfl, rfl, by kernel_rfl, Try.underlying3⟩
      · simp at hk; subst hk; exact ⟨_, rfl, rfl, by kernel_rfl, Try.underlying3⟩
      · simp at hk; subst hk; exact ⟨_, rfl, rfl, by kernel_rfl, Try.underlying3⟩
      · simp at hk; subst hk; exact ⟨_, rfl, rfl, by kernel_rfl, Try.underlying3⟩
      · simp at hk) h'
    obtain ⟨es, _, hr⟩ := hX.evs
    exact ⟨_, es, rfl, hr⟩
  rcases Go.Deep.open_slice Try.underlying22 h with ⟨hcs, _⟩ | ⟨a, len, cap, _, _, _, _, hcs, _⟩
  · exact key _ _ _ hcs
  · exact key _ _ _ hcs

theorem txs_open {a : Option Addr} {len cap : Nat} {d : DataW H} {p : List MemPlace} (h : DataW.Trod enc Try.prog W 0 (fun _ => true) true 23 (.slice a len cap) d p) : ∃ ts : List Tx, ts.length = len ∧ RT W (.slice a len cap) ts := by
  obtain ⟨fuel, hf⟩ := h
  rcases Go.Deep.open_slice Try.underlying23 hf with ⟨hcs, _⟩ | ⟨x, l, c, m, n, D, Pl, hcs, _, hl, hm, hmm, _, hx⟩
  · simp [Value.cells] at hcs
    obtain ⟨rfl, rfl, rfl⟩ := hcs
    exact ⟨[], rfl, RT.nil _⟩
  · simp [Value.cells] at hcs
    obtain ⟨rfl, rfl, rfl⟩ := hcs
    by_cases h0 : len = 0
    · subst h0
      exact ⟨[], rfl, _, 0, 0, cap, rfl, hl, hm, .inl rfl, by simp⟩
    have hlm : len ≤ m := by rw [hmm]; split <;> omega
    have each : ∀ i, i < m → ∃ Y : Tx × Value, W.cell? (x.add (i * 4)) = some (.int .i64 Y.1.s) ∧ W.cell? (x.add (i * 4 + 1)) = some (.bool Y.1.d) ∧ W.cell? (x.add (i * 4 + 2)) = some (.int .i64 Y.1.f) ∧ W.cell? (x.add (i * 4 + 3)) = some Y.2 ∧ RE W Y.2 Y.1.o := by
      intro i hi
      obtain ⟨cs', h1, h2⟩ := hx i hi
      rw [show Try.prog.cellsOf 26 = 4 by kernel_rfl] at h1
      obtain ⟨_, hlen, hcell⟩ := World.cells?_some h1
      obtain ⟨y0, y1, y2, y3, n', _, hcl, g0, g1, g2, g3⟩ := Go.Joins.trod_struct4 Try.underlying26 h2
      match cs', hlen with
      | [u0, u1, u2, u3], _ =>
        have e0 := hcell 0 (by omega)
        have e1 := hcell 1 (by omega)
        have e2 := hcell 2 (by omega)
        have e3 := hcell 3 (by omega)
        rw [Go.Deep.add_add] at e0 e1 e2 e3
        have c3 : Try.prog.cellsOf 3 = 1 := by kernel_rfl
        have c4 : Try.prog.cellsOf 4 = 1 := by kernel_rfl
        have c22 : Try.prog.cellsOf 22 = 1 := by kernel_rfl
        obtain ⟨z0, hz0, _, _⟩ := DataW.trod_int Try.underlying3 g0
        obtain ⟨z1, hz1, _⟩ := DataW.trod_bool Try.underlying4 g1
        obtain ⟨z2, hz2, _, _⟩ := DataW.trod_int Try.underlying3 g2
        obtain ⟨v, o, hv, hp⟩ := evs_cells g3
        simp [c3] at hz0 hz2
        simp [c4] at hz1
        simp [c22] at hv
        subst hz0 hz1 hz2 hv
        exact ⟨(⟨z0, z1, z2, o⟩, _), by simpa using e0, by simpa using e1, by simpa using e2, by simpa using e3, hp⟩
    obtain ⟨Y, hY⟩ := Go.Deep.choose_lt each
    have hc0 := (hY 0 (by omega)).1
    rw [Nat.zero_mul] at hc0
    obtain ⟨b, off, rfl⟩ := addr_plain hc0 (by rw [hc0]; simp)
    refine ⟨(List.range len).map fun i => (Y i).1, by simp, _, b, off, cap, by simp, by simpa using hl, hm, .inr rfl, fun j t hj => ?_⟩
    simp only [List.getElem?_map, Option.map_eq_some_iff] at hj
    obtain ⟨i, hi, rfl⟩ := hj
    obtain ⟨hj, hi'⟩ := List.getElem?_eq_some_iff.1 hi
    simp at hi' hj
    subst hi'
    have := hY j (by omega)
    rw [Addr.add_lit, Addr.add_lit, Addr.add_lit, Addr.add_lit] at this
    exact ⟨(Y j).2, this.1, by rw [Nat.add_assoc]; exact this.2.1, by rw [Nat.add_assoc]; exact this.2.2.1, by rw [Nat.add_assoc]; exact this.2.2.2.1, this.2.2.2.2⟩
end

theorem grun_len (l : List Ev) : (grun l 0 []).1.length ≤ 32 := by
  by_cases hc : (grun l 0 []).2.2 = 0
  · exact (grun_sum l 0 [] hc (by simp)).2.2
  · obtain ⟨j, _, h, _⟩ := grun_kinds l 0 [] hc
    rw [h]; simp

set_option maxRecDepth 100000 in
set_option maxHeartbeats 1000000 in
theorem tells_any (v v' : Value) (l : List Ev) (ts : List Tx) (w : World) (h : RE w v l) (h' : RT w v' ts) : Calls Try.prog 3 #[v, v'] w (Tr w) := by
  have R := Lib.hid h
  have T := Lib.hid h'
  obtain ⟨a, b, off, cap, rfl, hcap, hmax, h3⟩ := h
  obtain ⟨a', b', off', cap', rfl, hcap', hmax', h3'⟩ := h'
  have H' := Lib.hid h3'
  clear h3 hcap hmax hcap' hmax' h3'
  obtain ⟨n, hn⟩ : ∃ n, n = l.length := ⟨_, rfl⟩
  obtain ⟨m, hm⟩ : ∃ m, m = ts.length := ⟨_, rfl⟩
  rw [← hn] at R
  rw [← hm] at T
  rw [← hn, ← hm]
  have HN := Lib.hid hn
  have HM := Lib.hid hm
  clear hn hm
  go_enter Try.func3, Try.ntmps3
  go_wp2_with (go_at_call 7; refine stop ?_)
  refine Stop.go ((awake_any _).mono ?_)
  rintro e w1 ⟨rfl, f1⟩
  have F1 := Lib.hid f1
  clear f1
  by_cases c1 : 600 < n
  · go_wp2
    go_ret
    exact ⟨rfl, F1.out⟩
  by_cases c2 : 40 < m
  · go_wp2
    go_ret
    exact ⟨rfl, F1.out⟩
  go_wp2_with fail
  go_loopg [6] m (fun gk i wr => ∃ k : Nat, k + gk = m ∧ i = .int .i64 k ∧ (∀ t ∈ ts.take k, t.o.length ≤ 100) ∧ wr = w1)
  case atStart => exact ⟨0, Nat.zero_add _, rfl, by simp, rfl⟩
  case round =>
    obtain ⟨k, hk, rfl, hall, rfl⟩ := hrel
    have HK := Lib.hid hk
    have HA := Lib.hid hall
    have hkl : k ≤ m := by omega
    clear hk hall
    by_cases hlt : k < m
    · obtain ⟨x, hx⟩ : ∃ x, ts[k]? = some x := ⟨_, List.getElem?_eq_getElem (by have := HM.out; omega)⟩
      obtain rfl := H'.out.addr hx
      obtain ⟨sx, -, -, -, d3, hsx⟩ := (H'.out.nob F1.out).2 k x hx
      obtain ⟨ax, nx, rfl, -⟩ := hsx.slice
      have HX := Lib.hid hx
      have hidx0 : (0 : Int) ≤ (k : Int) := Int.natCast_nonneg _
      have hidx1 : (k : Int) < (m : Int) := by omega
      clear hx hsx
      by_cases hb : 100 < x.o.length
      · go_wp2
        go_ret
        exact ⟨rfl, F1.out⟩
      · have HB := Lib.hid hb
        go_wp2
        go_roundg (gk - 1)
        case measure => have := HK.out; omega
        case rel => exact ⟨k + 1, by have := HK.out; omega, by go_num, fun t ht => by
          rw [take_snoc HX.out] at ht
          rcases List.mem_append.1 ht with ht | ht
          · exact HA.out t ht
          · simp at ht; subst ht; have := HB.out; omega, rfl⟩
    · have hall : ∀ t ∈ ts, t.o.length ≤ 100000 := fun t ht => by
        have := HA.out t (by rw [List.take_of_length_le (by have := HM.out; omega)]; exact ht)
        omega
      have HO := Lib.hid hall
      have hm40 : ts.length ≤ 100 := by have := HM.out; omega
      have hl600 : l.length ≤ 10000 := by have := HN.out; omega
      have h32 := grun_len l
      clear hall HA HK H' hkl
      go_wp2_with (at_builtin; refine stop ?_)
      refine Stop.go (wpList_app rfl (.tmp 38) (.tmp 39) rfl appEv rfl (base := w.heap.size) (n := 0) (xs := []) ?p1 (m := n) (news := ec l) rfl ?p2 ?p3 ?p4 ?p5 ?p6 ?p7)
      case p1 => exact World.ownsRow_nil _ _ _ _
      case p2 => rw [ec_len, HN.out]
      case p3 => exact (R.out.fr F1.out).src
      case p4 => omega
      case p5 => simp only [maxLen]; omega
      case p6 => exact F1.out.size
      case p7 =>
        intro v3 w3 ho3 hg3 _
        have F3 := Lib.hid (F1.out.grownOwn (Nat.le_refl _) (World.ownsRow_nil _ w.heap.size 44 4) hg3)
        rw [Nat.zero_add, List.nil_append] at ho3
        have O3 : Hid (RE w3 v3 l) := Lib.hid (RE.of_owns HN.out ho3)
        obtain ⟨a4, cap4, rfl, -, -⟩ := owns_shape ho3
        clear ho3 hg3
        go_wp2_with (go_at_call 8; refine stop ?_)
        refine Stop.go ((group_any _ l _ (R.out.fr F3.out) hl600).mono ?_)
        rintro e w4 ⟨v4, rfl, hv4, f4⟩
        have RG := Lib.hid (fun W v h => rgroup_any v l W h hl600)
        unfold GO at RG
        obtain ⟨p, hp⟩ : ∃ p, p = (grun l 0 []).2.1 := ⟨_, rfl⟩
        obtain ⟨c, hc⟩ : ∃ c, c = (grun l 0 []).2.2 := ⟨_, rfl⟩
        obtain ⟨us, hus⟩ : ∃ us, us = (grun l 0 []).1.map Prod.fst := ⟨_, rfl⟩
        have hul : us.length ≤ 32 := by rw [hus, List.length_map]; exact h32
        rw [← hp, ← hc, ← hus] at RG
        rw [← hus] at hv4
        rw [← hp, ← hc]
        have F4 := Lib.hid (F3.out.step f4)
        have O4 := Lib.hid (O3.out.fr f4)
        have A4 := Lib.hid hv4
        obtain ⟨a5, b5, o5, cap5, rfl, -⟩ := hv4
        clear f4 O3 F3 hp hc hus h32
        go_wp2_with (go_at_call 9; refine stop ?_)
        refine Stop.go ((RG.out _ _ O4.out).mono ?_)
        rintro e w5 ⟨v5, rfl, hv5, f5⟩
        have F5 := Lib.hid (F4.out.step f5)
        have O5 := Lib.hid (O4.out.fr f5)
        have A5 := Lib.hid (A4.out.fr f5)
        have B5 := Lib.hid hv5
        clear f5 hv5 O4 A4 F4 RG
        go_wp2_with (go_at_call 11; refine stop ?_)
        refine Stop.go ((plain_any _ us _ A5.out (by omega)).mono ?_)
        rintro e w6 ⟨v6, rfl, hv6, f6⟩
        have F6 := Lib.hid (F5.out.step f6)
        have O6 := Lib.hid (O5.out.fr f6)
        have B6 := Lib.hid (B5.out.fr f6)
        have A6 := Lib.hid hv6
        clear f6 hv6 O5 A5 B5 F5
        go_wp2_with (go_at_call 10; refine stop ?_)
        refine Stop.go ((rsame_any _ _ us _ A6.out B6.out (by omega)).mono ?_)
        rintro e w7 ⟨rfl, f7⟩
        have F7 := Lib.hid (F6.out.step f7)
        have O7 := Lib.hid (O6.out.fr f7)
        clear f7 A6 B6 O6 F6
        go_wp2_with (go_at_call 12; refine stop ?_)
        refine Stop.go ((same_any _ _ l l _ (R.out.fr F7.out) O7.out).mono ?_)
        rintro e w8 ⟨rfl, f8⟩
        have F8 := Lib.hid (F7.out.step f8)
        clear f8 O7 F7
        go_wp2_with (go_at_call 13; refine stop ?_)
        refine Stop.go ((events_any _ ts _ (T.out.fr F8.out) hm40 HO.out).mono ?_)
        rintro e w9 ⟨v9, rfl, hv9, f9⟩
        have F9 := Lib.hid (F8.out.step f9)
        have E9 := Lib.hid hv9
        clear f9 hv9 F8
        go_wp2_with (go_at_call 11; refine stop ?_)
        refine Stop.go ((plain_any _ ts _ (T.out.fr F9.out) (by omega)).mono ?_)
        rintro e w10 ⟨v10, rfl, hv10, f10⟩
        have F10 := Lib.hid (F9.out.step f10)
        have E10 := Lib.hid (E9.out.fr f10)
        have P10 := Lib.hid hv10
        clear f10 hv10 F9 E9
        go_wp2_with (go_at_call 14; refine stop ?_)
        refine Stop.go ((revents_any _ ts _ P10.out hm40 HO.out).mono ?_)
        rintro e w11 ⟨v11, rfl, hv11, f11⟩
        have F11 := Lib.hid (F10.out.step f11)
        have E11 := Lib.hid (E10.out.fr f11)
        have Q11 := Lib.hid hv11
        clear f11 hv11 F10 E10 P10
        go_wp2_with (go_at_call 12; refine stop ?_)
        refine Stop.go ((same_any _ _ (evs ts) (evs ts) _ E11.out Q11.out).mono ?_)
        rintro e w12 ⟨rfl, f12⟩
        have F12 := Lib.hid (F11.out.step f12)
        clear f12 F11 E11 Q11
        go_wp2
        go_ret
        exact ⟨rfl, F12.out⟩

theorem tells_walk (a : Option Addr) (len cap : Nat) (X : Nat → Nat → Int) (a' : Option Addr) (len' cap' : Nat) (ts : List Tx) (w : World) (h : NumsAt w a len cap [.i64, .i64, .i64, .i64] X) (h' : ts.length = len' ∧ RT w (.slice a' len' cap') ts) :
    Calls Try.prog 3 #[.slice a len cap, .slice a' len' cap'] w fun e w' => e = .returned (.bool true) ∧ Below w.heap.size w w' := by
  obtain ⟨xs, _, hr⟩ := h.evs
  exact (tells_any _ _ xs ts w hr h'.2).mono fun e w' ⟨h1, h2⟩ => ⟨h1, h2.below0⟩

end Go.Proofs.Ytlmaloikhmkokaa
