/- The reference's one. -/
import Derived.Test.YtgjgonnlkponiaaPkB
namespace Go.Proofs.Ytgjgonnlkponiaa
open Go.RowKit

theorem drop_get {s : ByteArray} {a j : Nat} (h : a + j < s.size) : (s.data.toList.drop a)[j]? = some s[a + j] := by
  rw [List.getElem?_drop]; exact sget s (a + j) h

/-- Where the number at the front ends. -/
def nxT (l : List UInt8) (at0 most : Nat) : Int := if nxE l most = 0 then (at0 + (hiN l + 1) : Nat) else 0
def ON (l : List UInt8) (at0 most : Nat) (w : World) (e : Ending) (w' : World) : Prop :=
  e = .returned (.tuple #[.int .i64 (nxN l most), .int .i64 (nxT l at0 most), .int .i64 (nxE l most)]) ∧ w = w'
theorem ON.err {l : List UInt8} {at0 most : Nat} {w : World} {n : Int} (h : nxE l most = n) (hn : n ≠ 0) : ON l at0 most w (.returned (.tuple #[.int .i64 0, .int .i64 0, .int .i64 n])) w := by
  have := nx_err (l := l) (most := most) (by rw [h]; exact hn)
  refine ⟨?_, rfl⟩
  unfold nxT
  rw [this.1, h, if_neg hn]
theorem v7_drop {l : List UInt8} {m : Nat} {c : UInt8} (h : l[m]? = some c) : v7 (l.drop m) = c.toNat % 128 + 128 * v7 (l.drop (m + 1)) := by
  obtain ⟨h1, h2⟩ := List.getElem?_eq_some_iff.1 h
  rw [List.drop_eq_getElem_cons h1, h2]; rfl

set_option maxRecDepth 100000 in
set_option maxHeartbeats 2000000 in
theorem one_any (s : ByteArray) (at0 most : Nat) (mi : Int) (hmi : mi = most) (w : World) (hs : s.size ≤ 4611686018427387904) (h : at0 ≤ s.size) :
    Calls Try.prog 16 #[.string s, .int .i64 at0, .int .i64 mi] w (ON (s.data.toList.drop at0) at0 most w) := by
  obtain ⟨l, hl⟩ : ∃ l, l = s.data.toList.drop at0 := ⟨_, rfl⟩
  rw [← hl]
  have hll : l.length + at0 = s.size := by rw [hl, List.length_drop, slen]; omega
  have HL := Lib.hid hl
  have HLL := Lib.hid hll
  have HMI := Lib.hid hmi
  have hlb : l.length + at0 ≤ 4611686018427387904 := by omega
  have hi5 : IntKind.i64.wrap ((at0 : Int) + 5) = (at0 : Int) + 5 := IntWalk.i64_in _ (by omega)
  clear hl hll hmi
  go_enter Try.func16, Try.ntmps16
  go_upto_block 0 with fail
  go_cut [9] (fun s9 wx => ∃ t : Nat, s9 = .int .i64 t ∧ at0 ≤ t ∧ t ≤ s.size ∧ t ≤ at0 + 5 ∧ Hi l (t - at0) ∧ (t = s.size ∨ t = at0 + 5 ∨ ∃ c, l[t - at0]? = some c ∧ c.toNat < 128) ∧ w = wx)
  case first =>
    go_wp2_with fail
    go_loopg [9] 5 (fun gk i wr => ∃ j : Nat, j + gk = 5 ∧ i = .int .i64 ((at0 + j : Nat) : Int) ∧ j ≤ l.length ∧ Hi l j ∧ w = wr)
    case atStart => exact ⟨0, rfl, rfl, Nat.zero_le _, fun j c hj => by omega, rfl⟩
    case round =>
      obtain ⟨j, hk, rfl, hjl, hd, rfl⟩ := hrel
      have HK := Lib.hid hk
      have HDg := Lib.hid hd
      have hj5 : j ≤ 5 := by omega
      obtain ⟨t, ht⟩ : ∃ t, t = at0 + j := ⟨_, rfl⟩
      rw [← ht]
      have hts : t ≤ s.size := by have := HLL.out; omega
      have HT := Lib.hid ht
      clear hk hd
      by_cases hlt : t < s.size
      · have i0 : (0 : Int) ≤ (t : Int) := Int.natCast_nonneg _
        have i1 : (t : Int) < s.size := by omega
        obtain ⟨c, hc⟩ : ∃ c : UInt8, c = s[t] := ⟨_, rfl⟩
        have gk1 : s[t] = c := hc.symm
        have TK : Hid (l[j]? = some c) := Lib.hid (by rw [HL.out, hc]; subst ht; exact drop_get hlt)
        clear hc ht
        by_cases h8 : 128 ≤ (c.toNat : Int)
        · by_cases h5 : j < 5
          · have h5' : (t : Int) < (at0 : Int) + 5 := by have := HT.out; omega
            have HS := Lib.hid (HDg.out.step TK.out (by omega))
            go_wp2
            go_roundg (gk - 1)
            case measure => have := HK.out; omega
            case rel => exact ⟨j + 1, by have := HK.out; omega, by have := HT.out; go_num, by have := HLL.out; have := HT.out; omega, HS.out, rfl⟩
          · have h5' : ¬ (t : Int) < (at0 : Int) + 5 := by have := HT.out; omega
            go_wp2
            go_meet
            exact ⟨t, rfl, by have := HT.out; omega, hts, by have := HT.out; omega, by rw [HT.out, Nat.add_sub_cancel_left]; exact HDg.out, .inr (.inl (by have := HT.out; omega)), rfl⟩
        · go_wp2
          go_meet
          exact ⟨t, rfl, by have := HT.out; omega, hts, by have := HT.out; omega, by rw [HT.out, Nat.add_sub_cancel_left]; exact HDg.out, .inr (.inr ⟨c, by rw [HT.out, Nat.add_sub_cancel_left]; exact TK.out, by omega⟩), rfl⟩
      · clear ht
        go_wp2
        go_meet
        exact ⟨t, rfl, by have := HT.out; omega, hts, by have := HT.out; omega, by rw [HT.out, Nat.add_sub_cancel_left]; exact HDg.out, .inl (by omega), rfl⟩
  case rest =>
    obtain ⟨t, rfl, ht0, ht1, ht5, hd, hex, rfl⟩ := hcut
    obtain ⟨j, hj⟩ : ∃ j, j = t - at0 := ⟨_, rfl⟩
    rw [← hj] at hd hex
    have HJ : Hid (t = at0 + j) := Lib.hid (by omega)
    have HD := Lib.hid hd
    have HX := Lib.hid hex
    clear hj hd hex
    by_cases h5 : j = 5
    · have e5 : ((t : Int) == (at0 : Int) + 5) = true := by have := HJ.out; simp; omega
      have RES := Lib.hid (nx_five most (h5 ▸ HD.out) (by have := HLL.out; have := HJ.out; omega))
      clear h5
      go_wp2
      refine bodyPost_ret (v := .tuple #[.int .i64 0, .int .i64 0, .int .i64 2]) (by simp [results, Try.results16, go_sem]) rfl ?_
      exact ON.err RES.out (by decide)
    have e5 : ((t : Int) == (at0 : Int) + 5) = false := by have := HJ.out; simp; omega
    have hj5 : j < 5 := by have := HJ.out; omega
    by_cases hsz : t = s.size
    · have es : ((t : Int) == (s.size : Int)) = true := by simp; omega
      have hjl : j = l.length := by have := HLL.out; have := HJ.out; omega
      have RES := Lib.hid (nx_short (l := l) most (hjl ▸ HD.out) (by omega))
      clear h5 hsz hjl
      go_wp2
      refine bodyPost_ret (v := .tuple #[.int .i64 0, .int .i64 0, .int .i64 16]) (by simp [results, Try.results16, go_sem]) rfl ?_
      exact ON.err RES.out (by decide)
    have es : ((t : Int) == (s.size : Int)) = false := by simp; omega
    have hlo : ∃ c, l[j]? = some c ∧ c.toNat < 128 := by
      rcases HX.out with h1 | h1 | h1
      · exact absurd h1 hsz
      · exact absurd (by have := HJ.out; omega) h5
      · exact h1
    obtain ⟨c, hc, hclo⟩ := hlo
    have HC := Lib.hid hc
    have hts : t < s.size := by omega
    have gk0 : s[t] = c := by
      have h1 := drop_get (s := s) (a := at0) (j := j) (by have := HJ.out; omega)
      rw [← HL.out, hc] at h1
      have h2 := HJ.out
      subst h2
      exact (Option.some.inj h1).symm
    have i0 : (0 : Int) ≤ (t : Int) := Int.natCast_nonneg _
    have i1 : (t : Int) < s.size := by omega
    have HZ : Hid ((l.take (j + 1)).length = j + 1) := Lib.hid (by have := (List.getElem?_eq_some_iff.1 hc).1; rw [List.length_take]; omega)
    have HB : Hid (∀ m, v7 ((l.take (j + 1)).drop m) < 128 ^ 5) := Lib.hid (fun m => by
      have h1 := v7_lt ((l.take (j + 1)).drop m)
      have h2 : 128 ^ ((l.take (j + 1)).drop m).length ≤ 128 ^ 5 := Nat.pow_le_pow_right (by decide) (by rw [List.length_drop, HZ.out]; omega)
      omega)
    clear h5 hsz hc
    go_wp2_with fail
    go_loopg [10, 11] (j + 1) (fun gk s10 s11 wr => ∃ (m : Nat) (ii : Int), m = gk ∧ m ≤ j + 1 ∧ ii = (at0 : Int) + m - 1 ∧ s11 = .int .i64 ii ∧ s10 = .int .i64 (v7 ((l.take (j + 1)).drop m) : Nat) ∧ w = wr)
    case atStart => exact ⟨j + 1, t, rfl, Nat.le_refl _, by have := HJ.out; omega, rfl, by rw [List.drop_of_length_le (by rw [HZ.out]; exact Nat.le_refl _)]; rfl, rfl⟩
    case round =>
      obtain ⟨m, ii, hk, hmj, hii, rfl, rfl, rfl⟩ := hrel
      have HK := Lib.hid hk
      obtain ⟨n, hn⟩ : ∃ n, n = v7 ((l.take (j + 1)).drop m) := ⟨_, rfl⟩
      rw [← hn]
      have hnb : n < 34359738368 := by have := HB.out m; omega
      have HN := Lib.hid hn
      clear hk hn
      cases hm0 : m with
      | succ m' =>
        obtain ⟨u, hu⟩ : ∃ u, u = at0 + m' := ⟨_, rfl⟩
        have hiu : ii = (u : Int) := by omega
        have hus : u < s.size := by have := HJ.out; omega
        have HU := Lib.hid hu
        have hge : (at0 : Int) ≤ (u : Int) := by omega
        have k0 : (0 : Int) ≤ (u : Int) := Int.natCast_nonneg _
        have k1 : (u : Int) < s.size := by omega
        obtain ⟨x, hx⟩ : ∃ x : UInt8, x = s[u] := ⟨_, rfl⟩
        have gk1 : s[u] = x := hx.symm
        have hxm : (l.take (j + 1))[m']? = some x := by
          rw [List.getElem?_take_of_lt (by omega), HL.out, hx]
          subst hu
          exact drop_get hus
        have HV : Hid (v7 ((l.take (j + 1)).drop m') = 128 * n + x.toNat % 128) := Lib.hid (by
          rw [v7_drop hxm, HN.out, hm0]; omega)
        obtain ⟨b, hb⟩ : ∃ b, b = x.toNat % 128 := ⟨_, rfl⟩
        rw [← hb] at HV
        have hb0 : b < 128 := by omega
        have hx0 : 0 ≤ (x.toNat : Int) := Int.natCast_nonneg _
        have hx256 : (x.toNat : Int) < 256 := by have := x.toNat_lt; omega
        have hxt : (x.toNat : Int) % 128 = (b : Int) := by omega
        have hxt2 : (x.toNat : Int).tmod 128 = (b : Int) := by rw [Int.tmod_eq_emod_of_nonneg (by omega)]; exact hxt
        have hzb : 128 * (n : Int) + b ≤ 4398046511104 := by omega
        have HM := Lib.hid hm0
        have HII := Lib.hid hiu
        rw [hiu]
        clear hu hx hxm hb hii hiu hm0
        go_wp2
        go_roundg (gk - 1)
        case measure => have := HK.out; have := HM.out; omega
        case rel => exact ⟨m', (u : Int) - 1, by have := HK.out; have := HM.out; omega, by have := HM.out; omega, by have := HU.out; omega, rfl, by rw [HV.out]; go_num, rfl⟩
      | zero =>
        have hlt : ¬ (at0 : Int) ≤ ii := by omega
        have HN' : Hid (v7 (l.take (j + 1)) = n) := Lib.hid (by rw [HN.out, hm0]; rfl)
        clear hm0 hii
        by_cases hz0 : (0 < j ∧ c.toNat = 0)
        · obtain ⟨hk0, hc0⟩ := hz0
          have hk0' : (at0 : Int) < (t : Int) := by have := HJ.out; omega
          have hc0' : ((c.toNat : Int) == 0) = true := by simp; omega
          have RES := Lib.hid (nx_form most HD.out hj5 HC.out hclo (.inl ⟨hk0, hc0⟩))
          clear hc0
          go_wp2
          refine bodyPost_ret (v := .tuple #[.int .i64 0, .int .i64 0, .int .i64 2]) (by simp [results, Try.results16, go_sem]) rfl ?_
          exact ON.err RES.out (by decide)
        · by_cases hm : most < n
          · have hm' : mi < (n : Int) := by have := HMI.out; omega
            have RES := Lib.hid (nx_form most HD.out hj5 HC.out hclo (.inr (by rw [HN'.out]; exact hm)))
            by_cases hk0 : (at0 : Int) < (t : Int)
            · have hc0' : ((c.toNat : Int) == 0) = false := by have := HJ.out; simp; omega
              clear hz0
              go_wp2
              refine bodyPost_ret (v := .tuple #[.int .i64 0, .int .i64 0, .int .i64 2]) (by simp [results, Try.results16, go_sem]) rfl ?_
              exact ON.err RES.out (by decide)
            · clear hz0
              go_wp2
              refine bodyPost_ret (v := .tuple #[.int .i64 0, .int .i64 0, .int .i64 2]) (by simp [results, Try.results16, go_sem]) rfl ?_
              exact ON.err RES.out (by decide)
          · have hm' : ¬ mi < (n : Int) := by have := HMI.out; omega
            have RES := nx_ok most HD.out hj5 HC.out hclo (by rw [HN'.out]; rintro (h1 | h1); exact hz0 h1; exact hm h1)
            rw [HN'.out] at RES
            have hhi : hiN l = j := hiN_eq HD.out (fun x hx => by rw [HC.out] at hx; obtain rfl := Option.some.inj hx; exact hclo) (by have := (List.getElem?_eq_some_iff.1 HC.out).1; omega)
            have FIN : ON l at0 most w (.returned (.tuple #[.int .i64 (n : Int), .int .i64 ((t : Int) + 1), .int .i64 0])) w := ⟨by
              unfold nxT
              rw [RES.1, RES.2.1, if_pos rfl, hhi, show (t : Int) + 1 = ((at0 + (j + 1) : Nat) : Int) by have := HJ.out; omega], rfl⟩
            have FN := Lib.hid FIN
            clear FIN RES hhi
            by_cases hk0 : (at0 : Int) < (t : Int)
            · have hc0' : ((c.toNat : Int) == 0) = false := by have := HJ.out; simp; omega
              clear hz0
              go_wp2
              exact bodyPost_ret (v := .tuple #[.int .i64 (n : Int), .int .i64 ((t : Int) + 1), .int .i64 0]) (by simp [results, Try.results16, go_sem]) rfl FN.out
            · clear hz0
              go_wp2
              exact bodyPost_ret (v := .tuple #[.int .i64 (n : Int), .int .i64 ((t : Int) + 1), .int .i64 0]) (by simp [results, Try.results16, go_sem]) rfl FN.out

end Go.Proofs.Ytgjgonnlkponiaa
