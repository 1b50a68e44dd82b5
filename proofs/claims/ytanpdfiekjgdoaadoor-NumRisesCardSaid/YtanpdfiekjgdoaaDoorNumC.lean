/- The reference's Take. -/
import Derived.Test.YtanpdfiekjgdoaaDoorNumB
namespace Go.Proofs.YtanpdfiekjgdoaaDoor
open Go.RowKit Go.Lib

set_option maxRecDepth 100000 in
theorem rtake_arg (s : ByteArray) (k : Int) (w : World) (h : k < 0 ∨ (s.size : Int) < k) :
    Calls Tryd.prog 11 #[.string s, .int .i64 k] w fun e w' => e = .returned (.tuple #[.int .i64 0, .int .i64 0, .int .i64 1]) ∧ w = w' := by
  by_cases h0 : k < 0
  · go_enter Tryd.func11, Tryd.ntmps11
    go_wp2
    exact bodyPost_ret (v := .tuple #[.int .i64 0, .int .i64 0, .int .i64 1]) (by simp [results, Tryd.results11, go_sem]) rfl ⟨rfl, rfl⟩
  · have h1 : (s.size : Int) < k := by omega
    go_enter Tryd.func11, Tryd.ntmps11
    go_wp2
    exact bodyPost_ret (v := .tuple #[.int .i64 0, .int .i64 0, .int .i64 1]) (by simp [results, Tryd.results11, go_sem]) rfl ⟨rfl, rfl⟩

theorem drop_get {s : ByteArray} {a j : Nat} (h : a + j < s.size) : (s.data.toList.drop a)[j]? = some s[a + j] := by
  rw [List.getElem?_drop]; exact sget s (a + j) h

set_option maxRecDepth 100000 in
set_option maxHeartbeats 2000000 in
theorem rtake_in (s : ByteArray) (at0 : Nat) (w : World) (hs : s.size ≤ 4611686018427387904) (h : (at0 : Int) ≤ s.size) :
    Calls Tryd.prog 11 #[.string s, .int .i64 at0] w fun e w' => e = .returned (tkv (dp (s.data.toList.drop at0)) at0) ∧ w = w' := by
  obtain ⟨l, hl⟩ : ∃ l, l = s.data.toList.drop at0 := ⟨_, rfl⟩
  rw [← hl]
  have hll : l.length + at0 = s.size := by rw [hl, List.length_drop, slen]; omega
  have hd1 : decide (s.size < at0) = false := by simp; omega
  have hd2 : decide ((at0 : Int) < 0) = false := by simp
  have HL := Lib.hid hl
  have HLL := Lib.hid hll
  have hlb : l.length + at0 ≤ 4611686018427387904 := by omega
  clear hl hll
  go_enter Tryd.func11, Tryd.ntmps11
  go_upto_block 0 with fail
  go_cut [7] (fun s7 wx => ∃ t : Nat, s7 = .int .i64 t ∧ at0 ≤ t ∧ t ≤ s.size ∧ dp l = l.take (t - at0) ∧ w = wx)
  case first =>
    go_wp2_with fail
    go_loopg [7] l.length (fun gk i wr => ∃ j : Nat, j + gk = l.length ∧ i = .int .i64 ((at0 + j : Nat) : Int) ∧ Dig l j ∧ w = wr)
    case atStart => exact ⟨0, Nat.zero_add _, rfl, fun j c hj => by omega, rfl⟩
    case round =>
      obtain ⟨j, hk, rfl, hd, rfl⟩ := hrel
      have HK := Lib.hid hk
      have HDg := Lib.hid hd
      have hjl : j ≤ l.length := by omega
      obtain ⟨t, ht⟩ : ∃ t, t = at0 + j := ⟨_, rfl⟩
      rw [← ht]
      have hts : t ≤ s.size := by have := HLL.out; omega
      have HT := Lib.hid ht
      clear hk hd
      by_cases hlt : t < s.size
      · have i0 : (0 : Int) ≤ (t : Int) := Int.natCast_nonneg _
        have i1 : (t : Int) < s.size := by omega
        obtain ⟨c, hc⟩ : ∃ c : UInt8, c = s[t] := ⟨_, rfl⟩
        have gk1 : s[t] = c := hc.symm
        have TK : Hid (l[j]? = some c) := Lib.hid (by rw [HL.out, hc]; subst ht; exact drop_get hlt)
        clear hc ht
        by_cases hdig : 48 ≤ (c.toNat : Int) ∧ (c.toNat : Int) ≤ 57
        · obtain ⟨hd0, hd1⟩ := hdig
          have HS := Lib.hid (HDg.out.step TK.out (isd_yes hd0 hd1))
          go_wp2_with (go_at_call 14; refine stop ?_)
          refine Stop.go ((digit_yes (c.toNat : Int) w hd0 hd1).mono ?_)
          rintro e w1 ⟨rfl, rfl⟩
          go_wp2
          go_roundg (gk - 1)
          case measure => have := HK.out; have := HLL.out; have := HT.out; omega
          case rel => exact ⟨j + 1, by have := HK.out; have := HLL.out; have := HT.out; omega, by have := HT.out; go_num, HS.out, rfl⟩
        · have HST := Lib.hid (HDg.out.stop TK.out (isd_no (by omega)))
          go_wp2_with (go_at_call 14; refine stop ?_)
          refine Stop.go ((digit_no (c.toNat : Int) w (by omega)).mono ?_)
          rintro e w1 ⟨rfl, rfl⟩
          go_wp2
          go_meet
          exact ⟨t, rfl, by have := HT.out; omega, hts, by rw [HT.out, Nat.add_sub_cancel_left]; exact HST.out, rfl⟩
      · have HD : Hid (dp l = l.take j) := Lib.hid (by have hjj : j = l.length := by (have := HLL.out; omega)
                                                       have h1 := HDg.out; rw [hjj] at h1 ⊢; exact h1.all)
        clear ht
        go_wp2
        go_meet
        exact ⟨t, rfl, by have := HT.out; omega, hts, by rw [HT.out, Nat.add_sub_cancel_left]; exact HD.out, rfl⟩
  case rest =>
    obtain ⟨t, rfl, ht0, ht1, hdp, rfl⟩ := hcut
    obtain ⟨j, hj⟩ : ∃ j, j = t - at0 := ⟨_, rfl⟩
    rw [← hj] at hdp
    have hjl : j ≤ l.length := by have := HLL.out; omega
    have HJ : Hid (t = at0 + j) := Lib.hid (by omega)
    have HD := Lib.hid hdp
    have HZ : Hid ((l.take j).length = j) := Lib.hid (by rw [List.length_take]; omega)
    have hi1 : IntKind.i64.wrap ((at0 : Int) + 1) = (at0 : Int) + 1 := IntWalk.i64_in _ (by omega)
    clear hj hdp
    by_cases hj0 : j = 0
    · obtain rfl : t = at0 := by have := HJ.out; omega
      have RES : Hid (tkv (dp l) t = .tuple #[.int .i64 0, .int .i64 0, .int .i64 2]) := Lib.hid (tkv_bad _ (by rw [HD.out, hj0]; exact .inl rfl))
      clear hj0
      go_wp2
      refine bodyPost_ret (v := .tuple #[.int .i64 0, .int .i64 0, .int .i64 2]) (by simp [results, Tryd.results11, go_sem]) rfl ?_
      rw [RES.out]
      exact ⟨rfl, rfl⟩
    have hta : ((t : Int) == (at0 : Int)) = false := by have := HJ.out; simp; omega
    have j0 : (at0 : Int) < s.size := by have := HJ.out; omega
    have j1 : at0 < s.size := by omega
    have j2 : (0 : Int) ≤ (at0 : Int) := Int.natCast_nonneg _
    obtain ⟨c0, hc0⟩ : ∃ c0 : UInt8, c0 = s[at0] := ⟨_, rfl⟩
    have g0 : s[at0] = c0 := hc0.symm
    have HH : Hid ((l.take j).head? = some c0) := Lib.hid (by
      have := drop_get (s := s) (a := at0) (j := 0) j1
      rw [List.head?_take, if_neg hj0, List.head?_eq_getElem?, HL.out, this, hc0]; rfl)
    clear hc0
    by_cases hb : 1 < j ∧ (c0.toNat : Int) = 48
    · obtain ⟨hb1, hb2⟩ := hb
      have RES : Hid (tkv (dp l) at0 = .tuple #[.int .i64 0, .int .i64 0, .int .i64 2]) := Lib.hid (tkv_bad _ (by
        rw [HD.out]
        refine .inr ⟨by rw [HZ.out]; exact hb1, ?_⟩
        rw [HH.out]; congr 1; exact UInt8.toNat_inj.1 (by simpa using (by omega : c0.toNat = 48))))
      have hb3 : (at0 : Int) + 1 < (t : Int) := by have := HJ.out; omega
      go_wp2
      refine bodyPost_ret (v := .tuple #[.int .i64 0, .int .i64 0, .int .i64 2]) (by simp [results, Tryd.results11, go_sem]) rfl ?_
      rw [RES.out]
      exact ⟨rfl, rfl⟩
    have NB : Hid (¬ bad (dp l)) := Lib.hid (by
      rw [HD.out]
      rintro (e | ⟨e1, e2⟩)
      · have := HZ.out; rw [e] at this; simp at this; omega
      · rw [HH.out] at e2
        have := congrArg UInt8.toNat (Option.some.inj e2)
        rw [HZ.out] at e1
        exact hb ⟨e1, by simp at this; omega⟩)
    by_cases h1k : (at0 : Int) + 1 < (t : Int)
    · have hn48 : ((c0.toNat : Int) == 48) = false := by have := HJ.out; simp; omega
      go_wp2_with fail
      go_loopg [8, 9] j (fun gk s8 i wr => ∃ m : Nat, m + gk = j ∧ i = .int .i64 ((at0 + m : Nat) : Int) ∧ s8 = .int .i64 (val (l.take m) : Nat) ∧ val (l.take m) ≤ 2147483647 ∧ w = wr)
      case atStart => exact ⟨0, Nat.zero_add _, rfl, rfl, by simp [val_nil], rfl⟩
      case round =>
        obtain ⟨m, hk, rfl, rfl, hv, rfl⟩ := hrel
        have HK := Lib.hid hk
        have hmj : m ≤ j := by omega
        obtain ⟨u, hu⟩ : ∃ u, u = at0 + m := ⟨_, rfl⟩
        rw [← hu]
        obtain ⟨z, hz⟩ : ∃ z : Int, z = (val (l.take m) : Nat) := ⟨_, rfl⟩
        rw [← hz]
        have hz0 : 0 ≤ z := by omega
        have hz1 : z ≤ 2147483647 := by omega
        have HU := Lib.hid hu
        have HZV := Lib.hid hz
        have hub : u ≤ s.size := by have := HLL.out; omega
        clear hk hv
        by_cases hlt : m < j
        · have hus : u < s.size := by have := HLL.out; omega
          have i0 : (0 : Int) ≤ (u : Int) := Int.natCast_nonneg _
          have i1 : (u : Int) < s.size := by omega
          have i2 : (u : Int) < (t : Int) := by have := HJ.out; omega
          obtain ⟨c, hc⟩ : ∃ c : UInt8, c = s[u] := ⟨_, rfl⟩
          have gk1 : s[u] = c := hc.symm
          have TK : Hid (l[m]? = some c) := Lib.hid (by rw [HL.out, hc]; subst hu; exact drop_get hus)
          have hdg : isd c = true := dp_all l c (by
            rw [HD.out]
            exact List.mem_of_getElem? (i := m) (by rw [List.getElem?_take_of_lt hlt]; exact TK.out))
          have hd0 : 48 ≤ (c.toNat : Int) := by have := (isd_iff.1 hdg).1; omega
          have hd1 : (c.toNat : Int) ≤ 57 := by have := (isd_iff.1 hdg).2; omega
          have c1 : IntKind.u8.wrap ((c.toNat : Int) - 48) = (c.toNat : Int) - 48 := by unfold IntKind.wrap; simp [IntKind.bits, IntKind.signed]; omega
          obtain ⟨y, hy⟩ : ∃ y : Int, y = 10 * z + ((c.toNat : Int) - 48) := ⟨_, rfl⟩
          have hy' : 10 * z + ((c.toNat : Int) - 48) = y := hy.symm
          have HV : Hid ((val (l.take (m + 1)) : Int) = y) := Lib.hid (by rw [val_take TK.out, hy, hz]; omega)
          clear hc hu hz hdg hy
          by_cases hgt : 2147483647 < y
          · have RES : Hid (tkv (dp l) at0 = .tuple #[.int .i64 0, .int .i64 0, .int .i64 3]) := Lib.hid (tkv_great _ NB.out (by
              rw [HD.out]
              have h1 := val_take_le (l := l) (j := m + 1) (k := j) (by omega)
              have h2 := HV.out
              unfold M; omega))
            go_wp2
            refine bodyPost_ret (v := .tuple #[.int .i64 0, .int .i64 0, .int .i64 3]) (by simp [results, Tryd.results11, go_sem]) rfl ?_
            rw [RES.out]
            exact ⟨rfl, rfl⟩
          · go_wp2
            go_roundg (gk - 1)
            case measure => have := HK.out; omega
            case rel => exact ⟨m + 1, by have := HK.out; omega, by have := HU.out; go_num, by rw [HV.out], by have := HV.out; omega, rfl⟩
        · have hmj' : m = j := by omega
          have hut : u = t := by have := HJ.out; omega
          subst hut
          have RES : Hid (tkv (dp l) at0 = .tuple #[.int .i64 z, .int .i64 (u : Int), .int .i64 0]) := Lib.hid (by
            rw [tkv_ok _ NB.out (by rw [HD.out, ← hmj']; unfold M; omega), HD.out, HZ.out, ← hmj', ← hz, hu]; rfl)
          clear hu hz hmj'
          go_wp2
          refine bodyPost_ret (v := .tuple #[.int .i64 z, .int .i64 (u : Int), .int .i64 0]) (by simp [results, Tryd.results11, go_sem]) rfl ?_
          rw [RES.out]
          exact ⟨rfl, rfl⟩
    · go_wp2_with fail
      go_loopg [8, 9] j (fun gk s8 i wr => ∃ m : Nat, m + gk = j ∧ i = .int .i64 ((at0 + m : Nat) : Int) ∧ s8 = .int .i64 (val (l.take m) : Nat) ∧ val (l.take m) ≤ 2147483647 ∧ w = wr)
      case atStart => exact ⟨0, Nat.zero_add _, rfl, rfl, by simp [val_nil], rfl⟩
      case round =>
        obtain ⟨m, hk, rfl, rfl, hv, rfl⟩ := hrel
        have HK := Lib.hid hk
        have hmj : m ≤ j := by omega
        obtain ⟨u, hu⟩ : ∃ u, u = at0 + m := ⟨_, rfl⟩
        rw [← hu]
        obtain ⟨z, hz⟩ : ∃ z : Int, z = (val (l.take m) : Nat) := ⟨_, rfl⟩
        rw [← hz]
        have hz0 : 0 ≤ z := by omega
        have hz1 : z ≤ 2147483647 := by omega
        have HU := Lib.hid hu
        have HZV := Lib.hid hz
        have hub : u ≤ s.size := by have := HLL.out; omega
        clear hk hv
        by_cases hlt : m < j
        · have hus : u < s.size := by have := HLL.out; omega
          have i0 : (0 : Int) ≤ (u : Int) := Int.natCast_nonneg _
          have i1 : (u : Int) < s.size := by omega
          have i2 : (u : Int) < (t : Int) := by have := HJ.out; omega
          obtain ⟨c, hc⟩ : ∃ c : UInt8, c = s[u] := ⟨_, rfl⟩
          have gk1 : s[u] = c := hc.symm
          have TK : Hid (l[m]? = some c) := Lib.hid (by rw [HL.out, hc]; subst hu; exact drop_get hus)
          have hdg : isd c = true := dp_all l c (by
            rw [HD.out]
            exact List.mem_of_getElem? (i := m) (by rw [List.getElem?_take_of_lt hlt]; exact TK.out))
          have hd0 : 48 ≤ (c.toNat : Int) := by have := (isd_iff.1 hdg).1; omega
          have hd1 : (c.toNat : Int) ≤ 57 := by have := (isd_iff.1 hdg).2; omega
          have c1 : IntKind.u8.wrap ((c.toNat : Int) - 48) = (c.toNat : Int) - 48 := by unfold IntKind.wrap; simp [IntKind.bits, IntKind.signed]; omega
          obtain ⟨y, hy⟩ : ∃ y : Int, y = 10 * z + ((c.toNat : Int) - 48) := ⟨_, rfl⟩
          have hy' : 10 * z + ((c.toNat : Int) - 48) = y := hy.symm
          have HV : Hid ((val (l.take (m + 1)) : Int) = y) := Lib.hid (by rw [val_take TK.out, hy, hz]; omega)
          clear hc hu hz hdg hy
          by_cases hgt : 2147483647 < y
          · have RES : Hid (tkv (dp l) at0 = .tuple #[.int .i64 0, .int .i64 0, .int .i64 3]) := Lib.hid (tkv_great _ NB.out (by
              rw [HD.out]
              have h1 := val_take_le (l := l) (j := m + 1) (k := j) (by omega)
              have h2 := HV.out
              unfold M; omega))
            go_wp2
            refine bodyPost_ret (v := .tuple #[.int .i64 0, .int .i64 0, .int .i64 3]) (by simp [results, Tryd.results11, go_sem]) rfl ?_
            rw [RES.out]
            exact ⟨rfl, rfl⟩
          · go_wp2
            go_roundg (gk - 1)
            case measure => have := HK.out; omega
            case rel => exact ⟨m + 1, by have := HK.out; omega, by have := HU.out; go_num, by rw [HV.out], by have := HV.out; omega, rfl⟩
        · have hmj' : m = j := by omega
          have hut : u = t := by have := HJ.out; omega
          subst hut
          have RES : Hid (tkv (dp l) at0 = .tuple #[.int .i64 z, .int .i64 (u : Int), .int .i64 0]) := Lib.hid (by
            rw [tkv_ok _ NB.out (by rw [HD.out, ← hmj']; unfold M; omega), HD.out, HZ.out, ← hmj', ← hz, hu]; rfl)
          clear hu hz hmj'
          go_wp2
          refine bodyPost_ret (v := .tuple #[.int .i64 z, .int .i64 (u : Int), .int .i64 0]) (by simp [results, Tryd.results11, go_sem]) rfl ?_
          rw [RES.out]
          exact ⟨rfl, rfl⟩

end Go.Proofs.YtanpdfiekjgdoaaDoor
