/- Take. -/
import Derived.Test.YtanpdfiekjgdoaaDoorNumA
namespace Go.Proofs.YtanpdfiekjgdoaaDoor
open Go.RowKit Go.Lib

theorem slen (s : ByteArray) : s.data.toList.length = s.size := by cases s; rfl
theorem sget (s : ByteArray) (i : Nat) (h : i < s.size) : s.data.toList[i]? = some s[i] := by
  rw [List.getElem?_eq_getElem (by rw [slen]; exact h)]; rfl
theorem sextract (s : ByteArray) (i : Nat) : (s.extract i s.size).data.toList = s.data.toList.drop i := by
  have := slen s
  simp only [ByteArray.data_extract, Array.toList_extract, List.extract_eq_take_drop]
  rw [List.take_of_length_le (by simp)]
theorem isd_yes {c : UInt8} (h0 : 48 ≤ (c.toNat : Int)) (h1 : (c.toNat : Int) ≤ 57) : isd c = true := isd_iff.2 (by omega)
theorem isd_no {c : UInt8} (h : (c.toNat : Int) < 48 ∨ 57 < (c.toNat : Int)) : isd c = false := by
  cases hb : isd c with
  | false => rfl
  | true => have := isd_iff.1 hb; omega

/-- k digits so far. -/
def Dig (l : List UInt8) (k : Nat) : Prop := ∀ j c, j < k → l[j]? = some c → isd c = true
theorem Dig.step {l : List UInt8} {k : Nat} {c : UInt8} (h : Dig l k) (hc : l[k]? = some c) (hd : isd c = true) : Dig l (k + 1) := fun j x hj hx => by
  by_cases e : j = k
  · subst e
    rw [hc] at hx
    obtain rfl := Option.some.inj hx
    exact hd
  · exact h j x (by omega) hx
theorem Dig.stop {l : List UInt8} {k : Nat} {c : UInt8} (h : Dig l k) (hc : l[k]? = some c) (hd : isd c = false) : dp l = l.take k :=
  dp_take h (fun x hx => by rw [hc] at hx; obtain rfl := Option.some.inj hx; exact hd) (by have := (List.getElem?_eq_some_iff.1 hc).1; omega)
theorem Dig.all {l : List UInt8} (h : Dig l l.length) : dp l = l.take l.length := dp_take h (fun x hx => by simp at hx) (Nat.le_refl _)
theorem take_snoc {α : Type} {xs : List α} {k : Nat} {x : α} (h : xs[k]? = some x) : xs.take (k + 1) = xs.take k ++ [x] := by
  rw [List.take_add_one, h]; rfl
theorem val_take {l : List UInt8} {k : Nat} {c : UInt8} (h : l[k]? = some c) : val (l.take (k + 1)) = 10 * val (l.take k) + (c.toNat - 48) := by rw [take_snoc h, val_snoc]
theorem val_take_le {l : List UInt8} {j k : Nat} (h : j ≤ k) : val (l.take j) ≤ val (l.take k) := by
  have e : l.take k = l.take j ++ (l.drop j).take (k - j) := by
    rw [show k = j + (k - j) by omega, List.take_add]; simp
  rw [e]; exact val_app_le _ _

set_option maxRecDepth 100000 in
theorem take_arg (s : ByteArray) (k : Int) (w : World) (h : k < 0 ∨ (s.size : Int) < k) :
    Calls Tryd.prog 10 #[.string s, .int .i64 k] w fun e w' => e = .returned (.tuple #[.int .i64 0, .int .i64 0, .int .i64 1]) ∧ w = w' := by
  by_cases h0 : k < 0
  · go_enter Tryd.func10, Tryd.ntmps10
    go_wp2
    exact bodyPost_ret (v := .tuple #[.int .i64 0, .int .i64 0, .int .i64 1]) (by simp [results, Tryd.results10, go_sem]) rfl ⟨rfl, rfl⟩
  · have h1 : (s.size : Int) < k := by omega
    go_enter Tryd.func10, Tryd.ntmps10
    go_wp2
    exact bodyPost_ret (v := .tuple #[.int .i64 0, .int .i64 0, .int .i64 1]) (by simp [results, Tryd.results10, go_sem]) rfl ⟨rfl, rfl⟩

/-- What Take answers for the digits d at place k. -/
def tkv (d : List UInt8) (k : Nat) : Value :=
  if bad d then .tuple #[.int .i64 0, .int .i64 0, .int .i64 2] else if M < val d then .tuple #[.int .i64 0, .int .i64 0, .int .i64 3] else .tuple #[.int .i64 (val d : Nat), .int .i64 ((k : Int) + (d.length : Nat)), .int .i64 0]
theorem tkv_bad {d : List UInt8} (k : Nat) (h : bad d) : tkv d k = .tuple #[.int .i64 0, .int .i64 0, .int .i64 2] := by simp [tkv, h]
theorem tkv_great {d : List UInt8} (k : Nat) (h : ¬ bad d) (hg : M < val d) : tkv d k = .tuple #[.int .i64 0, .int .i64 0, .int .i64 3] := by simp [tkv, h, hg]
theorem tkv_ok {d : List UInt8} (k : Nat) (h : ¬ bad d) (hg : ¬ M < val d) : tkv d k = .tuple #[.int .i64 (val d : Nat), .int .i64 ((k : Int) + (d.length : Nat)), .int .i64 0] := by simp [tkv, h, hg]

/-- How n and great stand behind k digits. -/
def Gr (l : List UInt8) (k : Nat) (z : Int) (great : Bool) : Prop :=
  match great with
  | true => M < val (l.take k)
  | false => z = (val (l.take k) : Nat) ∧ (val (l.take k) : Int) ≤ 2147483647
theorem Gr.great {l : List UInt8} {k : Nat} {z y : Int} (h : Gr l k z true) : Gr l (k + 1) y true := Nat.lt_of_lt_of_le (show M < val (l.take k) from h) (val_take_le (by omega))

set_option maxRecDepth 100000 in
set_option maxHeartbeats 2000000 in
theorem take_in (s T : ByteArray) (at0 : Nat) (w : World) (hs : s.size ≤ 4611686018427387904) (h : (at0 : Int) ≤ s.size) (hT : s.extract at0 s.size = T) :
    Calls Tryd.prog 10 #[.string s, .int .i64 at0] w fun e w' => e = .returned (tkv (dp T.data.toList) at0) ∧ w = w' := by
  have hTz : T.size + at0 = s.size := by rw [← hT]; simp; omega
  have hTs : T.size ≤ 4611686018427387904 := by omega
  have hsum : (at0 : Int) + T.size ≤ 4611686018427387904 := by omega
  have hd1 : decide (s.size < at0) = false := by simp; omega
  have hd2 : decide ((at0 : Int) < 0) = false := by simp
  clear hTz
  go_enter Tryd.func10, Tryd.ntmps10
  go_wp2_with fail
  go_loopg [8, 9, 10, 25] T.size (fun gk s8 s9 s10 i wr => ∃ (k : Nat) (z : Int) (great : Bool), k + gk = T.size ∧ s8 = .int .i64 z ∧ s9 = .int .i64 k ∧ s10 = .bool great ∧ i = .int .i64 k ∧ Dig T.data.toList k ∧ Gr T.data.toList k z great ∧ w = wr)
  case atStart => exact ⟨0, 0, false, Nat.zero_add _, rfl, rfl, rfl, rfl, fun j c hj => by omega, ⟨rfl, by simp [val_nil]⟩, rfl⟩
  case round =>
    obtain ⟨k, z, great, hk, rfl, rfl, rfl, rfl, hd, hg, rfl⟩ := hrel
    have HK := Lib.hid hk
    have HDg := Lib.hid hd
    have HG := Lib.hid hg
    have hkl : k ≤ T.size := by omega
    clear hk hd hg
    by_cases hlt : k < T.size
    · have i0 : (0 : Int) ≤ (k : Int) := Int.natCast_nonneg _
      have i1 : (k : Int) < T.size := by omega
      have tk := sget T k hlt
      obtain ⟨c, hc⟩ : ∃ c : UInt8, c = T[k] := ⟨_, rfl⟩
      rw [← hc] at tk
      have gk1 : T[k] = c := hc.symm
      have TK := Lib.hid tk
      clear tk hc
      by_cases hdig : 48 ≤ (c.toNat : Int) ∧ (c.toNat : Int) ≤ 57
      · obtain ⟨hd0, hd1⟩ := hdig
        have HS := Lib.hid (HDg.out.step TK.out (isd_yes hd0 hd1))
        have hn0 : ¬ (c.toNat : Int) < 48 := by omega
        have hn1 : ¬ 57 < (c.toNat : Int) := by omega
        have c1 : IntKind.u8.wrap ((c.toNat : Int) - 48) = (c.toNat : Int) - 48 := by unfold IntKind.wrap; simp [IntKind.bits, IntKind.signed]; omega
        cases hgr : great with
        | true =>
          have hG := HG.out
          rw [hgr] at hG
          have HG' := Lib.hid hG
          clear hG
          go_wp2
          go_roundg (gk - 1)
          case measure => have := HK.out; omega
          case rel => exact ⟨k + 1, z, true, by have := HK.out; omega, rfl, by go_num, rfl, by go_num, HS.out, HG'.out.great, rfl⟩
        | false =>
          have hG := HG.out
          rw [hgr] at hG
          have hz1 : z ≤ 2147483647 := by rw [hG.1]; exact hG.2
          have hz0 : 0 ≤ z := by rw [hG.1]; exact Int.natCast_nonneg _
          obtain ⟨y, hy⟩ : ∃ y : Int, y = 10 * z + ((c.toNat : Int) - 48) := ⟨_, rfl⟩
          have hy' : 10 * z + ((c.toNat : Int) - 48) = y := hy.symm
          have hvy : (val (T.data.toList.take (k + 1)) : Int) = y := by rw [val_take TK.out, hy, hG.1]; omega
          have HV := Lib.hid hvy
          clear hvy hG
          by_cases hgt : 2147483647 < y
          · have HG' : Hid (Gr T.data.toList (k + 1) y true) := Lib.hid (by show M < _; have := HV.out; unfold M; omega)
            clear hy
            go_wp2
            go_roundg (gk - 1)
            case measure => have := HK.out; omega
            case rel => exact ⟨k + 1, y, true, by have := HK.out; omega, by go_num, by go_num, rfl, by go_num, HS.out, HG'.out, rfl⟩
          · have HG' : Hid (Gr T.data.toList (k + 1) y false) := Lib.hid ⟨HV.out.symm, by have := HV.out; omega⟩
            clear hy
            go_wp2
            go_roundg (gk - 1)
            case measure => have := HK.out; omega
            case rel => exact ⟨k + 1, y, false, by have := HK.out; omega, by go_num, by go_num, rfl, by go_num, HS.out, HG'.out, rfl⟩
      · have hno : (c.toNat : Int) < 48 ∨ 57 < (c.toNat : Int) := by omega
        have HST := Lib.hid (HDg.out.stop TK.out (isd_no hno))
        clear hdig
        by_cases hl48 : (c.toNat : Int) < 48
        · clear hno
          have HD : Hid (dp T.data.toList = T.data.toList.take k) := HST
          have hkz : (T.data.toList.take k).length = k := by rw [List.length_take, slen]; omega
          have HZ := Lib.hid hkz
          clear hkz
          by_cases hk0 : k = 0
          · subst hk0
            have RES : Hid (tkv (dp T.data.toList) at0 = .tuple #[.int .i64 0, .int .i64 0, .int .i64 2]) := Lib.hid (tkv_bad _ (by rw [HD.out]; exact .inl rfl))
            go_wp2
            refine bodyPost_ret (v := .tuple #[.int .i64 0, .int .i64 0, .int .i64 2]) (by simp [results, Tryd.results10, go_sem]) rfl ?_
            rw [RES.out]
            exact ⟨rfl, rfl⟩
          · have hk1 : ((k : Int) == 0) = false := by simp; omega
            have j0 : 0 < T.size := by omega
            have j1 : (0 : Int) < T.size := by omega
            have t0 := sget T 0 j0
            obtain ⟨c0, hc0⟩ : ∃ c0 : UInt8, c0 = T[0] := ⟨_, rfl⟩
            have g0 : T[0] = c0 := hc0.symm
            have HH : Hid ((T.data.toList.take k).head? = some c0) := Lib.hid (by rw [List.head?_take, if_neg hk0, List.head?_eq_getElem?, t0, g0])
            clear t0 hc0
            by_cases hb : 1 < k ∧ (c0.toNat : Int) = 48
            · obtain ⟨hb1, hb2⟩ := hb
              have RES : Hid (tkv (dp T.data.toList) at0 = .tuple #[.int .i64 0, .int .i64 0, .int .i64 2]) := Lib.hid (tkv_bad _ (by
                rw [HD.out]
                refine .inr ⟨by rw [HZ.out]; exact hb1, ?_⟩
                rw [HH.out]; congr 1; exact UInt8.toNat_inj.1 (by simpa using (by omega : c0.toNat = 48))))
              have hb3 : (1 : Int) < (k : Int) := by omega
              go_wp2
              refine bodyPost_ret (v := .tuple #[.int .i64 0, .int .i64 0, .int .i64 2]) (by simp [results, Tryd.results10, go_sem]) rfl ?_
              rw [RES.out]
              exact ⟨rfl, rfl⟩
            · have NB : Hid (¬ bad (dp T.data.toList)) := Lib.hid (by
                rw [HD.out]
                rintro (e | ⟨e1, e2⟩)
                · have := HZ.out; rw [e] at this; simp at this; omega
                · rw [HH.out] at e2
                  have := congrArg UInt8.toNat (Option.some.inj e2)
                  rw [HZ.out] at e1
                  exact hb ⟨e1, by simp at this; omega⟩)
              cases hgr : great with
              | true =>
                have hG := HG.out
                rw [hgr] at hG
                have RES : Hid (tkv (dp T.data.toList) at0 = .tuple #[.int .i64 0, .int .i64 0, .int .i64 3]) := Lib.hid (tkv_great _ NB.out (by rw [HD.out]; exact hG))
                clear hG
                by_cases h1k : (1 : Int) < (k : Int)
                · have hn48 : ((c0.toNat : Int) == 48) = false := by simp; omega
                  go_wp2
                  refine bodyPost_ret (v := .tuple #[.int .i64 0, .int .i64 0, .int .i64 3]) (by simp [results, Tryd.results10, go_sem]) rfl ?_
                  rw [RES.out]
                  exact ⟨rfl, rfl⟩
                · go_wp2
                  refine bodyPost_ret (v := .tuple #[.int .i64 0, .int .i64 0, .int .i64 3]) (by simp [results, Tryd.results10, go_sem]) rfl ?_
                  rw [RES.out]
                  exact ⟨rfl, rfl⟩
              | false =>
                have hG := HG.out
                rw [hgr] at hG
                have RES : Hid (tkv (dp T.data.toList) at0 = .tuple #[.int .i64 z, .int .i64 ((at0 : Int) + k), .int .i64 0]) := Lib.hid (by
                  rw [tkv_ok _ NB.out (by rw [HD.out]; have := hG.2; unfold M; omega), HD.out, HZ.out, ← hG.1])
                clear hG
                by_cases h1k : (1 : Int) < (k : Int)
                · have hn48 : ((c0.toNat : Int) == 48) = false := by simp; omega
                  go_wp2
                  refine bodyPost_ret (v := .tuple #[.int .i64 z, .int .i64 ((at0 : Int) + k), .int .i64 0]) (by simp [results, Tryd.results10, go_sem]) rfl ?_
                  rw [RES.out]
                  exact ⟨rfl, rfl⟩
                · go_wp2
                  refine bodyPost_ret (v := .tuple #[.int .i64 z, .int .i64 ((at0 : Int) + k), .int .i64 0]) (by simp [results, Tryd.results10, go_sem]) rfl ?_
                  rw [RES.out]
                  exact ⟨rfl, rfl⟩
        · have hg57 : 57 < (c.toNat : Int) := by omega
          clear hno
          have HD : Hid (dp T.data.toList = T.data.toList.take k) := HST
          have hkz : (T.data.toList.take k).length = k := by rw [List.length_take, slen]; omega
          have HZ := Lib.hid hkz
          clear hkz
          by_cases hk0 : k = 0
          · subst hk0
            have RES : Hid (tkv (dp T.data.toList) at0 = .tuple #[.int .i64 0, .int .i64 0, .int .i64 2]) := Lib.hid (tkv_bad _ (by rw [HD.out]; exact .inl rfl))
            go_wp2
            refine bodyPost_ret (v := .tuple #[.int .i64 0, .int .i64 0, .int .i64 2]) (by simp [results, Tryd.results10, go_sem]) rfl ?_
            rw [RES.out]
            exact ⟨rfl, rfl⟩
          · have hk1 : ((k : Int) == 0) = false := by simp; omega
            have j0 : 0 < T.size := by omega
            have j1 : (0 : Int) < T.size := by omega
            have t0 := sget T 0 j0
            obtain ⟨c0, hc0⟩ : ∃ c0 : UInt8, c0 = T[0] := ⟨_, rfl⟩
            have g0 : T[0] = c0 := hc0.symm
            have HH : Hid ((T.data.toList.take k).head? = some c0) := Lib.hid (by rw [List.head?_take, if_neg hk0, List.head?_eq_getElem?, t0, g0])
            clear t0 hc0
            by_cases hb : 1 < k ∧ (c0.toNat : Int) = 48
            · obtain ⟨hb1, hb2⟩ := hb
              have RES : Hid (tkv (dp T.data.toList) at0 = .tuple #[.int .i64 0, .int .i64 0, .int .i64 2]) := Lib.hid (tkv_bad _ (by
                rw [HD.out]
                refine .inr ⟨by rw [HZ.out]; exact hb1, ?_⟩
                rw [HH.out]; congr 1; exact UInt8.toNat_inj.1 (by simpa using (by omega : c0.toNat = 48))))
              have hb3 : (1 : Int) < (k : Int) := by omega
              go_wp2
              refine bodyPost_ret (v := .tuple #[.int .i64 0, .int .i64 0, .int .i64 2]) (by simp [results, Tryd.results10, go_sem]) rfl ?_
              rw [RES.out]
              exact ⟨rfl, rfl⟩
            · have NB : Hid (¬ bad (dp T.data.toList)) := Lib.hid (by
                rw [HD.out]
                rintro (e | ⟨e1, e2⟩)
                · have := HZ.out; rw [e] at this; simp at this; omega
                · rw [HH.out] at e2
                  have := congrArg UInt8.toNat (Option.some.inj e2)
                  rw [HZ.out] at e1
                  exact hb ⟨e1, by simp at this; omega⟩)
              cases hgr : great with
              | true =>
                have hG := HG.out
                rw [hgr] at hG
                have RES : Hid (tkv (dp T.data.toList) at0 = .tuple #[.int .i64 0, .int .i64 0, .int .i64 3]) := Lib.hid (tkv_great _ NB.out (by rw [HD.out]; exact hG))
                clear hG
                by_cases h1k : (1 : Int) < (k : Int)
                · have hn48 : ((c0.toNat : Int) == 48) = false := by simp; omega
                  go_wp2
                  refine bodyPost_ret (v := .tuple #[.int .i64 0, .int .i64 0, .int .i64 3]) (by simp [results, Tryd.results10, go_sem]) rfl ?_
                  rw [RES.out]
                  exact ⟨rfl, rfl⟩
                · go_wp2
                  refine bodyPost_ret (v := .tuple #[.int .i64 0, .int .i64 0, .int .i64 3]) (by simp [results, Tryd.results10, go_sem]) rfl ?_
                  rw [RES.out]
                  exact ⟨rfl, rfl⟩
              | false =>
                have hG := HG.out
                rw [hgr] at hG
                have RES : Hid (tkv (dp T.data.toList) at0 = .tuple #[.int .i64 z, .int .i64 ((at0 : Int) + k), .int .i64 0]) := Lib.hid (by
                  rw [tkv_ok _ NB.out (by rw [HD.out]; have := hG.2; unfold M; omega), HD.out, HZ.out, ← hG.1])
                clear hG
                by_cases h1k : (1 : Int) < (k : Int)
                · have hn48 : ((c0.toNat : Int) == 48) = false := by simp; omega
                  go_wp2
                  refine bodyPost_ret (v := .tuple #[.int .i64 z, .int .i64 ((at0 : Int) + k), .int .i64 0]) (by simp [results, Tryd.results10, go_sem]) rfl ?_
                  rw [RES.out]
                  exact ⟨rfl, rfl⟩
                · go_wp2
                  refine bodyPost_ret (v := .tuple #[.int .i64 z, .int .i64 ((at0 : Int) + k), .int .i64 0]) (by simp [results, Tryd.results10, go_sem]) rfl ?_
                  rw [RES.out]
                  exact ⟨rfl, rfl⟩
    · have hkk : k = T.size := by omega
      have HD : Hid (dp T.data.toList = T.data.toList.take k) := Lib.hid (by have h1 := HDg.out; rw [hkk, ← slen] at h1 ⊢; exact h1.all)
      have hkz : (T.data.toList.take k).length = k := by rw [List.length_take, slen]; omega
      have HZ := Lib.hid hkz
      clear hkz hkk
      by_cases hk0 : k = 0
      · subst hk0
        have RES : Hid (tkv (dp T.data.toList) at0 = .tuple #[.int .i64 0, .int .i64 0, .int .i64 2]) := Lib.hid (tkv_bad _ (by rw [HD.out]; exact .inl rfl))
        go_wp2
        refine bodyPost_ret (v := .tuple #[.int .i64 0, .int .i64 0, .int .i64 2]) (by simp [results, Tryd.results10, go_sem]) rfl ?_
        rw [RES.out]
        exact ⟨rfl, rfl⟩
      · have hk1 : ((k : Int) == 0) = false := by simp; omega
        have j0 : 0 < T.size := by omega
        have j1 : (0 : Int) < T.size := by omega
        have t0 := sget T 0 j0
        obtain ⟨c0, hc0⟩ : ∃ c0 : UInt8, c0 = T[0] := ⟨_, rfl⟩
        have g0 : T[0] = c0 := hc0.symm
        have HH : Hid ((T.data.toList.take k).head? = some c0) := Lib.hid (by rw [List.head?_take, if_neg hk0, List.head?_eq_getElem?, t0, g0])
        clear t0 hc0
        by_cases hb : 1 < k ∧ (c0.toNat : Int) = 48
        · obtain ⟨hb1, hb2⟩ := hb
          have RES : Hid (tkv (dp T.data.toList) at0 = .tuple #[.int .i64 0, .int .i64 0, .int .i64 2]) := Lib.hid (tkv_bad _ (by
            rw [HD.out]
            refine .inr ⟨by rw [HZ.out]; exact hb1, ?_⟩
            rw [HH.out]; congr 1; exact UInt8.toNat_inj.1 (by simpa using (by omega : c0.toNat = 48))))
          have hb3 : (1 : Int) < (k : Int) := by omega
          go_wp2
          refine bodyPost_ret (v := .tuple #[.int .i64 0, .int .i64 0, .int .i64 2]) (by simp [results, Tryd.results10, go_sem]) rfl ?_
          rw [RES.out]
          exact ⟨rfl, rfl⟩
        · have NB : Hid (¬ bad (dp T.data.toList)) := Lib.hid (by
            rw [HD.out]
            rintro (e | ⟨e1, e2⟩)
            · have := HZ.out; rw [e] at this; simp at this; omega
            · rw [HH.out] at e2
              have := congrArg UInt8.toNat (Option.some.inj e2)
              rw [HZ.out] at e1
              exact hb ⟨e1, by simp at this; omega⟩)
          cases hgr : great with
          | true =>
            have hG := HG.out
            rw [hgr] at hG
            have RES : Hid (tkv (dp T.data.toList) at0 = .tuple #[.int .i64 0, .int .i64 0, .int .i64 3]) := Lib.hid (tkv_great _ NB.out (by rw [HD.out]; exact hG))
            clear hG
            by_cases h1k : (1 : Int) < (k : Int)
            · have hn48 : ((c0.toNat : Int) == 48) = false := by simp; omega
              go_wp2
              refine bodyPost_ret (v := .tuple #[.int .i64 0, .int .i64 0, .int .i64 3]) (by simp [results, Tryd.results10, go_sem]) rfl ?_
              rw [RES.out]
              exact ⟨rfl, rfl⟩
            · go_wp2
              refine bodyPost_ret (v := .tuple #[.int .i64 0, .int .i64 0, .int .i64 3]) (by simp [results, Tryd.results10, go_sem]) rfl ?_
              rw [RES.out]
              exact ⟨rfl, rfl⟩
          | false =>
            have hG := HG.out
            rw [hgr] at hG
            have RES : Hid (tkv (dp T.data.toList) at0 = .tuple #[.int .i64 z, .int .i64 ((at0 : Int) + k), .int .i64 0]) := Lib.hid (by
              rw [tkv_ok _ NB.out (by rw [HD.out]; have := hG.2; unfold M; omega), HD.out, HZ.out, ← hG.1])
            clear hG
            by_cases h1k : (1 : Int) < (k : Int)
            · have hn48 : ((c0.toNat : Int) == 48) = false := by simp; omega
              go_wp2
              refine bodyPost_ret (v := .tuple #[.int .i64 z, .int .i64 ((at0 : Int) + k), .int .i64 0]) (by simp [results, Tryd.results10, go_sem]) rfl ?_
              rw [RES.out]
              exact ⟨rfl, rfl⟩
            · go_wp2
              refine bodyPost_ret (v := .tuple #[.int .i64 z, .int .i64 ((at0 : Int) + k), .int .i64 0]) (by simp [results, Tryd.results10, go_sem]) rfl ?_
              rw [RES.out]
              exact ⟨rfl, rfl⟩

end Go.Proofs.YtanpdfiekjgdoaaDoor
