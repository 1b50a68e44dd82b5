/- Get. -/
import Derived.Test.YtlppphhgbfehcaaScA
import Derived.RegionTactic
import Derived.ChangeAlike
namespace Go.Proofs.Ytlppphhgbfehcaa
open Go.RowKit

theorem getE_odd {l : List UInt8} (h : l.length % 2 = 1) : getE l = 16 := by simp [getE, h]
theorem getP_odd {l : List UInt8} (h : l.length % 2 = 1) : getP l = [] := by simp [getP, h]
theorem getE_many {l : List UInt8} (h : l.length % 2 = 0) (h2 : 4000 < l.length) : getE l = 4 := by simp [getE, h, h2]
theorem getP_many {l : List UInt8} (h2 : 4000 < l.length) : getP l = [] := by simp [getP, h2]
theorem getE_no {l : List UInt8} (h : l.length % 2 = 0) (h2 : ¬ 4000 < l.length) (k : Nat) (x : Pk) (hx : (dec l)[k]? = some x) (hr : rt x = false) : getE l = 2 := by
  have : (dec l).all rt = false := List.all_eq_false.2 ⟨x, List.mem_of_getElem? hx, by simp [hr]⟩
  simp [getE, h, h2, this]
theorem getP_no {l : List UInt8} (k : Nat) (x : Pk) (hx : (dec l)[k]? = some x) (hr : rt x = false) : getP l = [] := by
  have : (dec l).all rt = false := List.all_eq_false.2 ⟨x, List.mem_of_getElem? hx, by simp [hr]⟩
  simp [getP, this]
theorem getE_ok {l : List UInt8} (h : l.length % 2 = 0) (h2 : ¬ 4000 < l.length) (hr : (dec l).all rt = true) : getE l = 0 := by simp [getE, h, h2, hr]
theorem getP_ok {l : List UInt8} (h : l.length % 2 = 0) (h2 : ¬ 4000 < l.length) (hr : (dec l).all rt = true) : getP l = dec l := by simp [getP, h, h2, hr]

theorem dec_get : ∀ (l : List UInt8) (k : Nat) (a b : UInt8), l[2 * k]? = some a → l[2 * k + 1]? = some b → (dec l)[k]? = some ((a.toNat : Int), (b.toNat : Int))
  | [], k, a, b, h, _ => by simp at h
  | [_], k, a, b, _, h => by simp at h
  | x :: y :: r, 0, a, b, h1, h2 => by simp at h1 h2; simp [dec, h1, h2]
  | x :: y :: r, k + 1, a, b, h1, h2 => by
    have := dec_get r k a b (by simpa [Nat.mul_add] using h1) (by simpa [Nat.mul_add] using h2)
    simpa [dec] using this

theorem slen (s : ByteArray) : s.data.toList.length = s.size := by cases s; rfl
theorem sget (s : ByteArray) (i : Nat) (h : i < s.size) : s.data.toList[i]? = some s[i] := by
  rw [List.getElem?_eq_getElem (by rw [slen]; exact h)]; rfl
theorem sextract (s : ByteArray) (i : Nat) : (s.extract i s.size).data.toList = s.data.toList.drop i := by
  have := slen s
  simp only [ByteArray.data_extract, Array.toList_extract, List.extract_eq_take_drop]
  rw [List.take_of_length_le (by simp)]
theorem all_snoc' {ps : List Pk} {k : Nat} {x : Pk} (hx : ps[k]? = some x) (h : (ps.take k).all rt = true) (hr : rt x = true) : (ps.take (k + 1)).all rt = true := by
  rw [take_snoc hx, List.all_append, h]; simp [hr]

set_option maxRecDepth 100000 in
theorem get_odd (s : ByteArray) (w : World) (hs : s.size ≤ maxLen) (ho : s.size % 2 = 1) :
    Calls Try.prog 11 #[.string s] w fun e w' => ∃ v, e = .returned (.tuple #[v, .int .i64 (getE s.data.toList)]) ∧ RP w' v (getP s.data.toList) ∧ Fr nob w w' := by
  have hl : s.data.toList.length % 2 = 1 := by rw [slen]; exact ho
  rw [getE_odd hl, getP_odd hl]
  unfold maxLen at hs
  have e1 : ((s.size : Int) % 2 == 1) = true := by simp; omega
  clear hl
  go_enter Try.func11, Try.ntmps11
  go_wp2
  go_ret2
  exact ⟨_, rfl, RP.nil w, Fr.refl _ _⟩

set_option maxRecDepth 100000 in
theorem get_many (s : ByteArray) (w : World) (hs : s.size ≤ maxLen) (ho : s.size % 2 = 0) (hm : 4000 < s.size) :
    Calls Try.prog 11 #[.string s] w fun e w' => ∃ v, e = .returned (.tuple #[v, .int .i64 (getE s.data.toList)]) ∧ RP w' v (getP s.data.toList) ∧ Fr nob w w' := by
  have hl : s.data.toList.length % 2 = 0 := by rw [slen]; exact ho
  have hl2 : 4000 < s.data.toList.length := by rw [slen]; exact hm
  rw [getE_many hl hl2, getP_many hl2]
  unfold maxLen at hs
  have e1 : ((s.size : Int) % 2 == 1) = false := by simp; omega
  clear hl hl2
  go_enter Try.func11, Try.ntmps11
  go_wp2
  go_ret2
  exact ⟨_, rfl, RP.nil w, Fr.refl _ _⟩

set_option maxRecDepth 100000 in
set_option maxHeartbeats 400000 in
theorem get_some (s : ByteArray) (w : World) (ho : s.size % 2 = 0) (hm : ¬ 4000 < s.size) :
    Calls Try.prog 11 #[.string s] w fun e w' => ∃ v, e = .returned (.tuple #[v, .int .i64 (getE s.data.toList)]) ∧ RP w' v (getP s.data.toList) ∧ Fr nob w w' := by
  obtain ⟨l, hl⟩ : ∃ l, l = s.data.toList := ⟨_, rfl⟩
  rw [← hl]
  have hl1 : l.length = s.size := by rw [hl, slen]
  have hl2 : l.length % 2 = 0 := by omega
  have hl4 : ¬ 4000 < l.length := by omega
  obtain ⟨n, hn⟩ : ∃ n, s.size = 2 * n := ⟨s.size / 2, by omega⟩
  have HL := Lib.hid hl
  have HL1 := Lib.hid (hl1.trans hn)
  have HL2 := Lib.hid hl2
  have HN := Lib.hid hn
  have hn2 : n ≤ 2000 := by omega
  have e1 : ((s.size : Int) % 2 == 1) = false := by simp; omega
  clear hl hl1 hl2 hn
  go_enter Try.func11, Try.ntmps11
  go_wp2_with fail
  go_loopg [0, 4] n (fun gk s0 s4 wr => ∃ (k : Nat) (T : ByteArray), k + gk = n ∧ s0 = .string T ∧ T.data.toList = l.drop (2 * k) ∧ ((dec l).take k).all rt = true ∧ wr.ownsRow w.heap.size 36 2 s4 k (cp ((dec l).take k)) ∧ Fr nob w wr)
  case atStart => exact ⟨0, s, Nat.zero_add _, rfl, HL.out.symm, rfl, World.ownsRow_nil _ _ _ _, Fr.refl _ _⟩
  case round =>
    obtain ⟨k, T, hk, rfl, hT, hall, ho, hf⟩ := hrel
    obtain ⟨a3, cap3, rfl, -, -⟩ := owns_shape ho
    have O := Lib.hid ho
    have F := Lib.hid hf
    have HK := Lib.hid hk
    have HA := Lib.hid hall
    have HT := Lib.hid hT
    have hkl : k ≤ n := by omega
    have hTs : T.size = l.length - 2 * k := by rw [← slen, hT, List.length_drop]
    have hTz := Lib.hid hTs
    have HLn := HL1.out
    clear ho hf hk hall hT
    by_cases hlt : k < n
    · have i0 : (0 : Int) < T.size := by omega
      have i1 : (1 : Int) < T.size := by omega
      have i2 : (2 : Int) ≤ T.size := by omega
      have j0 : 0 < T.size := by omega
      have j1 : 1 < T.size := by omega
      have t0 := sget T 0 j0
      have t1 := sget T 1 j1
      obtain ⟨x, hx⟩ : ∃ x : Pk, x = ((T[0].toNat : Int), (T[1].toNat : Int)) := ⟨_, rfl⟩
      have HX : Hid ((dec l)[k]? = some x) := Lib.hid (by
        rw [hx]
        rw [HT.out, List.getElem?_drop] at t0 t1
        exact dec_get l k _ _ (by simpa using t0) t1)
      obtain ⟨x1, x2⟩ := x
      simp only [Prod.mk.injEq] at hx
      have g0 : ((T[0].toNat : Nat) : Int) = x1 := hx.1.symm
      have g1 : ((T[1].toNat : Nat) : Int) = x2 := hx.2.symm
      have hne : T.toList.isEmpty = false := by rw [ByteArray.toList_eq]; cases hc : T.data.toList with
        | nil => have := slen T; rw [hc] at this; simp at this; omega
        | cons _ _ => rfl
      clear t0 t1 hx hTs HLn
      have hc1 : wrap64 x1 = x1 := by
        have := T[0].toNat_lt
        unfold wrap64; omega
      have hc2 : wrap64 x2 = x2 := by
        have := T[1].toNat_lt
        unfold wrap64; omega
      cases hr : rt (x1, x2) with
      | true =>
        have HR := Lib.hid hr
        clear hr
        go_wp2_with fail
        go_region
        obtain ⟨w2, hw2⟩ : ∃ w2, w2 = (wr.alloc (.cells #[.int .i64 x1, .int .i64 x2] 36)).drew := ⟨_, rfl⟩
        have B2 : Hid (w2.heap[wr.heap.size]? = some (.cells #[.int .i64 x1, .int .i64 x2] 36 (0, 0))) := Lib.hid (hw2 ▸ obj_new (w := wr) rfl _)
        have G2 : Hid (Fr nob wr w2) := Lib.hid (hw2 ▸ ((Fr.refl nob wr).alloc _).drew)
        simp only [← hw2]
        clear hw2
        have b0 : w2.cell? ⟨wr.heap.size, 0, none⟩ = some (.int .i64 x1) := obj_cell B2.out 0
        have b1 : w2.cell? ⟨wr.heap.size, 1, none⟩ = some (.int .i64 x2) := obj_cell B2.out 1
        go_wp2_with (go_at_call 14; refine stop ?_)
        refine Stop.go ((right_any (x1, x2) _).mono ?_)
        rintro e w3 ⟨rfl, f3⟩
        rw [HR.out]
        have B3 := Lib.hid (f3.heap_some B2.out (fun x => x))
        have e0 : w3.cell? ⟨wr.heap.size, 0, none⟩ = some (.int .i64 x1) := obj_cell B3.out 0
        have e1 : w3.cell? ⟨wr.heap.size, 1, none⟩ = some (.int .i64 x2) := obj_cell B3.out 1
        have G3 := Lib.hid (G2.out.step f3)
        have F3 := Lib.hid (F.out.step G3.out)
        clear f3 b0 b1 B2 G2
        go_wp2_with (at_builtin; refine stop ?_)
        refine Stop.go (wpList_app rfl (.tmp 29) (.tmp 31) rfl appPick rfl (base := w.heap.size) (n := k) (xs := cp ((dec l).take k)) ?p1 (m := 1) (news := cp [(x1, x2)]) rfl rfl ?p3 ?p4 ?p5 ?p6 ?p7)
        case p1 => exact (G3.out.owns O.out (fun _ _ x => x)).alloc _
        case p3 => exact Src.block (cs := #[.int .i64 x1, .int .i64 x2]) (obj_new rfl _) (cp_one [(x1, x2)])
        case p4 => omega
        case p5 => simp only [maxLen]; omega
        case p6 => have := F3.out.size; simp; omega
        case p7 =>
          intro v4 w4 ho4 hg4 _
          rw [← cp_app, ← take_snoc HX.out] at ho4
          have F4 := Lib.hid ((F3.out.alloc _).grown hg4 (fun i hi hl => by have := (O.out.lt i hi).1; omega))
          have O4 := Lib.hid ho4
          clear ho4 hg4
          go_wp2
          go_roundg (gk - 1)
          case measure => have := HK.out; omega
          case rel => exact ⟨k + 1, T.extract 2 T.size, by have := HK.out; omega, rfl, by rw [sextract, HT.out, List.drop_drop]; congr 1, all_snoc' HX.out HA.out HR.out, O4.out, F4.out⟩
      | false =>
        have HE := Lib.hid (getE_no HL2.out hl4 k _ HX.out hr)
        have HS := Lib.hid (getP_no k _ HX.out hr)
        have HR := Lib.hid hr
        clear hr
        go_wp2_with fail
        go_region
        obtain ⟨w2, hw2⟩ : ∃ w2, w2 = (wr.alloc (.cells #[.int .i64 x1, .int .i64 x2] 36)).drew := ⟨_, rfl⟩
        have B2 : Hid (w2.heap[wr.heap.size]? = some (.cells #[.int .i64 x1, .int .i64 x2] 36 (0, 0))) := Lib.hid (hw2 ▸ obj_new (w := wr) rfl _)
        have G2 : Hid (Fr nob wr w2) := Lib.hid (hw2 ▸ ((Fr.refl nob wr).alloc _).drew)
        simp only [← hw2]
        clear hw2
        have b0 : w2.cell? ⟨wr.heap.size, 0, none⟩ = some (.int .i64 x1) := obj_cell B2.out 0
        have b1 : w2.cell? ⟨wr.heap.size, 1, none⟩ = some (.int .i64 x2) := obj_cell B2.out 1
        go_wp2_with (go_at_call 14; refine stop ?_)
        refine Stop.go ((right_any (x1, x2) _).mono ?_)
        rintro e w3 ⟨rfl, f3⟩
        rw [HR.out]
        have F3 := Lib.hid (F.out.step (G2.out.step f3))
        clear f3 b0 b1 B2 G2
        go_wp2
        go_ret2
        rw [HE.out, HS.out]
        exact ⟨_, rfl, RP.nil _, F3.out⟩
    · have hkk : k = n := by omega
      have hdl : (dec l).length = n := by rw [dec_len]; omega
      have HD : Hid ((dec l).take k = dec l) := Lib.hid (List.take_of_length_le (by omega))
      have HA' : Hid ((dec l).all rt = true) := Lib.hid (by have := HA.out; rwa [HD.out] at this)
      have HE := Lib.hid (getE_ok HL2.out hl4 HA'.out)
      have HS := Lib.hid (getP_ok HL2.out hl4 HA'.out)
      have hz : T.size = 0 := by omega
      have hem : T.toList.isEmpty = true := by
        rw [ByteArray.toList_eq]
        cases hc : T.data.toList with
        | nil => rfl
        | cons _ _ => have := slen T; rw [hc] at this; simp at this; omega
      have R : Hid (RP wr (.slice a3 k cap3) (dec l)) := Lib.hid (by have := O.out; rw [HD.out] at this; exact RP.of_owns (by omega) this)
      clear hkk hdl hz hTs
      go_wp2
      go_ret2
      rw [HE.out, HS.out]
      exact ⟨_, rfl, R.out, F.out⟩

theorem get_any (s : ByteArray) (w : World) (hs : s.size ≤ maxLen) :
    Calls Try.prog 11 #[.string s] w fun e w' => ∃ v, e = .returned (.tuple #[v, .int .i64 (getE s.data.toList)]) ∧ RP w' v (getP s.data.toList) ∧ Fr nob w w' := by
  by_cases ho : s.size % 2 = 1
  · exact get_odd s w hs ho
  · by_cases hm : 4000 < s.size
    · exact get_many s w hs (by omega) hm
    · exact get_some s w (by omega) hm

end Go.Proofs.Ytlppphhgbfehcaa
