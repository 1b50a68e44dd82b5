/- The reference's Get. -/
import Derived.Test.YtlppphhgbfehcaaScF
import Derived.RegionTactic
import Derived.ChangeAlike
namespace Go.Proofs.Ytlppphhgbfehcaa
open Go.RowKit

set_option maxRecDepth 100000 in
theorem rget_odd (s : ByteArray) (w : World) (hs : s.size ≤ maxLen) (ho : s.size % 2 = 1) :
    Calls Try.prog 12 #[.string s] w fun e w' => ∃ v, e = .returned (.tuple #[v, .int .i64 (getE s.data.toList)]) ∧ RP w' v (getP s.data.toList) ∧ Fr nob w w' := by
  have hl : s.data.toList.length % 2 = 1 := by rw [slen]; exact ho
  rw [getE_odd hl, getP_odd hl]
  unfold maxLen at hs
  have e1 : ((s.size : Int) % 2 == 0) = false := by simp; omega
  have e2 : ((s.size : Int) % 2 != 0) = true := by simp; omega
  clear hl
  go_enter Try.func12, Try.ntmps12
  go_wp2
  go_ret2
  exact ⟨_, rfl, RP.nil w, Fr.refl _ _⟩

set_option maxRecDepth 100000 in
theorem rget_many (s : ByteArray) (w : World) (hs : s.size ≤ maxLen) (ho : s.size % 2 = 0) (hm : 4000 < s.size) :
    Calls Try.prog 12 #[.string s] w fun e w' => ∃ v, e = .returned (.tuple #[v, .int .i64 (getE s.data.toList)]) ∧ RP w' v (getP s.data.toList) ∧ Fr nob w w' := by
  have hl : s.data.toList.length % 2 = 0 := by rw [slen]; exact ho
  have hl2 : 4000 < s.data.toList.length := by rw [slen]; exact hm
  rw [getE_many hl hl2, getP_many hl2]
  unfold maxLen at hs
  have e1 : ((s.size : Int) % 2 == 0) = true := by simp; omega
  have e2 : ((s.size : Int) % 2 != 0) = false := by simp; omega
  clear hl hl2
  go_enter Try.func12, Try.ntmps12
  go_wp2
  go_ret2
  exact ⟨_, rfl, RP.nil w, Fr.refl _ _⟩

set_option maxRecDepth 100000 in
set_option maxHeartbeats 400000 in
theorem rget_some (s : ByteArray) (w : World) (ho : s.size % 2 = 0) (hm : ¬ 4000 < s.size) :
    Calls Try.prog 12 #[.string s] w fun e w' => ∃ v, e = .returned (.tuple #[v, .int .i64 (getE s.data.toList)]) ∧ RP w' v (getP s.data.toList) ∧ Fr nob w w' := by
  obtain ⟨l, hl⟩ : ∃ l, l = s.data.toList := ⟨_, rfl⟩
  rw [← hl]
  have hl1 : l.length = s.size := by rw [hl, slen]
  have hl2 : l.length % 2 = 0 := by omega
  have hl4 : ¬ 4000 < l.length := by omega
  obtain ⟨n, hn⟩ : ∃ n, s.size = 2 * n := ⟨s.size / 2, by omega⟩
  have HL := Lib.hid hl
  have HL1 := Lib.hid (hl1.trans hn)
  have HL2 := Lib.hid hl2
  have HN := Lib.hid hn
  have hn2 : n ≤ 2000 := by omega
  have e1 : ((s.size : Int) % 2 == 0) = true := by simp; omega
  have e2 : ((s.size : Int) % 2 != 0) = false := by simp; omega
  clear hl hl1 hl2 hn
  go_enter Try.func12, Try.ntmps12
  go_wp2_with fail
  go_loopg [4, 5] n (fun gk s4 i wr => ∃ (k : Nat), k + gk = n ∧ i = .int .i64 (2 * (k : Int)) ∧ ((dec l).take k).all rt = true ∧ wr.ownsRow w.heap.size 40 2 s4 k (cp ((dec l).take k)) ∧ Fr nob w wr)
  case atStart => exact ⟨0, Nat.zero_add _, rfl, rfl, World.ownsRow_nil _ _ _ _, Fr.refl _ _⟩
  case round =>
    obtain ⟨k, hk, rfl, hall, ho, hf⟩ := hrel
    obtain ⟨a3, cap3, rfl, -, -⟩ := owns_shape ho
    have O := Lib.hid ho
    have F := Lib.hid hf
    have HK := Lib.hid hk
    have HA := Lib.hid hall
    have hkl : k ≤ n := by omega
    have HNn := HN.out
    clear ho hf hk hall
    by_cases hlt : k < n
    · have i0 : (0 : Int) ≤ 2 * (k : Int) := by omega
      have i1 : 2 * (k : Int) < s.size := by omega
      have i2 : 2 * (k : Int) + 1 < s.size := by omega
      have i3 : (0 : Int) ≤ 2 * (k : Int) + 1 := by omega
      have i4 : 2 * (k : Int) + 2 ≤ 4000 := by omega
      have j0 : (2 * (k : Int)).toNat < s.size := by omega
      have j1 : (2 * (k : Int) + 1).toNat < s.size := by omega
      have t0 := sget s _ j0
      have t1 := sget s _ j1
      obtain ⟨x, hx⟩ : ∃ x : Pk, x = ((s[(2 * (k : Int)).toNat].toNat : Int), (s[(2 * (k : Int) + 1).toNat].toNat : Int)) := ⟨_, rfl⟩
      have HX : Hid ((dec l)[k]? = some x) := Lib.hid (by
        rw [hx]
        rw [← HL.out] at t0 t1
        refine dec_get l k _ _ ?_ ?_
        · rw [← t0]; congr 1
        · rw [← t1]; congr 1)
      obtain ⟨x1, x2⟩ := x
      simp only [Prod.mk.injEq] at hx
      have g0 : ((s[(2 * (k : Int)).toNat].toNat : Nat) : Int) = x1 := hx.1.symm
      have g1 : ((s[(2 * (k : Int) + 1).toNat].toNat : Nat) : Int) = x2 := hx.2.symm
      have hw1 : IntKind.i64.wrap (2 * (k : Int) + 1) = 2 * (k : Int) + 1 := IntWalk.i64_in _ (by omega)
      clear t0 t1 hx HNn
      have hc1 : wrap64 x1 = x1 := by
        have := s[(2 * (k : Int)).toNat].toNat_lt
        unfold wrap64; omega
      have hc2 : wrap64 x2 = x2 := by
        have := s[(2 * (k : Int) + 1).toNat].toNat_lt
        unfold wrap64; omega
      cases hr : rt (x1, x2) with
      | true =>
        have HR := Lib.hid hr
        clear hr
        go_wp2_with fail
        go_region
        obtain ⟨w2, hw2⟩ : ∃ w2, w2 = (wr.alloc (.cells #[.int .i64 x1, .int .i64 x2] 40)).drew := ⟨_, rfl⟩
        have B2 : Hid (w2.heap[wr.heap.size]? = some (.cells #[.int .i64 x1, .int .i64 x2] 40 (0, 0))) := Lib.hid (hw2 ▸ obj_new (w := wr) rfl _)
        have G2 : Hid (Fr nob wr w2) := Lib.hid (hw2 ▸ ((Fr.refl nob wr).alloc _).drew)
        simp only [← hw2]
        clear hw2
        have b0 : w2.cell? ⟨wr.heap.size, 0, none⟩ = some (.int .i64 x1) := obj_cell B2.out 0
        have b1 : w2.cell? ⟨wr.heap.size, 1, none⟩ = some (.int .i64 x2) := obj_cell B2.out 1
        go_wp2_with (go_at_call 15; refine stop ?_)
        refine Stop.go ((rright_any (x1, x2) _).mono ?_)
        rintro e w3 ⟨rfl, f3⟩
        rw [HR.out]
        have B3 := Lib.hid (f3.heap_some B2.out (fun x => x))
        have e0 : w3.cell? ⟨wr.heap.size, 0, none⟩ = some (.int .i64 x1) := obj_cell B3.out 0
        have e1 : w3.cell? ⟨wr.heap.size, 1, none⟩ = some (.int .i64 x2) := obj_cell B3.out 1
        have G3 := Lib.hid (G2.out.step f3)
        have F3 := Lib.hid (F.out.step G3.out)
        clear f3 b0 b1 B2 G2
        go_wp2_with (at_builtin; refine stop ?_)
        refine Stop.go (wpList_app rfl (.tmp 35) (.tmp 37) rfl appP rfl (base := w.heap.size) (n := k) (xs := cp ((dec l).take k)) ?p1 (m := 1) (news := cp [(x1, x2)]) rfl rfl ?p3 ?p4 ?p5 ?p6 ?p7)
        case p1 => exact (G3.out.owns O.out (fun _ _ x => x)).alloc _
        case p3 => exact Src.block (cs := #[.int .i64 x1, .int .i64 x2]) (obj_new rfl _) (cp_one [(x1, x2)])
        case p4 => omega
        case p5 => simp only [maxLen]; omega
        case p6 => have := F3.out.size; simp; omega
        case p7 =>
          intro v4 w4 ho4 hg4 _
          rw [← cp_app, ← take_snoc HX.out] at ho4
          have F4 := Lib.hid ((F3.out.alloc _).grown hg4 (fun i hi hl => by have := (O.out.lt i hi).1; omega))
          have O4 := Lib.hid ho4
          clear ho4 hg4
          go_wp2
          go_roundg (gk - 1)
          case measure => have := HK.out; omega
          case rel => exact ⟨k + 1, by have := HK.out; omega, by go_num, all_snoc' HX.out HA.out HR.out, O4.out, F4.out⟩
      | false =>
        have HE := Lib.hid (getE_no HL2.out hl4 k _ HX.out hr)
        have HS := Lib.hid (getP_no k _ HX.out hr)
        have HR := Lib.hid hr
        clear hr
        go_wp2_with fail
        go_region
        obtain ⟨w2, hw2⟩ : ∃ w2, w2 = (wr.alloc (.cells #[.int .i64 x1, .int .i64 x2] 40)).drew := ⟨_, rfl⟩
        have B2 : Hid (w2.heap[wr.heap.size]? = some (.cells #[.int .i64 x1, .int .i64 x2] 40 (0, 0))) := Lib.hid (hw2 ▸ obj_new (w := wr) rfl _)
        have G2 : Hid (Fr nob wr w2) := Lib.hid (hw2 ▸ ((Fr.refl nob wr).alloc _).drew)
        simp only [← hw2]
        clear hw2
        have b0 : w2.cell? ⟨wr.heap.size, 0, none⟩ = some (.int .i64 x1) := obj_cell B2.out 0
        have b1 : w2.cell? ⟨wr.heap.size, 1, none⟩ = some (.int .i64 x2) := obj_cell B2.out 1
        go_wp2_with (go_at_call 15; refine stop ?_)
        refine Stop.go ((rright_any (x1, x2) _).mono ?_)
        rintro e w3 ⟨rfl, f3⟩
        rw [HR.out]
        have F3 := Lib.hid (F.out.step (G2.out.step f3))
        clear f3 b0 b1 B2 G2
        go_wp2
        go_ret2
        rw [HE.out, HS.out]
        exact ⟨_, rfl, RP.nil _, F3.out⟩
    · have hkk : k = n := by omega
      have hdl : (dec l).length = n := by rw [dec_len, HL1.out]; omega
      have HD : Hid ((dec l).take k = dec l) := Lib.hid (List.take_of_length_le (by omega))
      have HA' : Hid ((dec l).all rt = true) := Lib.hid (by have := HA.out; rwa [HD.out] at this)
      have HE := Lib.hid (getE_ok HL2.out hl4 HA'.out)
      have HS := Lib.hid (getP_ok HL2.out hl4 HA'.out)
      have R : Hid (RP wr (.slice a3 k cap3) (dec l)) := Lib.hid (by have := O.out; rw [HD.out] at this; exact RP.of_owns (by rw [dec_len, HL1.out]; omega) this)
      have hge : ¬ 2 * (k : Int) < s.size := by omega
      clear hkk hdl HNn
      go_wp2
      go_ret2
      rw [HE.out, HS.out]
      exact ⟨_, rfl, R.out, F.out⟩

theorem rget_any (s : ByteArray) (w : World) (hs : s.size ≤ maxLen) :
    Calls Try.prog 12 #[.string s] w fun e w' => ∃ v, e = .returned (.tuple #[v, .int .i64 (getE s.data.toList)]) ∧ RP w' v (getP s.data.toList) ∧ Fr nob w w' := by
  by_cases ho : s.size % 2 = 1
  · exact rget_odd s w hs ho
  · by_cases hm : 4000 < s.size
    · exact rget_many s w hs (by omega) hm
    · exact rget_some s w (by omega) hm

end Go.Proofs.Ytlppphhgbfehcaa
