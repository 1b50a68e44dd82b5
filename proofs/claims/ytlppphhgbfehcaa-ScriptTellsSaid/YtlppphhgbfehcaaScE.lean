/- The reference's Put. -/
import Derived.Test.YtlppphhgbfehcaaScD
import Derived.Laws.Concat
import Derived.RegionTactic
import Derived.ChangeAlike
namespace Go.Proofs.Ytlppphhgbfehcaa
open Go.RowKit

set_option maxRecDepth 100000 in
theorem rput_many (a : Option Addr) (cap : Nat) (ps : List Pk) (w : World) (hm : 2000 < ps.length) :
    Calls Try.prog 10 #[.slice a ps.length cap] w fun e w' => e = .returned (.tuple #[.string (putS ps), .int .i64 (putE ps)]) ∧ Fr nob w w' := by
  rw [putS_many hm, putE_many hm]
  go_enter Try.func10, Try.ntmps10
  go_wp2
  go_ret2
  exact ⟨rfl, Fr.refl _ _⟩

theorem run_two (w : World) (x1 x2 : Int) {B : Nat} (h : w.heap[B]? = some (.cells #[.int .u8 x1, .int .u8 x2] 5 (0, 0))) :
    (convert 46 9 (.slice (some ⟨B, 0, none⟩) 2 2)).run Try.prog w = .ok (.string ⟨(by8 [x1, x2]).toArray⟩) w := by
  rw [by8_data]
  refine run_convert_bytes_arg w 46 5 Try.underlying46 Try.underlying5 B 0 2 2 [x1, x2] rfl (fun i hi => ?_) 9 Try.underlying9
  rw [Nat.zero_add]
  match i, hi with
  | 0, _ => exact obj_cell h 0
  | 1, _ => exact obj_cell h 1

theorem encs_snoc {ps : List Pk} {k : Nat} {x : Pk} (hx : ps[k]? = some x) : (⟨(by8 (enc (ps.take k))).toArray⟩ : ByteArray) ++ ⟨(by8 [x.1, x.2]).toArray⟩ = ⟨(by8 (enc (ps.take (k + 1)))).toArray⟩ := by
  rw [take_snoc hx, enc_app, by8_app, ByteArray.mk_append_mk]; rfl
theorem encs_size (ps : List Pk) : (⟨(by8 (enc ps)).toArray⟩ : ByteArray).size = 2 * ps.length := by simp [ByteArray.size, by8, enc_len]
theorem val_str {s t : ByteArray} (h : s = t) : Value.string s = .string t := by rw [h]

set_option maxRecDepth 100000 in
theorem rput_some (a : Option Addr) (b off cap : Nat) (ps : List Pk) (w : World) (h : PAt w a b off ps) (hm : ¬ 2000 < ps.length) :
    Calls Try.prog 10 #[.slice a ps.length cap] w fun e w' => e = .returned (.tuple #[.string (putS ps), .int .i64 (putE ps)]) ∧ Fr nob w w' := by
  have H := Lib.hid h
  clear h
  go_enter Try.func10, Try.ntmps10
  go_wp2_with fail
  go_loopg [4, 5] ps.length (fun gk s4 i wr => ∃ k : Nat, k + gk = ps.length ∧ i = .int .i64 k ∧ (ps.take k).all rt = true ∧ s4 = .string ⟨(by8 (enc (ps.take k))).toArray⟩ ∧ Fr nob w wr)
  case atStart => exact ⟨0, Nat.zero_add _, rfl, rfl, rfl, Fr.refl _ _⟩
  case round =>
    obtain ⟨k, hk, rfl, hall, rfl, hf⟩ := hrel
    have F := Lib.hid hf
    have HK := Lib.hid hk
    have HA := Lib.hid hall
    have hkl : k ≤ ps.length := by omega
    clear hf hk hall
    obtain ⟨S, hS⟩ : ∃ S : ByteArray, S = ⟨(by8 (enc (ps.take k))).toArray⟩ := ⟨_, rfl⟩
    have HSz : S.size ≤ 4000 := by rw [hS, encs_size]; simp; omega
    rw [← hS]
    have HS := Lib.hid hS
    clear hS
    by_cases hlt : k < ps.length
    · obtain ⟨x, hx⟩ : ∃ x, ps[k]? = some x := ⟨_, List.getElem?_eq_getElem hlt⟩
      obtain rfl := H.out.addr hx
      obtain ⟨d0, d1⟩ := (H.out.nob F.out).2 k x hx
      have HX := Lib.hid hx
      clear hx
      have hidx0 : (0 : Int) ≤ (k : Int) := Int.natCast_nonneg _
      have hidx1 : (k : Int) < (ps.length : Int) := by omega
      obtain ⟨x1, x2⟩ := x
      cases hr : rt (x1, x2) with
      | true =>
        have HR := Lib.hid hr
        have rr := rt_range hr
        simp only at rr d0 d1
        have c1 : IntKind.u8.wrap x1 = x1 := by unfold IntKind.wrap; simp [IntKind.bits, IntKind.signed]; omega
        have c2 : IntKind.u8.wrap x2 = x2 := by unfold IntKind.wrap; simp [IntKind.bits, IntKind.signed]; omega
        go_wp2_with (go_at_call 15; refine stop ?_)
        refine Stop.go ((rright_any (x1, x2) _).mono ?_)
        rintro e w2 ⟨rfl, f2⟩
        rw [HR.out]
        have e0 := f2.cell_some d0 (fun x => x)
        have e1 := f2.cell_some d1 (fun x => x)
        have F2 := Lib.hid (F.out.step f2)
        clear f2 d0 d1 hr
        obtain ⟨T, hT⟩ : ∃ T : ByteArray, T = ⟨(by8 [x1, x2]).toArray⟩ := ⟨_, rfl⟩
        have hTz : T.size = 2 := by rw [hT]; rfl
        have HTz : T.size ≤ 2 := by omega
        have v1 := hT ▸ run_two (w2.drew.alloc (.cells #[.int .u8 x1, .int .u8 x2] 5)) x1 x2 (obj_new (w := w2.drew) rfl _)
        have v2 := hT ▸ run_two (w2.alloc (.cells #[.int .u8 x1, .int .u8 x2] 5)).drew x1 x2 (obj_new (w := w2) rfl _)
        have HT := Lib.hid hT
        have hsum : S.size + T.size ≤ 9223372036854775807 := by omega
        clear hTz hT
        go_wp2_with fail
        go_region
        all_goals
          have F3 := Lib.hid ((F2.out.alloc (.cells #[.int .u8 x1, .int .u8 x2] 5)).drew)
          clear v1 v2 e0 e1
          go_wp2
          go_roundg (gk - 1)
          case measure => have := HK.out; omega
          case rel => exact ⟨k + 1, by have := HK.out; omega, by go_num, all_snoc HX.out HA.out HR.out, val_str (by rw [HS.out, HT.out]; exact encs_snoc HX.out), F3.out⟩
      | false =>
        have HE := Lib.hid (putE_no hm k _ HX.out hr)
        have HS := Lib.hid (putS_no k _ HX.out hr)
        have HR := Lib.hid hr
        clear hr
        simp only at d0 d1
        go_wp2_with (go_at_call 15; refine stop ?_)
        refine Stop.go ((rright_any (x1, x2) _).mono ?_)
        rintro e w2 ⟨rfl, f2⟩
        rw [HR.out]
        have F2 := Lib.hid (F.out.step f2)
        clear f2 d0 d1
        go_wp2
        go_ret2
        rw [HE.out, HS.out]
        exact ⟨rfl, F2.out⟩
    · have hkk : k = ps.length := by omega
      have HA' : ps.all rt = true := by have := HA.out; rwa [hkk, List.take_length] at this
      have HE := Lib.hid (putE_ok hm HA')
      have HS' := Lib.hid (putS_ok hm HA')
      have HT : Hid (S = ⟨(by8 (enc ps)).toArray⟩) := Lib.hid (by have := HS.out; rwa [hkk, List.take_length] at this)
      clear HA' hkk
      go_wp2
      go_ret2
      rw [HE.out, HS'.out, HT.out]
      exact ⟨rfl, F.out⟩

theorem rput_any (v : Value) (ps : List Pk) (w : World) (h : RP w v ps) : Calls Try.prog 10 #[v] w fun e w' => e = .returned (.tuple #[.string (putS ps), .int .i64 (putE ps)]) ∧ Fr nob w w' := by
  obtain ⟨a, b, off, cap, rfl, h1, h2, h3⟩ := h
  by_cases hm : 2000 < ps.length
  · exact rput_many a cap ps w hm
  · exact rput_some a b off cap ps w h3 hm

end Go.Proofs.Ytlppphhgbfehcaa
