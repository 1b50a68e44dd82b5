/- The reference's Put. -/
import Derived.Test.YtgjgonnlkponiaaPkA
namespace Go.Proofs.Ytgjgonnlkponiaa
open Go.RowKit

def PT (l : List Int) (w : World) (e : Ending) (w' : World) : Prop := e = .returned (.tuple #[.string ⟨(putL l).toArray⟩, .int .i64 (putE l)]) ∧ Fr nob w w'
theorem PT.many {l : List Int} {w w' : World} (h : 100000 < l.length) (f : Fr nob w w') : PT l w (.returned (.tuple #[.string ⟨#[]⟩, .int .i64 4])) w' := ⟨by rw [(putE_many h).1, (putE_many h).2], f⟩
theorem PT.no {l : List Int} {w w' : World} (h : putE l = 1 ∧ putL l = []) (f : Fr nob w w') : PT l w (.returned (.tuple #[.string ⟨#[]⟩, .int .i64 1])) w' := ⟨by rw [h.1, h.2], f⟩
theorem PT.ok {l : List Int} {w w' : World} {S : ByteArray} (h : putE l = 0) (hS : S = ⟨(putL l).toArray⟩) (f : Fr nob w w') : PT l w (.returned (.tuple #[.string S, .int .i64 0])) w' := ⟨by rw [h, hS], f⟩
theorem okN_yes {x : Int} (h0 : ¬ x < -1) (h1 : ¬ 2147483647 < x) : okN x = true := decide_eq_true ⟨by omega, by omega⟩
theorem okN_no {x : Int} (h : x < -1 ∨ 2147483647 < x) : okN x = false := decide_eq_false (by omega)
theorem size_list (l : List UInt8) : (⟨l.toArray⟩ : ByteArray).size = l.length := by simp [ByteArray.size]
theorem val_str {s t : ByteArray} (h : s = t) : Value.string s = .string t := by rw [h]

set_option maxRecDepth 100000 in
theorem rput_many (a : Option Addr) (cap : Nat) (l : List Int) (w : World) (h : 100000 < l.length) :
    Calls Try.prog 9 #[.slice a l.length cap] w (PT l w) := by
  go_enter Try.func9, Try.ntmps9
  go_wp2
  go_ret2
  exact PT.many h (Fr.refl _ _)

set_option maxRecDepth 100000 in
set_option maxHeartbeats 1000000 in
theorem rput_some (a : Option Addr) (b off cap : Nat) (l : List Int) (w : World) (hp : IAt w a b off l) (h : ¬ 100000 < l.length) :
    Calls Try.prog 9 #[.slice a l.length cap] w (PT l w) := by
  have H := Lib.hid hp
  have hlb : l.length ≤ 2147483648 := by omega
  clear hp
  go_enter Try.func9, Try.ntmps9
  go_wp2_with (go_at_call 14; refine stop ?_)
  refine Stop.go ((bytes_any l.length w hlb).mono ?_)
  rintro e w1 ⟨rfl, f1⟩
  have F1 := Lib.hid f1
  clear f1
  go_wp2_with fail
  go_loopg [4, 5] l.length (fun gk s4 i wr => ∃ k : Nat, k + gk = l.length ∧ i = .int .i64 k ∧ (l.take k).all okN = true ∧ s4 = .string ⟨(enc7 l.length ++ encL (l.take k)).toArray⟩ ∧ Fr nob w wr)
  case atStart => exact ⟨0, Nat.zero_add _, rfl, rfl, val_str (by simp [encL]), F1.out⟩
  case round =>
    obtain ⟨k, hk, rfl, hall, rfl, hf⟩ := hrel
    have F := Lib.hid hf
    have HK := Lib.hid hk
    have HA := Lib.hid hall
    have hkl : k ≤ l.length := by omega
    clear hf hk hall
    obtain ⟨S, hS⟩ : ∃ S : ByteArray, S = ⟨(enc7 l.length ++ encL (l.take k)).toArray⟩ := ⟨_, rfl⟩
    have hSz : S.size ≤ 1000000 := by
      have h1 := encL_len HA.out
      have h2 := enc7_five hlb
      rw [List.length_take] at h1
      rw [hS]; simp [ByteArray.size]; omega
    rw [← hS]
    have HS := Lib.hid hS
    clear hS
    by_cases hlt : k < l.length
    · obtain ⟨x, hx⟩ : ∃ x, l[k]? = some x := ⟨_, List.getElem?_eq_getElem hlt⟩
      obtain rfl := H.out.addr hx
      have d0 := (H.out.nob F.out).2 k x hx
      have HX := Lib.hid hx
      clear hx
      have hidx0 : (0 : Int) ≤ (k : Int) := Int.natCast_nonneg _
      have hidx1 : (k : Int) < (l.length : Int) := by omega
      by_cases hlo : x < -1
      · have RES := Lib.hid (putE_no h k x HX.out (okN_no (by omega)))
        go_wp2
        go_ret2
        exact PT.no RES.out F.out
      · by_cases hhi : 2147483647 < x
        · have RES := Lib.hid (putE_no h k x HX.out (okN_no (by omega)))
          go_wp2
          go_ret2
          exact PT.no RES.out F.out
        · obtain ⟨u, hu⟩ : ∃ u, u = (x + 1).toNat := ⟨_, rfl⟩
          have hux : x + 1 = (u : Int) := by omega
          have huw : IntKind.i64.wrap (x + 1) = x + 1 := IntWalk.i64_in _ (by omega)
          have hub : u ≤ 2147483648 := by omega
          have hok : okN x = true := okN_yes hlo hhi
          obtain ⟨T, hT⟩ : ∃ T : ByteArray, T = ⟨(enc7 u).toArray⟩ := ⟨_, rfl⟩
          have hsum : S.size + T.size ≤ 9223372036854775807 := by
            have h5 := enc7_five hub
            have hTz : T.size = (enc7 u).length := by rw [hT]; exact size_list _
            omega
          have HST : Hid (S ++ T = ⟨(enc7 l.length ++ encL (l.take (k + 1))).toArray⟩) := Lib.hid (by
            rw [HS.out, hT, ByteArray.mk_append_mk, take_snoc HX.out, encL_app, encL_one, ← hu, List.append_assoc])
          have HA2 : Hid ((l.take (k + 1)).all okN = true) := Lib.hid (by rw [take_snoc HX.out, List.all_append, HA.out]; simp [hok])
          have B := Lib.hid (fun w => bytes_any u w hub)
          rw [← hT] at B
          clear hu hok hT
          go_wp2_with (go_at_call 14; refine stop ?_)
          refine Stop.go ((B.out wr).mono ?_)
          rintro e w2 ⟨rfl, f2⟩
          have F2 := Lib.hid (F.out.step f2)
          clear f2 d0
          go_wp2
          go_roundg (gk - 1)
          case measure => have := HK.out; omega
          case rel => exact ⟨k + 1, by have := HK.out; omega, by go_num, HA2.out, val_str HST.out, F2.out⟩
    · have hkk : k = l.length := by omega
      have RES : Hid (putE l = 0 ∧ S = ⟨(putL l).toArray⟩) := Lib.hid (by
        have h1 := HA.out
        rw [hkk, List.take_length] at h1
        have h2 := putE_ok h h1
        refine ⟨h2.1, ?_⟩
        rw [HS.out, h2.2, hkk, List.take_length])
      clear hkk
      go_wp2
      go_ret2
      exact PT.ok RES.out.1 RES.out.2 F.out

theorem rput_any (v : Value) (l : List Int) (w : World) (h : RI w v l) : Calls Try.prog 9 #[v] w (PT l w) := by
  obtain ⟨a, b, off, cap, rfl, h1, h2, h3⟩ := h
  by_cases hm : 100000 < l.length
  · exact rput_many a cap l w hm
  · exact rput_some a b off cap l w h3 hm

end Go.Proofs.Ytgjgonnlkponiaa
