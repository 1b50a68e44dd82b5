/- PackBack. -/
import Derived.Test.YtgjgonnlkponiaaPkK
namespace Go.Proofs.Ytgjgonnlkponiaa
open Go.RowKit

/-- A position outside the numbers. -/
theorem putE_at {l : List Int} (h : l.length ≤ 1000) {k : Nat} {x : Int} (hx : l[k]? = some x) (hr : x < -1 ∨ 2147483647 < x) : putE l = 1 ∧ putL l = [] := putE_no (by omega) k x hx (okN_no hr)
theorem putE_all {l : List Int} (h : l.length ≤ 1000) (hr : l.all okN = true) : putE l = 0 := (putE_ok (by omega) hr).1
theorem GT.put {l : List Int} (h : putE l = 0) {S : ByteArray} (hS : S = ⟨(putL l).toArray⟩) {w w' : World} {e : Ending} (g : GT S w e w') : ∃ v, e = .returned (.tuple #[v, .int .i64 0]) ∧ RI w' v l ∧ Fr nob w w' := by
  obtain ⟨v, h1, h2, h3⟩ := g
  have hg := get_put h []
  rw [List.append_nil, if_pos rfl, if_pos rfl] at hg
  have hd : S.data.toList = putL l := by rw [hS]
  rw [hd, hg.1] at h1
  rw [hd, hg.2] at h2
  exact ⟨v, h1, h2, h3⟩

set_option maxRecDepth 100000 in
set_option maxHeartbeats 1000000 in
theorem back_any (v : Value) (l : List Int) (w : World) (h : RI w v l) : Calls Try.prog 4 #[v] w (Tr w) := by
  have R := Lib.hid h
  obtain ⟨a, b, off, cap, rfl, -, -, h3⟩ := h
  have H := Lib.hid h3
  clear h3
  obtain ⟨n, hn⟩ : ∃ n, n = l.length := ⟨_, rfl⟩
  rw [← hn] at R
  rw [← hn]
  have HN := Lib.hid hn
  clear hn
  go_enter Try.func4, Try.ntmps4
  go_wp2_with (go_at_call 7; refine stop ?_)
  refine Stop.go ((awake_any _).mono ?_)
  rintro e w1 ⟨rfl, f1⟩
  have F1 := Lib.hid f1
  have R1 := Lib.hid (R.out.fr f1)
  clear f1 R
  by_cases c1 : 1000 < n
  · go_wp2
    go_ret
    exact ⟨rfl, F1.out⟩
  · go_wp2_with (go_at_call 8; refine stop ?_)
    refine Stop.go ((put_any _ l _ R1.out).mono ?_)
    rintro e w2 ⟨rfl, f2⟩
    obtain ⟨S, hS⟩ : ∃ S : ByteArray, S = ⟨(putL l).toArray⟩ := ⟨_, rfl⟩
    obtain ⟨E, hE⟩ : ∃ E, E = putE l := ⟨_, rfl⟩
    rw [← hS, ← hE]
    have F2 := Lib.hid (F1.out.step f2)
    have R2 := Lib.hid (R1.out.fr f2)
    have HE := Lib.hid hE
    have HS := Lib.hid hS
    clear f2 R1 F1 hS hE
    go_wp2_with fail
    go_loopg [6] n (fun gk i wr => ∃ k : Nat, k + gk = n ∧ i = .int .i64 k ∧ (l.take k).all okN = true ∧ wr = w2)
    case atStart => exact ⟨0, Nat.zero_add _, rfl, rfl, rfl⟩
    case round =>
      obtain ⟨k, hk, rfl, hall, rfl⟩ := hrel
      have HK := Lib.hid hk
      have HA := Lib.hid hall
      have hkl : k ≤ n := by omega
      clear hk hall
      by_cases hlt : k < n
      · obtain ⟨x, hx⟩ : ∃ x, l[k]? = some x := ⟨_, List.getElem?_eq_getElem (by have := HN.out; omega)⟩
        obtain rfl := H.out.addr hx
        have d0 := (H.out.nob F2.out).2 k x hx
        have HX := Lib.hid hx
        clear hx
        have hidx0 : (0 : Int) ≤ (k : Int) := Int.natCast_nonneg _
        have hidx1 : (k : Int) < (n : Int) := by omega
        by_cases hlo : x < -1
        · obtain ⟨r1, r2⟩ := putE_at (by have := HN.out; omega) HX.out (.inl hlo)
          obtain rfl : E = 1 := by rw [HE.out, r1]
          obtain rfl : S = ⟨#[]⟩ := by rw [HS.out, r2]
          clear r1 r2
          go_wp2
          go_ret
          exact ⟨rfl, F2.out⟩
        · by_cases hhi : 2147483647 < x
          · obtain ⟨r1, r2⟩ := putE_at (by have := HN.out; omega) HX.out (.inr hhi)
            obtain rfl : E = 1 := by rw [HE.out, r1]
            obtain rfl : S = ⟨#[]⟩ := by rw [HS.out, r2]
            clear r1 r2
            go_wp2
            go_ret
            exact ⟨rfl, F2.out⟩
          · have hok : okN x = true := okN_yes hlo hhi
            have HA2 : Hid ((l.take (k + 1)).all okN = true) := Lib.hid (by rw [take_snoc HX.out, List.all_append, HA.out]; simp [hok])
            clear hok
            go_wp2
            go_roundg (gk - 1)
            case measure => have := HK.out; omega
            case rel => exact ⟨k + 1, by have := HK.out; omega, by go_num, HA2.out, rfl⟩
      · have RES : Hid (putE l = 0) := Lib.hid (by
          have h1 := HA.out
          rw [List.take_of_length_le (by have := HN.out; omega)] at h1
          exact putE_all (by have := HN.out; omega) h1)
        obtain rfl : E = 0 := by rw [HE.out, RES.out]
        clear HA HK
        go_wp2_with (go_at_call 10; refine stop ?_)
        refine Stop.go ((get_any S _).mono ?_)
        intro e w4 g4
        obtain ⟨v4, rfl, hv4, f4⟩ := GT.put RES.out HS.out g4
        have F4 := Lib.hid (F2.out.step f4)
        have V4 := Lib.hid hv4
        have R4 := Lib.hid (R2.out.fr f4)
        clear g4 hv4 f4
        go_wp2_with (go_at_call 12; refine stop ?_)
        refine Stop.go ((ints_any _ _ _ _ _ R4.out V4.out).mono ?_)
        rintro e w6 ⟨rfl, f6⟩
        have F6 := Lib.hid (F4.out.step f6)
        clear f6 F4
        go_wp2
        go_ret
        exact ⟨rfl, F6.out⟩

theorem back_walk (a : Option Addr) (len cap : Nat) (X : Nat → Nat → Int) (w : World) (h : NumsAt w a len cap [.i64] X) :
    Calls Try.prog 4 #[.slice a len cap] w fun e w' => e = .returned (.bool true) ∧ Below w.heap.size w w' := by
  obtain ⟨xs, _, hr⟩ := h.ints
  exact (back_any _ xs w hr).mono fun e w' ⟨h1, h2⟩ => ⟨h1, h2.below0⟩

end Go.Proofs.Ytgjgonnlkponiaa
