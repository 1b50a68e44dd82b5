/- NumTells, NumBack, NumOwn, NumRises: the walks. -/
import Derived.Test.YtanpdfiekjgdoaaDoorNumD
import Derived.Lib.ItoaLen
namespace Go.Proofs.YtanpdfiekjgdoaaDoor
open Go.RowKit Go.Lib

theorem empty_list : ByteArray.empty.toList = [] := by rw [ByteArray.toList_eq]; rfl

/-! ### NumTells -/
set_option maxRecDepth 100000 in
theorem tells_long (n : Int) (s : ByteArray) (k : Int) (w : World) (h : Tb w) (hl : 2000 < s.size) :
    Calls Tryd.prog 3 #[.int .i64 n, .string s, .int .i64 k] w fun e w' => e = .returned (.bool true) ∧ Fr nob w w' := by
  have H := Lib.hid h
  clear h
  go_enter Tryd.func3, Tryd.ntmps3
  go_wp2_with (go_at_call 7; refine stop ?_)
  refine Stop.go ((awake_any w H.out).mono ?_)
  rintro e w1 ⟨rfl, f1⟩
  have F1 := Lib.hid f1
  clear f1
  go_wp2
  go_ret
  exact ⟨rfl, F1.out⟩

set_option maxRecDepth 100000 in
set_option maxHeartbeats 1000000 in
theorem tells_some (n : Int) (s : ByteArray) (k : Int) (w : World) (h : Tb w) (hl : ¬ 2000 < s.size) :
    Calls Tryd.prog 3 #[.int .i64 n, .string s, .int .i64 k] w fun e w' => e = .returned (.bool true) ∧ Fr nob w w' := by
  have H := Lib.hid h
  have A1 := Lib.hid (fun w h => show_any n w h)
  have A2 := Lib.hid (fun w => rshow_any n w)
  have B1 := Lib.hid (fun w => take_any s k w (by omega))
  have B2 := Lib.hid (fun w => rtake_any s k w (by omega))
  have C1 := Lib.hid (fun w => whole_any s w (by omega))
  have C2 := Lib.hid (fun w => rwhole_any s w (by omega))
  obtain ⟨S, hS⟩ : ∃ S, S = showS n := ⟨_, rfl⟩
  obtain ⟨E, hE⟩ : ∃ S, S = showE n := ⟨_, rfl⟩
  rw [← hS, ← hE] at A1 A2
  obtain ⟨N, hN⟩ : ∃ S, S = tkN s.data.toList k := ⟨_, rfl⟩
  obtain ⟨T, hT⟩ : ∃ S, S = tkT s.data.toList k := ⟨_, rfl⟩
  obtain ⟨G, hG⟩ : ∃ S, S = tkE s.data.toList k := ⟨_, rfl⟩
  rw [← hN, ← hT, ← hG] at B1 B2
  obtain ⟨V, hV⟩ : ∃ S, S = whN s.data.toList := ⟨_, rfl⟩
  obtain ⟨I, hI⟩ : ∃ S, S = whE s.data.toList := ⟨_, rfl⟩
  rw [← hV, ← hI] at C1 C2
  clear h hS hE hN hT hG hV hI
  go_enter Tryd.func3, Tryd.ntmps3
  go_wp2_with (go_at_call 7; refine stop ?_)
  refine Stop.go ((awake_any w H.out).mono ?_)
  rintro e w1 ⟨rfl, f1⟩
  have F1 := Lib.hid f1
  clear f1
  go_wp2_with (go_at_call 8; refine stop ?_)
  refine Stop.go ((A1.out w1 (H.out.fr F1.out)).mono ?_)
  rintro e w2 ⟨rfl, f2⟩
  have F2 := Lib.hid (F1.out.step f2)
  clear f2 A1
  go_wp2_with (go_at_call 9; refine stop ?_)
  refine Stop.go ((A2.out w2).mono ?_)
  rintro e w3 ⟨rfl, f3⟩
  have F3 := Lib.hid (F2.out.step f3)
  clear f3 A2
  go_wp2_with (go_at_call 10; refine stop ?_)
  refine Stop.go ((B1.out w3).mono ?_)
  rintro e w4 ⟨rfl, rfl⟩
  clear B1
  go_wp2_with (go_at_call 11; refine stop ?_)
  refine Stop.go ((B2.out w3).mono ?_)
  rintro e w4 ⟨rfl, rfl⟩
  clear B2
  go_wp2_with (go_at_call 12; refine stop ?_)
  refine Stop.go ((C1.out w3).mono ?_)
  rintro e w4 ⟨rfl, rfl⟩
  clear C1
  go_wp2_with (go_at_call 13; refine stop ?_)
  refine Stop.go ((C2.out w3).mono ?_)
  rintro e w4 ⟨rfl, rfl⟩
  clear C2
  go_wp2
  go_ret
  exact ⟨rfl, F3.out⟩

theorem tells_walk (n : Int) (s : ByteArray) (k : Int) (w : World) (h : Tb w) :
    Calls Tryd.prog 3 #[.int .i64 n, .string s, .int .i64 k] w fun e w' => e = .returned (.bool true) ∧ Below w.heap.size w w' := by
  by_cases hl : 2000 < s.size
  · exact (tells_long n s k w h hl).mono fun e w' ⟨he, hf⟩ => ⟨he, hf.below0⟩
  · exact (tells_some n s k w h hl).mono fun e w' ⟨he, hf⟩ => ⟨he, hf.below0⟩

/-! ### NumBack -/
theorem dec_dp (u : Nat) (r : List UInt8) (hr : ∀ c, r.head? = some c → isd c = false) : dp (decDigits u ++ r) = decDigits u := dp_front (dec_digits u) hr
theorem dec_take (u : Nat) (hu : u ≤ 2147483647) (f r : List UInt8) (hr : ∀ c, r.head? = some c → isd c = false) :
    tkE (f ++ decDigits u ++ r) f.length = 0 ∧ tkN (f ++ decDigits u ++ r) f.length = u ∧ tkT (f ++ decDigits u ++ r) f.length = (f.length : Int) + ((decDigits u).length : Nat) := by
  have hd : dp ((f ++ decDigits u ++ r).drop f.length) = decDigits u := by
    rw [List.append_assoc, List.drop_left, dec_dp u r hr]
  have := tk_ok (l := f ++ decDigits u ++ r) (k := f.length) (by simp) (by rw [hd]; exact dec_good u) (by rw [hd, val_dec]; unfold M; omega)
  rw [hd, val_dec] at this
  exact this
theorem dec_whole (u : Nat) (hu : u ≤ 2147483647) : whE (decDigits u) = 0 ∧ whN (decDigits u) = u := by
  have := dec_take u hu [] [] (by simp)
  simp only [List.nil_append, List.append_nil, List.length_nil, Int.natCast_zero, Int.zero_add] at this
  obtain ⟨h1, h2, h3⟩ := this
  unfold whE whN
  rw [h1, h2, h3]
  constructor
  · rw [if_neg (by omega)]
  · rw [if_neg (by omega)]
theorem dec_size (u : Nat) (hu : u ≤ 2147483647) : (⟨(decDigits u).toArray⟩ : ByteArray).size ≤ 21 := by
  have := itoa_length_le (u : Int) (by omega) (by omega)
  rw [itoa_nonneg] at this
  simpa [ByteArray.size] using this

set_option maxRecDepth 100000 in
theorem back_long (n : Int) (s t : ByteArray) (w : World) (h : Tb w) (hl : 1000 < s.size) :
    Calls Tryd.prog 4 #[.int .i64 n, .string s, .string t] w fun e w' => e = .returned (.bool true) ∧ Fr nob w w' := by
  have H := Lib.hid h
  clear h
  go_enter Tryd.func4, Tryd.ntmps4
  go_wp2_with (go_at_call 7; refine stop ?_)
  refine Stop.go ((awake_any w H.out).mono ?_)
  rintro e w1 ⟨rfl, f1⟩
  have F1 := Lib.hid f1
  clear f1
  go_wp2
  go_ret
  exact ⟨rfl, F1.out⟩
set_option maxRecDepth 100000 in
theorem back_far (n : Int) (s t : ByteArray) (w : World) (h : Tb w) (hl : ¬ 1000 < s.size) (hl2 : 1000 < t.size) :
    Calls Tryd.prog 4 #[.int .i64 n, .string s, .string t] w fun e w' => e = .returned (.bool true) ∧ Fr nob w w' := by
  have H := Lib.hid h
  clear h
  go_enter Tryd.func4, Tryd.ntmps4
  go_wp2_with (go_at_call 7; refine stop ?_)
  refine Stop.go ((awake_any w H.out).mono ?_)
  rintro e w1 ⟨rfl, f1⟩
  have F1 := Lib.hid f1
  clear f1
  go_wp2
  go_ret
  exact ⟨rfl, F1.out⟩
set_option maxRecDepth 100000 in
theorem back_out (n : Int) (s t : ByteArray) (w : World) (h : Tb w) (hl : ¬ 1000 < s.size) (hl2 : ¬ 1000 < t.size) (hn : n < 0 ∨ 2147483647 < n) :
    Calls Tryd.prog 4 #[.int .i64 n, .string s, .string t] w fun e w' => e = .returned (.bool true) ∧ Fr nob w w' := by
  have H := Lib.hid h
  have A1 := Lib.hid (fun w h => show_any n w h)
  rw [showS_no hn, showE_no hn] at A1
  have em := empty_list
  clear h
  by_cases h0 : n < 0
  · go_enter Tryd.func4, Tryd.ntmps4
    go_wp2_with (go_at_call 7; refine stop ?_)
    refine Stop.go ((awake_any w H.out).mono ?_)
    rintro e w1 ⟨rfl, f1⟩
    have F1 := Lib.hid f1
    clear f1
    go_wp2_with (go_at_call 8; refine stop ?_)
    refine Stop.go ((A1.out w1 (H.out.fr F1.out)).mono ?_)
    rintro e w2 ⟨rfl, f2⟩
    have F2 := Lib.hid (F1.out.step f2)
    clear f2 A1
    go_wp2
    go_ret
    exact ⟨rfl, F2.out⟩
  · have h1 : 2147483647 < n := by omega
    go_enter Tryd.func4, Tryd.ntmps4
    go_wp2_with (go_at_call 7; refine stop ?_)
    refine Stop.go ((awake_any w H.out).mono ?_)
    rintro e w1 ⟨rfl, f1⟩
    have F1 := Lib.hid f1
    clear f1
    go_wp2_with (go_at_call 8; refine stop ?_)
    refine Stop.go ((A1.out w1 (H.out.fr F1.out)).mono ?_)
    rintro e w2 ⟨rfl, f2⟩
    have F2 := Lib.hid (F1.out.step f2)
    clear f2 A1
    go_wp2
    go_ret
    exact ⟨rfl, F2.out⟩

set_option maxRecDepth 100000 in
set_option maxHeartbeats 1000000 in
theorem back_in (u : Nat) (s t : ByteArray) (w : World) (h : Tb w) (hl : ¬ 1000 < s.size) (hl2 : ¬ 1000 < t.size) (hu : u ≤ 2147483647) :
    Calls Tryd.prog 4 #[.int .i64 u, .string s, .string t] w fun e w' => e = .returned (.bool true) ∧ Fr nob w w' := by
  have H := Lib.hid h
  have A1 := Lib.hid (fun w h => show_any (u : Int) w h)
  rw [showS_ok (by omega) (by omega), showE_ok (by omega) (by omega), Int.toNat_natCast] at A1
  have hz := dec_size u hu
  have B1 := Lib.hid (fun w => whole_any ⟨(decDigits u).toArray⟩ w (by omega))
  rw [show (⟨(decDigits u).toArray⟩ : ByteArray).data.toList = decDigits u from rfl, (dec_whole u hu).1, (dec_whole u hu).2] at B1
  obtain ⟨S, hS⟩ : ∃ S : ByteArray, S = ⟨(decDigits u).toArray⟩ := ⟨_, rfl⟩
  have HS := Lib.hid hS
  rw [← hS] at A1 B1 hz
  have u0 : (0 : Int) ≤ (u : Int) := Int.natCast_nonneg _
  have u1 : (u : Int) ≤ 2147483647 := by omega
  have hs1 : s.size + S.size ≤ 9223372036854775807 := by omega
  have hs2 : s.size + S.size + t.size ≤ 9223372036854775807 := by omega
  have hTK : (∀ c, t.data.toList.head? = some c → isd c = false) → ∀ w, Calls Tryd.prog 10 #[.string (s ++ S ++ t), .int .i64 s.size] w fun e w' => e = .returned (.tuple #[.int .i64 (u : Int), .int .i64 ((s.size : Int) + (S.size : Int)), .int .i64 0]) ∧ w = w' := fun hr w => by
    have h1 := take_any (s ++ S ++ t) s.size w (by simp only [ByteArray.size_append]; omega)
    have h2 := dec_take u hu s.data.toList t.data.toList hr
    have e : (s ++ S ++ t).data.toList = s.data.toList ++ decDigits u ++ t.data.toList := by rw [hS]; simp [ByteArray.data_append]
    have e2 : (S.size : Int) = ((decDigits u).length : Nat) := by rw [hS]; simp [ByteArray.size]
    rw [slen] at h2
    rw [e, h2.1, h2.2.1, h2.2.2, ← e2] at h1
    exact h1
  have TK := Lib.hid hTK
  clear h hS hTK
  by_cases ht : t.size = 0
  · have ht0 : ¬ (0 : Int) < t.size := by omega
    have T2 := Lib.hid (TK.out (by
      have : t.data.toList = [] := List.eq_nil_of_length_eq_zero (by rw [slen]; exact ht)
      rw [this]; simp))
    clear ht TK
    go_enter Tryd.func4, Tryd.ntmps4
    go_wp2_with (go_at_call 7; refine stop ?_)
    refine Stop.go ((awake_any w H.out).mono ?_)
    rintro e w1 ⟨rfl, f1⟩
    have F1 := Lib.hid f1
    clear f1
    go_wp2_with (go_at_call 8; refine stop ?_)
    refine Stop.go ((A1.out w1 (H.out.fr F1.out)).mono ?_)
    rintro e w2 ⟨rfl, f2⟩
    have F2 := Lib.hid (F1.out.step f2)
    clear f2 A1
    go_wp2_with (go_at_call 12; refine stop ?_)
    refine Stop.go ((B1.out w2).mono ?_)
    rintro e w3 ⟨rfl, rfl⟩
    clear B1
    go_wp2_with (go_at_call 10; refine stop ?_)
    refine Stop.go ((T2.out w2).mono ?_)
    rintro e w3 ⟨rfl, rfl⟩
    clear T2
    go_wp2
    go_ret
    exact ⟨rfl, F2.out⟩
  · have j0 : 0 < t.size := by omega
    have ht0 : (0 : Int) < t.size := by omega
    have t0 := sget t 0 j0
    obtain ⟨c, hc⟩ : ∃ c : UInt8, c = t[0] := ⟨_, rfl⟩
    have gk1 : t[0] = c := hc.symm
    rw [gk1] at t0
    have HC := Lib.hid t0
    clear ht t0 hc
    by_cases hdig : 48 ≤ (c.toNat : Int) ∧ (c.toNat : Int) ≤ 57
    · obtain ⟨hd0, hd1⟩ := hdig
      go_enter Tryd.func4, Tryd.ntmps4
      go_wp2_with (go_at_call 7; refine stop ?_)
      refine Stop.go ((awake_any w H.out).mono ?_)
      rintro e w1 ⟨rfl, f1⟩
      have F1 := Lib.hid f1
      clear f1
      go_wp2_with (go_at_call 8; refine stop ?_)
      refine Stop.go ((A1.out w1 (H.out.fr F1.out)).mono ?_)
      rintro e w2 ⟨rfl, f2⟩
      have F2 := Lib.hid (F1.out.step f2)
      clear f2 A1
      go_wp2_with (go_at_call 12; refine stop ?_)
      refine Stop.go ((B1.out w2).mono ?_)
      rintro e w3 ⟨rfl, rfl⟩
      clear B1
      go_wp2_with (go_at_call 14; refine stop ?_)
      refine Stop.go ((digit_yes (c.toNat : Int) w2 hd0 hd1).mono ?_)
      rintro e w3 ⟨rfl, rfl⟩
      go_wp2
      go_ret
      exact ⟨rfl, F2.out⟩
    · have hno : (c.toNat : Int) < 48 ∨ 57 < (c.toNat : Int) := by omega
      have T2 := Lib.hid (TK.out (fun c' hc' => by
        rw [List.head?_eq_getElem?, HC.out] at hc'
        obtain rfl := Option.some.inj hc'
        exact isd_no hno))
      have HNO := Lib.hid hno
      clear hdig hno TK
      go_enter Tryd.func4, Tryd.ntmps4
      go_wp2_with (go_at_call 7; refine stop ?_)
      refine Stop.go ((awake_any w H.out).mono ?_)
      rintro e w1 ⟨rfl, f1⟩
      have F1 := Lib.hid f1
      clear f1
      go_wp2_with (go_at_call 8; refine stop ?_)
      refine Stop.go ((A1.out w1 (H.out.fr F1.out)).mono ?_)
      rintro e w2 ⟨rfl, f2⟩
      have F2 := Lib.hid (F1.out.step f2)
      clear f2 A1
      go_wp2_with (go_at_call 12; refine stop ?_)
      refine Stop.go ((B1.out w2).mono ?_)
      rintro e w3 ⟨rfl, rfl⟩
      clear B1
      go_wp2_with (go_at_call 14; refine stop ?_)
      refine Stop.go ((digit_no (c.toNat : Int) w2 HNO.out).mono ?_)
      rintro e w3 ⟨rfl, rfl⟩
      go_wp2_with (go_at_call 10; refine stop ?_)
      refine Stop.go ((T2.out w2).mono ?_)
      rintro e w3 ⟨rfl, rfl⟩
      clear T2
      go_wp2
      go_ret
      exact ⟨rfl, F2.out⟩

theorem back_walk (n : Int) (s t : ByteArray) (w : World) (h : Tb w) :
    Calls Tryd.prog 4 #[.int .i64 n, .string s, .string t] w fun e w' => e = .returned (.bool true) ∧ Below w.heap.size w w' := by
  have key : Calls Tryd.prog 4 #[.int .i64 n, .string s, .string t] w fun e w' => e = .returned (.bool true) ∧ Fr nob w w' := by
    by_cases h1 : 1000 < s.size
    · exact back_long n s t w h h1
    by_cases h2 : 1000 < t.size
    · exact back_far n s t w h h1 h2
    by_cases h3 : n < 0 ∨ 2147483647 < n
    · exact back_out n s t w h h1 h2 h3
    obtain ⟨u, rfl⟩ : ∃ u : Nat, n = u := ⟨n.toNat, by omega⟩
    exact back_in u s t w h h1 h2 (by omega)
  exact key.mono fun e w' ⟨he, hf⟩ => ⟨he, hf.below0⟩

end Go.Proofs.YtanpdfiekjgdoaaDoor
