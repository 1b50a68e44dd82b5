/- Take and Whole, of the program and of the reference, in one word; the document's example. -/
import Derived.Test.YtanpdfiekjgdoaaDoorNumC
namespace Go.Proofs.YtanpdfiekjgdoaaDoor
open Go.RowKit Go.Lib

theorem tkv_eq {l : List UInt8} {k : Nat} (h : k ≤ l.length) : tkv (dp (l.drop k)) k = .tuple #[.int .i64 (tkN l k), .int .i64 (tkT l k), .int .i64 (tkE l k)] := by
  by_cases hb : bad (dp (l.drop k))
  · obtain ⟨h1, h2, h3⟩ := tk_bad h hb
    rw [tkv_bad _ hb, h1, h2, h3]
  · by_cases hg : M < val (dp (l.drop k))
    · obtain ⟨h1, h2, h3⟩ := tk_great h hb hg
      rw [tkv_great _ hb hg, h1, h2, h3]
    · obtain ⟨h1, h2, h3⟩ := tk_ok h hb hg
      rw [tkv_ok _ hb hg, h1, h2, h3]

theorem take_any (s : ByteArray) (k : Int) (w : World) (hs : s.size ≤ 1000000) :
    Calls Tryd.prog 10 #[.string s, .int .i64 k] w fun e w' => e = .returned (.tuple #[.int .i64 (tkN s.data.toList k), .int .i64 (tkT s.data.toList k), .int .i64 (tkE s.data.toList k)]) ∧ w = w' := by
  by_cases h : k < 0 ∨ (s.size : Int) < k
  · obtain ⟨h1, h2, h3⟩ := tk_arg (l := s.data.toList) (k := k) (by rw [slen]; exact h)
    rw [h1, h2, h3]
    exact take_arg s k w h
  · obtain ⟨j, rfl⟩ : ∃ j : Nat, k = j := ⟨k.toNat, by omega⟩
    rw [← tkv_eq (by rw [slen]; omega)]
    have := take_in s (s.extract j s.size) j w (by omega) (by omega) rfl
    rw [sextract] at this
    exact this

theorem rtake_any (s : ByteArray) (k : Int) (w : World) (hs : s.size ≤ 1000000) :
    Calls Tryd.prog 11 #[.string s, .int .i64 k] w fun e w' => e = .returned (.tuple #[.int .i64 (tkN s.data.toList k), .int .i64 (tkT s.data.toList k), .int .i64 (tkE s.data.toList k)]) ∧ w = w' := by
  by_cases h : k < 0 ∨ (s.size : Int) < k
  · obtain ⟨h1, h2, h3⟩ := tk_arg (l := s.data.toList) (k := k) (by rw [slen]; exact h)
    rw [h1, h2, h3]
    exact rtake_arg s k w h
  · obtain ⟨j, rfl⟩ : ∃ j : Nat, k = j := ⟨k.toNat, by omega⟩
    rw [← tkv_eq (by rw [slen]; omega)]
    exact rtake_in s j w (by omega) (by omega)

set_option maxRecDepth 100000 in
theorem whole_any (s : ByteArray) (w : World) (hs : s.size ≤ 1000000) :
    Calls Tryd.prog 12 #[.string s] w fun e w' => e = .returned (.tuple #[.int .i64 (whN s.data.toList), .int .i64 (whE s.data.toList)]) ∧ w = w' := by
  have A := Lib.hid (take_any s 0 w hs)
  unfold whN whE
  have hl : (s.data.toList.length : Int) = s.size := by rw [slen]
  rw [hl]
  by_cases he : tkE s.data.toList 0 = 0
  · rw [he] at A ⊢
    obtain ⟨N, hN⟩ : ∃ N, N = tkN s.data.toList 0 := ⟨_, rfl⟩
    obtain ⟨T, hT⟩ : ∃ T, T = tkT s.data.toList 0 := ⟨_, rfl⟩
    rw [← hN, ← hT] at A ⊢
    clear hN hT he hl
    by_cases ht : T < s.size
    · rw [if_pos ⟨rfl, ht⟩, if_pos ⟨rfl, ht⟩]
      go_enter Tryd.func12, Tryd.ntmps12
      go_wp2_with (go_at_call 10; refine stop ?_)
      refine Stop.go (A.out.mono ?_)
      rintro e w1 ⟨rfl, rfl⟩
      go_wp2
      go_ret2
      exact ⟨rfl, rfl⟩
    · rw [if_neg (fun h => ht h.2), if_neg (fun h => ht h.2)]
      go_enter Tryd.func12, Tryd.ntmps12
      go_wp2_with (go_at_call 10; refine stop ?_)
      refine Stop.go (A.out.mono ?_)
      rintro e w1 ⟨rfl, rfl⟩
      go_wp2
      go_ret2
      exact ⟨rfl, rfl⟩
  · rw [if_neg (fun h => he h.1), if_neg (fun h => he h.1)]
    obtain ⟨N, hN⟩ : ∃ N, N = tkN s.data.toList 0 := ⟨_, rfl⟩
    obtain ⟨T, hT⟩ : ∃ T, T = tkT s.data.toList 0 := ⟨_, rfl⟩
    obtain ⟨E, hE⟩ : ∃ E, E = tkE s.data.toList 0 := ⟨_, rfl⟩
    rw [← hE] at he
    rw [← hN, ← hT, ← hE] at A
    rw [← hN, ← hE]
    have e1 : (E == 0) = false := by simpa using he
    clear hN hT hE hl he
    go_enter Tryd.func12, Tryd.ntmps12
    go_wp2_with (go_at_call 10; refine stop ?_)
    refine Stop.go (A.out.mono ?_)
    rintro e w1 ⟨rfl, rfl⟩
    go_wp2
    go_ret2
    exact ⟨rfl, rfl⟩

set_option maxRecDepth 100000 in
theorem rwhole_any (s : ByteArray) (w : World) (hs : s.size ≤ 1000000) :
    Calls Tryd.prog 13 #[.string s] w fun e w' => e = .returned (.tuple #[.int .i64 (whN s.data.toList), .int .i64 (whE s.data.toList)]) ∧ w = w' := by
  have A := Lib.hid (rtake_any s 0 w hs)
  unfold whN whE
  have hl : (s.data.toList.length : Int) = s.size := by rw [slen]
  rw [hl]
  by_cases he : tkE s.data.toList 0 = 0
  · rw [he] at A ⊢
    obtain ⟨N, hN⟩ : ∃ N, N = tkN s.data.toList 0 := ⟨_, rfl⟩
    obtain ⟨T, hT⟩ : ∃ T, T = tkT s.data.toList 0 := ⟨_, rfl⟩
    rw [← hN, ← hT] at A ⊢
    clear hN hT he hl
    by_cases ht : T < s.size
    · rw [if_pos ⟨rfl, ht⟩, if_pos ⟨rfl, ht⟩]
      go_enter Tryd.func13, Tryd.ntmps13
      go_wp2_with (go_at_call 11; refine stop ?_)
      refine Stop.go (A.out.mono ?_)
      rintro e w1 ⟨rfl, rfl⟩
      go_wp2
      go_ret2
      exact ⟨rfl, rfl⟩
    · rw [if_neg (fun h => ht h.2), if_neg (fun h => ht h.2)]
      go_enter Tryd.func13, Tryd.ntmps13
      go_wp2_with (go_at_call 11; refine stop ?_)
      refine Stop.go (A.out.mono ?_)
      rintro e w1 ⟨rfl, rfl⟩
      go_wp2
      go_ret2
      exact ⟨rfl, rfl⟩
  · rw [if_neg (fun h => he h.1), if_neg (fun h => he h.1), (tk_nonzero he).1]
    obtain ⟨E, hE⟩ : ∃ E, E = tkE s.data.toList 0 := ⟨_, rfl⟩
    rw [← hE] at he
    rw [← hE] at A ⊢
    have e1 : (E == 0) = false := by simpa using he
    have e2 : (E != 0) = true := by simpa using he
    clear hE hl he
    go_enter Tryd.func13, Tryd.ntmps13
    go_wp2_with (go_at_call 11; refine stop ?_)
    refine Stop.go (A.out.mono ?_)
    rintro e w1 ⟨rfl, rfl⟩
    go_wp2
    go_ret2
    exact ⟨rfl, rfl⟩

theorem show70 : showS 70 = ⟨#[55, 48]⟩ := by
  rw [showS_ok (by decide) (by decide)]
  rw [show (70 : Int).toNat = 70 from rfl, decDigits_two (by decide) (by decide)]
  rfl

set_option maxRecDepth 100000 in
set_option maxHeartbeats 1000000 in
theorem awake_any (w : World) (h : Tb w) : Calls Tryd.prog 7 #[] w fun e w' => e = .returned (.bool true) ∧ Fr nob w w' := by
  have S1 := Lib.hid (fun w h => show_any 70 w h)
  rw [show70, show showE 70 = 0 from by decide] at S1
  have S2 := Lib.hid (fun w h => show_any (-1) w h)
  rw [show showE (-1) = 1 from by decide] at S2
  have T1 := Lib.hid (fun w => take_any ⟨#[97, 55, 48, 98]⟩ 1 w (by decide))
  rw [show tkN (⟨#[97, 55, 48, 98]⟩ : ByteArray).data.toList 1 = 70 from by decide, show tkT (⟨#[97, 55, 48, 98]⟩ : ByteArray).data.toList 1 = 3 from by decide, show tkE (⟨#[97, 55, 48, 98]⟩ : ByteArray).data.toList 1 = 0 from by decide] at T1
  have T2 := Lib.hid (fun w => take_any ⟨#[48, 48, 55]⟩ 0 w (by decide))
  rw [show tkN (⟨#[48, 48, 55]⟩ : ByteArray).data.toList 0 = 0 from by decide, show tkT (⟨#[48, 48, 55]⟩ : ByteArray).data.toList 0 = 0 from by decide, show tkE (⟨#[48, 48, 55]⟩ : ByteArray).data.toList 0 = 2 from by decide] at T2
  have W1 := Lib.hid (fun w => whole_any ⟨#[48]⟩ w (by decide))
  rw [show whN (⟨#[48]⟩ : ByteArray).data.toList = 0 from by decide, show whE (⟨#[48]⟩ : ByteArray).data.toList = 0 from by decide] at W1
  have H := Lib.hid h
  clear h
  go_enter Tryd.func7, Tryd.ntmps7
  go_wp2_with (go_at_call 8; refine stop ?_)
  refine Stop.go ((S1.out w H.out).mono ?_)
  rintro e w1 ⟨rfl, f1⟩
  have F1 := Lib.hid f1
  clear f1 S1
  go_wp2_with (go_at_call 10; refine stop ?_)
  refine Stop.go ((T1.out w1).mono ?_)
  rintro e w2 ⟨rfl, rfl⟩
  clear T1
  go_wp2_with (go_at_call 10; refine stop ?_)
  refine Stop.go ((T2.out w1).mono ?_)
  rintro e w2 ⟨rfl, rfl⟩
  clear T2
  go_wp2_with (go_at_call 8; refine stop ?_)
  refine Stop.go ((S2.out w1 (H.out.fr F1.out)).mono ?_)
  rintro e w2 ⟨rfl, f2⟩
  have F2 := Lib.hid (F1.out.step f2)
  clear f2 S2
  go_wp2_with (go_at_call 12; refine stop ?_)
  refine Stop.go ((W1.out w2).mono ?_)
  rintro e w3 ⟨rfl, rfl⟩
  clear W1
  go_wp2
  go_ret
  exact ⟨rfl, F2.out⟩

end Go.Proofs.YtanpdfiekjgdoaaDoor
