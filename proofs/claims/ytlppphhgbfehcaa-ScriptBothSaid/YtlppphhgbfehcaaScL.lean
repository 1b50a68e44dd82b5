/- ScriptBoth: the walk. -/
import Derived.Test.YtlppphhgbfehcaaScJ
namespace Go.Proofs.Ytlppphhgbfehcaa
open Go.RowKit

set_option maxRecDepth 100000 in
theorem both_long (s t : ByteArray) (w : World) (h : 2000 < s.size) :
    Calls Try.prog 6 #[.string s, .string t] w fun e w' => e = .returned (.bool true) ∧ Fr nob w w' := by
  go_enter Try.func6, Try.ntmps6
  go_wp2_with (go_at_call 7; refine stop ?_)
  refine Stop.go ((awake_any w).mono ?_)
  rintro e w1 ⟨rfl, f1⟩
  have F1 := Lib.hid f1
  clear f1
  go_wp2
  go_ret
  exact ⟨rfl, F1.out⟩

set_option maxRecDepth 100000 in
theorem both_big (s t : ByteArray) (w : World) (h : ¬ 2000 < s.size) (h2 : 2000 < t.size) :
    Calls Try.prog 6 #[.string s, .string t] w fun e w' => e = .returned (.bool true) ∧ Fr nob w w' := by
  go_enter Try.func6, Try.ntmps6
  go_wp2_with (go_at_call 7; refine stop ?_)
  refine Stop.go ((awake_any w).mono ?_)
  rintro e w1 ⟨rfl, f1⟩
  have F1 := Lib.hid f1
  clear f1
  go_wp2
  go_ret
  exact ⟨rfl, F1.out⟩

set_option maxRecDepth 100000 in
theorem both_no1 (s t : ByteArray) (w : World) (h : ¬ 2000 < s.size) (h2 : ¬ 2000 < t.size) (hg : getE s.data.toList ≠ 0) :
    Calls Try.prog 6 #[.string s, .string t] w fun e w' => e = .returned (.bool true) ∧ Fr nob w w' := by
  have GS := Lib.hid (fun w => get_any s w (by unfold maxLen; omega))
  have GT := Lib.hid (fun w => get_any t w (by unfold maxLen; omega))
  have hgp' : getP s.data.toList = [] := by
    rcases get_cases s.data.toList with ⟨h1, _⟩ | ⟨_, h1⟩
    · exact absurd h1 hg
    · exact h1
  rw [hgp'] at GS
  obtain ⟨E', hE'⟩ : ∃ E, E = getE s.data.toList := ⟨_, rfl⟩
  rw [← hE'] at GS
  have p2 : (E' == 0) = false := by simp; rw [hE']; exact hg
  have p3 : (E' != 0) = true := by simp; rw [hE']; exact hg
  clear hgp' hE' hg
  go_enter Try.func6, Try.ntmps6
  go_wp2_with (go_at_call 7; refine stop ?_)
  refine Stop.go ((awake_any w).mono ?_)
  rintro e w1 ⟨rfl, f1⟩
  have F1 := Lib.hid f1
  clear f1
  go_wp2_with (go_at_call 11; refine stop ?_)
  refine Stop.go ((GS.out w1).mono ?_)
  rintro e w2 ⟨v2, rfl, r2, f2⟩
  have F2 := Lib.hid (F1.out.step f2)
  obtain ⟨a2, b2, off2, cap2, rfl, -, -, -⟩ := r2
  clear f2 GS
  go_wp2_with (go_at_call 11; refine stop ?_)
  refine Stop.go ((GT.out w2).mono ?_)
  rintro e w3 ⟨v3, rfl, -, f3⟩
  have F3 := Lib.hid (F2.out.step f3)
  clear f3 GT
  go_wp2
  go_ret
  exact ⟨rfl, F3.out⟩

set_option maxRecDepth 100000 in
theorem both_no2 (s t : ByteArray) (w : World) (h : ¬ 2000 < s.size) (h2 : ¬ 2000 < t.size) (hs : getE s.data.toList = 0) (hg : getE t.data.toList ≠ 0) :
    Calls Try.prog 6 #[.string s, .string t] w fun e w' => e = .returned (.bool true) ∧ Fr nob w w' := by
  have GS := Lib.hid (fun w => get_any s w (by unfold maxLen; omega))
  have GT := Lib.hid (fun w => get_any t w (by unfold maxLen; omega))
  rw [hs] at GS
  obtain ⟨E', hE'⟩ : ∃ E, E = getE t.data.toList := ⟨_, rfl⟩
  rw [← hE'] at GT
  have p2 : (E' == 0) = false := by simp; rw [hE']; exact hg
  have p3 : (E' != 0) = true := by simp; rw [hE']; exact hg
  clear hE' hg hs
  go_enter Try.func6, Try.ntmps6
  go_wp2_with (go_at_call 7; refine stop ?_)
  refine Stop.go ((awake_any w).mono ?_)
  rintro e w1 ⟨rfl, f1⟩
  have F1 := Lib.hid f1
  clear f1
  go_wp2_with (go_at_call 11; refine stop ?_)
  refine Stop.go ((GS.out w1).mono ?_)
  rintro e w2 ⟨v2, rfl, r2, f2⟩
  have F2 := Lib.hid (F1.out.step f2)
  obtain ⟨a2, b2, off2, cap2, rfl, -, -, -⟩ := r2
  clear f2 GS
  go_wp2_with (go_at_call 11; refine stop ?_)
  refine Stop.go ((GT.out w2).mono ?_)
  rintro e w3 ⟨v3, rfl, -, f3⟩
  have F3 := Lib.hid (F2.out.step f3)
  clear f3 GT
  go_wp2
  go_ret
  exact ⟨rfl, F3.out⟩

theorem app_toList (s t : ByteArray) : (s ++ t).data.toList = s.data.toList ++ t.data.toList := by simp [ByteArray.data_append]

set_option maxRecDepth 100000 in
set_option maxHeartbeats 1000000 in
theorem both_yes (s t : ByteArray) (w : World) (h : ¬ 2000 < s.size) (h2 : ¬ 2000 < t.size) (hs : getE s.data.toList = 0) (hg : getE t.data.toList = 0) :
    Calls Try.prog 6 #[.string s, .string t] w fun e w' => e = .returned (.bool true) ∧ Fr nob w w' := by
  have hu : (s ++ t).size ≤ maxLen := by rw [ByteArray.size_append]; unfold maxLen; omega
  have GS := Lib.hid (fun w => get_any s w (by unfold maxLen; omega))
  have GT := Lib.hid (fun w => get_any t w (by unfold maxLen; omega))
  have GU := Lib.hid (fun w => get_any (s ++ t) w hu)
  have two := get_two hs hg (by rw [slen]; omega) (by rw [slen]; omega)
  rw [← app_toList] at two
  rw [two.1, two.2] at GU
  rw [hs] at GS
  rw [hg] at GT
  obtain ⟨xs, hxs⟩ : ∃ xs, xs = getP s.data.toList := ⟨_, rfl⟩
  obtain ⟨ys, hys⟩ : ∃ ys, ys = getP t.data.toList := ⟨_, rfl⟩
  have hxl : xs.length ≤ 2000 := by
    rcases get_cases s.data.toList with ⟨_, _, h3, _, h4⟩ | ⟨_, h4⟩
    · rw [hxs, h4, dec_len]; omega
    · rw [hxs, h4]; simp
  have hyl : ys.length ≤ 2000 := by
    rcases get_cases t.data.toList with ⟨_, _, h3, _, h4⟩ | ⟨_, h4⟩
    · rw [hys, h4, dec_len]; omega
    · rw [hys, h4]; simp
  rw [← hxs] at GS
  rw [← hys] at GT
  rw [← hxs, ← hys] at GU
  have hsum : s.size + t.size ≤ 9223372036854775807 := by omega
  clear two hs hg hu hxs hys
  go_enter Try.func6, Try.ntmps6
  go_wp2_with (go_at_call 7; refine stop ?_)
  refine Stop.go ((awake_any w).mono ?_)
  rintro e w1 ⟨rfl, f1⟩
  have F1 := Lib.hid f1
  clear f1
  go_wp2_with (go_at_call 11; refine stop ?_)
  refine Stop.go ((GS.out w1).mono ?_)
  rintro e w2 ⟨v2, rfl, r2, f2⟩
  have F2 := Lib.hid (F1.out.step f2)
  obtain ⟨a2, b2, off2, cap2, rfl, -, -, p2⟩ := r2
  have P2 := Lib.hid p2
  clear f2 GS p2
  go_wp2_with (go_at_call 11; refine stop ?_)
  refine Stop.go ((GT.out w2).mono ?_)
  rintro e w3 ⟨v3, rfl, r3, f3⟩
  have F3 := Lib.hid (F2.out.step f3)
  obtain ⟨a3, b3, off3, cap3, rfl, -, -, p3⟩ := r3
  have P3 := Lib.hid p3
  have Q3 := Lib.hid (P2.out.nob f3)
  clear f3 GT p3 P2
  go_wp2_with (go_at_call 11; refine stop ?_)
  refine Stop.go ((GU.out w3).mono ?_)
  rintro e w4 ⟨v4, rfl, r4, f4⟩
  have F4 := Lib.hid (F3.out.step f4)
  have P4 := Lib.hid (P3.out.nob f4)
  have Q4 := Lib.hid (Q3.out.nob f4)
  have R4 := Lib.hid r4
  obtain ⟨a4, n4, cap4, rfl⟩ := r4.slice
  clear f4 GU r4 P3 Q3
  go_wp2_with (at_builtin; refine stop ?_)
  refine Stop.go (wpList_app rfl (.tmp 54) (.tmp 55) rfl appPick rfl (base := w4.heap.size) (n := 0) (xs := []) (World.ownsRow_nil _ _ _ _) (m := xs.length) (news := cp xs) rfl (cp_len xs) ?o3 ?o4 ?o5 ?o6 ?o7)
  case o3 => exact Q4.out.src
  case o4 => omega
  case o5 => simp only [maxLen]; omega
  case o6 => exact Nat.le_refl _
  case o7 =>
    intro v5 w5 ho5 hg5 _
    simp only [Nat.zero_add, List.nil_append] at ho5
    obtain ⟨a5, cap5, rfl, -, -⟩ := owns_shape ho5
    have f5 := (Fr.refl nob w4).grown hg5 (fun k hk _ => by simp [Value.ownBlock, Act.eval] at hk)
    have F5 := Lib.hid (F4.out.step f5)
    have P5 := Lib.hid (P4.out.nob f5)
    have G5 := Lib.hid f5
    have O5 := Lib.hid ho5
    have hz : w4.heap.size ≤ w5.heap.size := f5.size
    clear f5 ho5 hg5 P4 Q4
    go_wp2_with (at_builtin; refine stop ?_)
    refine Stop.go (wpList_app rfl (.tmp 57) (.tmp 58) rfl appPick rfl (base := w4.heap.size) (n := xs.length) (xs := cp xs) O5.out (m := ys.length) (news := cp ys) rfl (cp_len ys) ?p3 ?p4 ?p5 ?p6 ?p7)
    case p3 => exact P5.out.src
    case p4 => omega
    case p5 => simp only [maxLen]; omega
    case p6 => exact hz
    case p7 =>
      intro v6 w6 ho6 hg6 _
      obtain ⟨a6, cap6, rfl, -, -⟩ := owns_shape ho6
      have f6 : Fr nob w4 w6 := G5.out.keep ((Fr.refl (fun k => (Value.slice a5 xs.length cap5).ownBlock = some k) w5).grown hg6 (fun k hk _ => hk.symm ▸ rfl)) (fun i hi => (O5.out.lt i hi).1)
      have F6 := Lib.hid (F4.out.step f6)
      have R6 := Lib.hid (R4.out.fr f6)
      rw [← cp_app] at ho6
      have S6 : Hid (RP w6 (.slice a6 (xs.length + ys.length) cap6) (xs ++ ys)) := Lib.hid (RP.of_owns (by simp) ho6)
      have hxy : (xs ++ ys).length ≤ 100000 := by simp; omega
      clear f6 ho6 hg6 R4 O5 P5 F5 G5
      go_wp2_with (go_at_call 8; refine stop ?_)
      refine Stop.go ((plain_rp _ (xs ++ ys) w6 R6.out hxy).mono ?_)
      rintro e w7 ⟨v7, rfl, o7, f7⟩
      have F7 := Lib.hid (F6.out.step f7)
      have S7 := Lib.hid (S6.out.fr f7)
      have O7 := Lib.hid o7
      obtain ⟨a7, n7, cap7, rfl⟩ := o7.slice
      clear f7 o7 S6 R6
      go_wp2_with (go_at_call 8; refine stop ?_)
      refine Stop.go ((plain_rp _ (xs ++ ys) w7 S7.out hxy).mono ?_)
      rintro e w8 ⟨v8, rfl, o8, f8⟩
      have F8 := Lib.hid (F7.out.step f8)
      have P8 := Lib.hid (O7.out.fr f8)
      have O8 := Lib.hid o8
      obtain ⟨a8, n8, cap8, rfl⟩ := o8.slice
      clear f8 o8 S7 O7
      go_wp2_with (go_at_call 13; refine stop ?_)
      refine Stop.go ((same_any _ _ (xs ++ ys) (xs ++ ys) w8 P8.out O8.out).mono ?_)
      rintro e w9 ⟨rfl, f9⟩
      rw [show decide (xs ++ ys = xs ++ ys) = true from by simp]
      have F9 := Lib.hid (F8.out.step f9)
      clear f9 O8 P8
      go_wp2
      go_ret
      exact ⟨rfl, F9.out⟩

theorem both_walk (s t : ByteArray) (w : World) (_ : s.size ≤ maxLen) (_ : t.size ≤ maxLen) :
    Calls Try.prog 6 #[.string s, .string t] w fun e w' => e = .returned (.bool true) ∧ Below w.heap.size w w' := by
  have key : Calls Try.prog 6 #[.string s, .string t] w fun e w' => e = .returned (.bool true) ∧ Fr nob w w' := by
    by_cases h1 : 2000 < s.size
    · exact both_long s t w h1
    by_cases h2 : 2000 < t.size
    · exact both_big s t w h1 h2
    by_cases h3 : getE s.data.toList = 0
    · by_cases h4 : getE t.data.toList = 0
      · exact both_yes s t w h1 h2 h3 h4
      · exact both_no2 s t w h1 h2 h3 h4
    · exact both_no1 s t w h1 h2 h3
  exact key.mono fun e w' ⟨he, hf⟩ => ⟨he, hf.below0⟩

end Go.Proofs.Ytlppphhgbfehcaa
