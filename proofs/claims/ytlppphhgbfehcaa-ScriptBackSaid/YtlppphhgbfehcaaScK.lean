/- ScriptBack: the walk. -/
import Derived.Test.YtlppphhgbfehcaaScJ
namespace Go.Proofs.Ytlppphhgbfehcaa
open Go.RowKit

set_option maxRecDepth 100000 in
theorem back_long (a : Option Addr) (n cap : Nat) (s : ByteArray) (w : World) (h : 2100 < n) :
    Calls Try.prog 4 #[.slice a n cap, .string s] w fun e w' => e = .returned (.bool true) ∧ Fr nob w w' := by
  go_enter Try.func4, Try.ntmps4
  go_wp2_with (go_at_call 7; refine stop ?_)
  refine Stop.go ((awake_any w).mono ?_)
  rintro e w1 ⟨rfl, f1⟩
  have F1 := Lib.hid f1
  clear f1
  go_wp2
  go_ret
  exact ⟨rfl, F1.out⟩

set_option maxRecDepth 100000 in
theorem back_big (a : Option Addr) (n cap : Nat) (s : ByteArray) (w : World) (h : ¬ 2100 < n) (h2 : 4100 < s.size) :
    Calls Try.prog 4 #[.slice a n cap, .string s] w fun e w' => e = .returned (.bool true) ∧ Fr nob w w' := by
  go_enter Try.func4, Try.ntmps4
  go_wp2_with (go_at_call 7; refine stop ?_)
  refine Stop.go ((awake_any w).mono ?_)
  rintro e w1 ⟨rfl, f1⟩
  have F1 := Lib.hid f1
  clear f1
  go_wp2
  go_ret
  exact ⟨rfl, F1.out⟩

theorem empty_list : ByteArray.empty.toList = [] := by rw [ByteArray.toList_eq]; rfl

set_option maxRecDepth 100000 in
set_option maxHeartbeats 1000000 in
theorem back_00 (a : Option Addr) (n cap : Nat) (ps : List Pk) (s : ByteArray) (w : World) (h : ¬ 2100 < n) (h2 : ¬ 4100 < s.size) (hr : RP w (.slice a n cap) ps) (hn : n = ps.length) (he : putE ps = 0) (hg : getE s.data.toList = 0) :
    Calls Try.prog 4 #[.slice a n cap, .string s] w fun e w' => e = .returned (.bool true) ∧ Fr nob w w' := by
  have PUT := Lib.hid (fun w h => put_any (.slice a n cap) ps w h)
  have GET := Lib.hid (fun w => get_any s w (by unfold maxLen; omega))
  have R := Lib.hid hr
  have HN := Lib.hid hn
  have hgp := get_put he
  have hle : ps.length ≤ 2000 := by
    rcases putE_cases ps with ⟨_, h1, _⟩ | ⟨h1, _⟩
    · exact h1
    · exact absurd he h1
  have hn2 : n ≤ 2000 := by omega
  have hpl : ps.length ≤ 100000 := by omega
  rw [he] at PUT
  obtain ⟨T, hT⟩ : ∃ T, T = putS ps := ⟨_, rfl⟩
  rw [← hT] at PUT hgp
  have hts : (T.size : Int) = 2 * (n : Int) := by omega
  have q1 : ((T.size : Int) == 2 * (n : Int)) = true := by simpa using hts
  have q2 : ((T.size : Int) != 2 * (n : Int)) = false := by simpa using hts
  have GT := Lib.hid (fun w => get_any T w (by unfold maxLen; omega))
  rw [hgp.1, hgp.2.1] at GT
  clear hgp hle hT hts
  have hpg := put_get hg
  obtain ⟨qs, hqs⟩ : ∃ qs, qs = getP s.data.toList := ⟨_, rfl⟩
  rw [hg, ← hqs] at GET
  rw [← hqs] at hpg
  have PT := Lib.hid (fun v w h => put_any v qs w h)
  rw [hpg.1, hpg.2] at PT
  clear hpg hqs
  clear hr hn he hg
  go_enter Try.func4, Try.ntmps4
  go_wp2_with (go_at_call 7; refine stop ?_)
  refine Stop.go ((awake_any w).mono ?_)
  rintro e w1 ⟨rfl, f1⟩
  have F1 := Lib.hid f1
  have R1 := Lib.hid (R.out.fr f1)
  clear f1 R
  go_wp2_with (go_at_call 9; refine stop ?_)
  refine Stop.go ((PUT.out w1 R1.out).mono ?_)
  rintro e w2 ⟨rfl, f2⟩
  have F2 := Lib.hid (F1.out.step f2)
  have R2 := Lib.hid (R1.out.fr f2)
  clear f2 R1 PUT
  go_wp2_with (go_at_call 11; refine stop ?_)
  refine Stop.go ((GT.out w2).mono ?_)
  rintro e w3 ⟨v3, rfl, r3, f3⟩
  obtain ⟨a3, n3, cap3, rfl⟩ := r3.slice
  have F3 := Lib.hid (F2.out.step f3)
  have R3 := Lib.hid (R2.out.fr f3)
  have S3 := Lib.hid r3
  clear f3 r3 R2 GT
  go_wp2_with (go_at_call 8; refine stop ?_)
  refine Stop.go ((plain_rp _ ps w3 R3.out hpl).mono ?_)
  rintro e w4 ⟨v4, rfl, o4, f4⟩
  have F4 := Lib.hid (F3.out.step f4)
  have S4 := Lib.hid (S3.out.fr f4)
  have O4 := Lib.hid o4
  obtain ⟨a4, n4, cap4, rfl⟩ := o4.slice
  clear f4 o4 S3
  go_wp2_with (go_at_call 8; refine stop ?_)
  refine Stop.go ((plain_rp _ ps w4 S4.out hpl).mono ?_)
  rintro e w5 ⟨v5, rfl, o5, f5⟩
  have F5 := Lib.hid (F4.out.step f5)
  have O5 := Lib.hid o5
  have P5 := Lib.hid (O4.out.fr f5)
  obtain ⟨a5, n5, cap5, rfl⟩ := o5.slice
  clear f5 o5 S4 O4
  go_wp2_with (go_at_call 13; refine stop ?_)
  refine Stop.go ((same_any _ _ ps ps w5 P5.out O5.out).mono ?_)
  rintro e w6 ⟨rfl, f6⟩
  rw [show decide (ps = ps) = true from by simp]
  have F6 := Lib.hid (F5.out.step f6)
  clear f6 O5 P5
  go_wp2_with (go_at_call 11; refine stop ?_)
  refine Stop.go ((GET.out _).mono ?_)
  rintro e w7 ⟨v7, rfl, r7, f7⟩
  obtain ⟨a7, n7, cap7, rfl⟩ := r7.slice
  have F7 := Lib.hid (F6.out.step f7)
  have R7 := Lib.hid r7
  clear f7 r7 GET
  go_wp2_with (go_at_call 9; refine stop ?_)
  refine Stop.go ((PT.out _ w7 R7.out).mono ?_)
  rintro e w8 ⟨rfl, f8⟩
  have F8 := Lib.hid (F7.out.step f8)
  clear f8 R7 PT
  go_wp2
  go_ret
  exact ⟨rfl, F8.out⟩

set_option maxRecDepth 100000 in
set_option maxHeartbeats 1000000 in
theorem back_01 (a : Option Addr) (n cap : Nat) (ps : List Pk) (s : ByteArray) (w : World) (h : ¬ 2100 < n) (h2 : ¬ 4100 < s.size) (hr : RP w (.slice a n cap) ps) (hn : n = ps.length) (he : putE ps = 0) (hg : getE s.data.toList ≠ 0) :
    Calls Try.prog 4 #[.slice a n cap, .string s] w fun e w' => e = .returned (.bool true) ∧ Fr nob w w' := by
  have PUT := Lib.hid (fun w h => put_any (.slice a n cap) ps w h)
  have GET := Lib.hid (fun w => get_any s w (by unfold maxLen; omega))
  have R := Lib.hid hr
  have HN := Lib.hid hn
  have hgp := get_put he
  have hle : ps.length ≤ 2000 := by
    rcases putE_cases ps with ⟨_, h1, _⟩ | ⟨h1, _⟩
    · exact h1
    · exact absurd he h1
  have hn2 : n ≤ 2000 := by omega
  have hpl : ps.length ≤ 100000 := by omega
  rw [he] at PUT
  obtain ⟨T, hT⟩ : ∃ T, T = putS ps := ⟨_, rfl⟩
  rw [← hT] at PUT hgp
  have hts : (T.size : Int) = 2 * (n : Int) := by omega
  have q1 : ((T.size : Int) == 2 * (n : Int)) = true := by simpa using hts
  have q2 : ((T.size : Int) != 2 * (n : Int)) = false := by simpa using hts
  have GT := Lib.hid (fun w => get_any T w (by unfold maxLen; omega))
  rw [hgp.1, hgp.2.1] at GT
  clear hgp hle hT hts
  have hgp' : getP s.data.toList = [] := by
    rcases get_cases s.data.toList with ⟨h1, _⟩ | ⟨_, h1⟩
    · exact absurd h1 hg
    · exact h1
  rw [hgp'] at GET
  obtain ⟨E', hE'⟩ : ∃ E, E = getE s.data.toList := ⟨_, rfl⟩
  rw [← hE'] at GET
  have p2 : (E' == 0) = false := by simp; rw [hE']; exact hg
  have p3 : (E' != 0) = true := by simp; rw [hE']; exact hg
  clear hgp' hE'
  clear hr hn he hg
  go_enter Try.func4, Try.ntmps4
  go_wp2_with (go_at_call 7; refine stop ?_)
  refine Stop.go ((awake_any w).mono ?_)
  rintro e w1 ⟨rfl, f1⟩
  have F1 := Lib.hid f1
  have R1 := Lib.hid (R.out.fr f1)
  clear f1 R
  go_wp2_with (go_at_call 9; refine stop ?_)
  refine Stop.go ((PUT.out w1 R1.out).mono ?_)
  rintro e w2 ⟨rfl, f2⟩
  have F2 := Lib.hid (F1.out.step f2)
  have R2 := Lib.hid (R1.out.fr f2)
  clear f2 R1 PUT
  go_wp2_with (go_at_call 11; refine stop ?_)
  refine Stop.go ((GT.out w2).mono ?_)
  rintro e w3 ⟨v3, rfl, r3, f3⟩
  obtain ⟨a3, n3, cap3, rfl⟩ := r3.slice
  have F3 := Lib.hid (F2.out.step f3)
  have R3 := Lib.hid (R2.out.fr f3)
  have S3 := Lib.hid r3
  clear f3 r3 R2 GT
  go_wp2_with (go_at_call 8; refine stop ?_)
  refine Stop.go ((plain_rp _ ps w3 R3.out hpl).mono ?_)
  rintro e w4 ⟨v4, rfl, o4, f4⟩
  have F4 := Lib.hid (F3.out.step f4)
  have S4 := Lib.hid (S3.out.fr f4)
  have O4 := Lib.hid o4
  obtain ⟨a4, n4, cap4, rfl⟩ := o4.slice
  clear f4 o4 S3
  go_wp2_with (go_at_call 8; refine stop ?_)
  refine Stop.go ((plain_rp _ ps w4 S4.out hpl).mono ?_)
  rintro e w5 ⟨v5, rfl, o5, f5⟩
  have F5 := Lib.hid (F4.out.step f5)
  have O5 := Lib.hid o5
  have P5 := Lib.hid (O4.out.fr f5)
  obtain ⟨a5, n5, cap5, rfl⟩ := o5.slice
  clear f5 o5 S4 O4
  go_wp2_with (go_at_call 13; refine stop ?_)
  refine Stop.go ((same_any _ _ ps ps w5 P5.out O5.out).mono ?_)
  rintro e w6 ⟨rfl, f6⟩
  rw [show decide (ps = ps) = true from by simp]
  have F6 := Lib.hid (F5.out.step f6)
  clear f6 O5 P5
  go_wp2_with (go_at_call 11; refine stop ?_)
  refine Stop.go ((GET.out _).mono ?_)
  rintro e w7 ⟨v7, rfl, r7, f7⟩
  have F7 := Lib.hid (F6.out.step f7)
  obtain ⟨a7, b7, off7, cap7, rfl, -, -, -⟩ := r7
  clear f7 GET
  go_wp2
  go_ret
  exact ⟨rfl, F7.out⟩

set_option maxRecDepth 100000 in
set_option maxHeartbeats 1000000 in
theorem back_10 (a : Option Addr) (n cap : Nat) (ps : List Pk) (s : ByteArray) (w : World) (h : ¬ 2100 < n) (h2 : ¬ 4100 < s.size) (hr : RP w (.slice a n cap) ps) (hn : n = ps.length) (he : putE ps ≠ 0) (hg : getE s.data.toList = 0) :
    Calls Try.prog 4 #[.slice a n cap, .string s] w fun e w' => e = .returned (.bool true) ∧ Fr nob w w' := by
  have PUT := Lib.hid (fun w h => put_any (.slice a n cap) ps w h)
  have GET := Lib.hid (fun w => get_any s w (by unfold maxLen; omega))
  have R := Lib.hid hr
  have HN := Lib.hid hn
  have hps : putS ps = ByteArray.empty := by
    rcases putE_cases ps with ⟨h1, _⟩ | ⟨_, h1⟩
    · exact absurd h1 he
    · exact h1
  rw [hps] at PUT
  obtain ⟨E, hE⟩ : ∃ E, E = putE ps := ⟨_, rfl⟩
  rw [← hE] at PUT
  have p1 : (E == 0) = false := by simp; rw [hE]; exact he
  have em := empty_list
  clear hps hE
  have hpg := put_get hg
  obtain ⟨qs, hqs⟩ : ∃ qs, qs = getP s.data.toList := ⟨_, rfl⟩
  rw [hg, ← hqs] at GET
  rw [← hqs] at hpg
  have PT := Lib.hid (fun v w h => put_any v qs w h)
  rw [hpg.1, hpg.2] at PT
  clear hpg hqs
  clear hr hn he hg
  go_enter Try.func4, Try.ntmps4
  go_wp2_with (go_at_call 7; refine stop ?_)
  refine Stop.go ((awake_any w).mono ?_)
  rintro e w1 ⟨rfl, f1⟩
  have F1 := Lib.hid f1
  have R1 := Lib.hid (R.out.fr f1)
  clear f1 R
  go_wp2_with (go_at_call 9; refine stop ?_)
  refine Stop.go ((PUT.out w1 R1.out).mono ?_)
  rintro e w2 ⟨rfl, f2⟩
  have F2 := Lib.hid (F1.out.step f2)
  have R2 := Lib.hid (R1.out.fr f2)
  clear f2 R1 PUT
  go_wp2_with (go_at_call 11; refine stop ?_)
  refine Stop.go ((GET.out _).mono ?_)
  rintro e w7 ⟨v7, rfl, r7, f7⟩
  obtain ⟨a7, n7, cap7, rfl⟩ := r7.slice
  have F7 := Lib.hid (F2.out.step f7)
  have R7 := Lib.hid r7
  clear f7 r7 GET
  go_wp2_with (go_at_call 9; refine stop ?_)
  refine Stop.go ((PT.out _ w7 R7.out).mono ?_)
  rintro e w8 ⟨rfl, f8⟩
  have F8 := Lib.hid (F7.out.step f8)
  clear f8 R7 PT
  go_wp2
  go_ret
  exact ⟨rfl, F8.out⟩

set_option maxRecDepth 100000 in
set_option maxHeartbeats 1000000 in
theorem back_11 (a : Option Addr) (n cap : Nat) (ps : List Pk) (s : ByteArray) (w : World) (h : ¬ 2100 < n) (h2 : ¬ 4100 < s.size) (hr : RP w (.slice a n cap) ps) (hn : n = ps.length) (he : putE ps ≠ 0) (hg : getE s.data.toList ≠ 0) :
    Calls Try.prog 4 #[.slice a n cap, .string s] w fun e w' => e = .returned (.bool true) ∧ Fr nob w w' := by
  have PUT := Lib.hid (fun w h => put_any (.slice a n cap) ps w h)
  have GET := Lib.hid (fun w => get_any s w (by unfold maxLen; omega))
  have R := Lib.hid hr
  have HN := Lib.hid hn
  have hps : putS ps = ByteArray.empty := by
    rcases putE_cases ps with ⟨h1, _⟩ | ⟨_, h1⟩
    · exact absurd h1 he
    · exact h1
  rw [hps] at PUT
  obtain ⟨E, hE⟩ : ∃ E, E = putE ps := ⟨_, rfl⟩
  rw [← hE] at PUT
  have p1 : (E == 0) = false := by simp; rw [hE]; exact he
  have em := empty_list
  clear hps hE
  have hgp' : getP s.data.toList = [] := by
    rcases get_cases s.data.toList with ⟨h1, _⟩ | ⟨_, h1⟩
    · exact absurd h1 hg
    · exact h1
  rw [hgp'] at GET
  obtain ⟨E', hE'⟩ : ∃ E, E = getE s.data.toList := ⟨_, rfl⟩
  rw [← hE'] at GET
  have p2 : (E' == 0) = false := by simp; rw [hE']; exact hg
  have p3 : (E' != 0) = true := by simp; rw [hE']; exact hg
  clear hgp' hE'
  clear hr hn he hg
  go_enter Try.func4, Try.ntmps4
  go_wp2_with (go_at_call 7; refine stop ?_)
  refine Stop.go ((awake_any w).mono ?_)
  rintro e w1 ⟨rfl, f1⟩
  have F1 := Lib.hid f1
  have R1 := Lib.hid (R.out.fr f1)
  clear f1 R
  go_wp2_with (go_at_call 9; refine stop ?_)
  refine Stop.go ((PUT.out w1 R1.out).mono ?_)
  rintro e w2 ⟨rfl, f2⟩
  have F2 := Lib.hid (F1.out.step f2)
  have R2 := Lib.hid (R1.out.fr f2)
  clear f2 R1 PUT
  go_wp2_with (go_at_call 11; refine stop ?_)
  refine Stop.go ((GET.out _).mono ?_)
  rintro e w7 ⟨v7, rfl, r7, f7⟩
  have F7 := Lib.hid (F2.out.step f7)
  obtain ⟨a7, b7, off7, cap7, rfl, -, -, -⟩ := r7
  clear f7 GET
  go_wp2
  go_ret
  exact ⟨rfl, F7.out⟩

theorem back_walk (a : Option Addr) (len cap : Nat) (X : Nat → Nat → Int) (s : ByteArray) (w : World) (h : NumsAt w a len cap [.i64, .i64] X) (_ : s.size ≤ maxLen) :
    Calls Try.prog 4 #[.slice a len cap, .string s] w fun e w' => e = .returned (.bool true) ∧ Below w.heap.size w w' := by
  have key : Calls Try.prog 4 #[.slice a len cap, .string s] w fun e w' => e = .returned (.bool true) ∧ Fr nob w w' := by
    by_cases h1 : 2100 < len
    · exact back_long a len cap s w h1
    by_cases h2 : 4100 < s.size
    · exact back_big a len cap s w h1 h2
    obtain ⟨b, off, ps, rfl, h3, h4, h5⟩ := h.picks
    have hr : RP w (.slice a ps.length cap) ps := ⟨a, b, off, cap, rfl, h3, h4, h5⟩
    by_cases he : putE ps = 0
    · by_cases hg : getE s.data.toList = 0
      · exact back_00 a _ cap ps s w h1 h2 hr rfl he hg
      · exact back_01 a _ cap ps s w h1 h2 hr rfl he hg
    · by_cases hg : getE s.data.toList = 0
      · exact back_10 a _ cap ps s w h1 h2 hr rfl he hg
      · exact back_11 a _ cap ps s w h1 h2 hr rfl he hg
  exact key.mono fun e w' ⟨he, hf⟩ => ⟨he, hf.below0⟩

end Go.Proofs.Ytlppphhgbfehcaa
