/- PackCuts. -/
import Derived.Test.YtgjgonnlkponiaaPkM
namespace Go.Proofs.Ytgjgonnlkponiaa
open Go.RowKit

theorem GT.cut {l : List Int} (h : putE l = 0) {S T : ByteArray} (hS : S = ⟨(putL l).toArray⟩) {k : Nat} (hk : k < S.size) (hT : T.data.toList = S.data.toList.take k) {w w' : World} {e : Ending} (g : GT T w e w') :
    ∃ a cap, e = .returned (.tuple #[.slice a 0 cap, .int .i64 16]) ∧ Fr nob w w' := by
  obtain ⟨v, h1, h2, h3⟩ := g
  have hd : S.data.toList = putL l := by rw [hS]
  have hn : (putL l).drop k ≠ [] := by
    intro e
    have h5 := congrArg List.length e
    rw [← hd, List.length_drop, slen] at h5
    simp at h5; omega
  obtain ⟨g1, g2⟩ := get_front h ((putL l).take k) ((putL l).drop k) hn (List.take_append_drop k _).symm
  rw [hT, hd, g1] at h1
  rw [hT, hd, g2] at h2
  obtain ⟨a, b, off, cap, rfl, -⟩ := h2
  exact ⟨a, cap, h1, h3⟩
theorem GT.more {l : List Int} (h : putE l = 0) {S s : ByteArray} (hS : S = ⟨(putL l).toArray⟩) {w w' : World} {e : Ending} (g : GT (S ++ s) w e w') :
    ∃ a n cap, e = .returned (.tuple #[.slice a n cap, .int .i64 (if s.size = 0 then 0 else 2)]) ∧ n = (if s.size = 0 then l.length else 0) ∧ Fr nob w w' := by
  obtain ⟨v, h1, h2, h3⟩ := g
  have hd : (S ++ s).data.toList = putL l ++ s.data.toList := by rw [hS]; simp
  obtain ⟨g1, g2⟩ := get_put h s.data.toList
  have he : s.data.toList = [] ↔ s.size = 0 := by rw [← slen, List.length_eq_zero_iff]
  rw [hd] at h1 h2
  by_cases hz : s.size = 0
  · have hn : s.data.toList = [] := he.2 hz
    have e1 : getE (putL l ++ s.data.toList) = 0 := by rw [g1, hn]; rfl
    have e2 : getL (putL l ++ s.data.toList) = l := by rw [g2, hn]; rfl
    rw [e1] at h1
    rw [e2] at h2
    obtain ⟨a, b, off, cap, rfl, -⟩ := h2
    exact ⟨a, _, cap, by rw [h1, if_pos hz], by rw [if_pos hz], h3⟩
  · have hn : ¬ s.data.toList = [] := fun x => hz (he.1 x)
    have e1 : getE (putL l ++ s.data.toList) = 2 := by rw [g1, if_neg hn]
    have e2 : getL (putL l ++ s.data.toList) = [] := by rw [g2, if_neg hn]
    rw [e1] at h1
    rw [e2] at h2
    obtain ⟨a, b, off, cap, rfl, -⟩ := h2
    exact ⟨a, _, cap, by rw [h1, if_neg hz], by rw [if_neg hz]; rfl, h3⟩

theorem beq0 {n : Nat} (h : n = 0) : ((n : Int) == 0) = true := by subst h; rfl
theorem beqn {n : Nat} (h : ¬ n = 0) : ((n : Int) == 0) = false := by simpa using h

set_option maxRecDepth 100000 in
set_option maxHeartbeats 1000000 in
theorem cuts_any (v : Value) (l : List Int) (x : Int) (s : ByteArray) (w : World) (h : RI w v l) : Calls Try.prog 6 #[v, .int .i64 x, .string s] w (Tr w) := by
  have R := Lib.hid h
  obtain ⟨a, b, off, cap, rfl, -, -, -⟩ := h
  obtain ⟨n, hn⟩ : ∃ n, n = l.length := ⟨_, rfl⟩
  rw [← hn] at R
  rw [← hn]
  have HN := Lib.hid hn
  clear hn
  go_enter Try.func6, Try.ntmps6
  go_wp2_with (go_at_call 7; refine stop ?_)
  refine Stop.go ((awake_any _).mono ?_)
  rintro e w1 ⟨rfl, f1⟩
  have F1 := Lib.hid f1
  have R1 := Lib.hid (R.out.fr f1)
  clear f1 R
  by_cases c1 : 200 < n
  · go_wp2
    go_ret
    exact ⟨rfl, F1.out⟩
  · by_cases c2 : 100 < s.size
    · go_wp2
      go_ret
      exact ⟨rfl, F1.out⟩
    · go_wp2_with (go_at_call 8; refine stop ?_)
      refine Stop.go ((put_any _ l _ R1.out).mono ?_)
      rintro e w2 ⟨rfl, f2⟩
      by_cases hz : putE l = 0
      · have HZ := Lib.hid hz
        have hSb : (putL l).length ≤ 1000000 := by
          rw [(putE_zero hz).2.2, List.length_append]
          have h1 := encL_len (putE_zero hz).2.1
          have h2 := enc7_five (n := l.length) (by have := HN.out; omega)
          have := HN.out
          omega
        obtain ⟨S, hS⟩ : ∃ S : ByteArray, S = ⟨(putL l).toArray⟩ := ⟨_, rfl⟩
        have hSz : S.size ≤ 1000000 := by rw [hS]; rw [size_list]; exact hSb
        have hsum : S.size + s.size ≤ 9223372036854775807 := by omega
        rw [← hS, hz]
        have F2 := Lib.hid (F1.out.step f2)
        have HS := Lib.hid hS
        clear f2 R1 F1 hS hz hSb
        by_cases hx : 0 ≤ x ∧ x < S.size
        · obtain ⟨k, rfl⟩ : ∃ k : Nat, x = k := ⟨x.toNat, by omega⟩
          have hk : k < S.size := by omega
          have hk0 : (0 : Int) ≤ (k : Int) := by omega
          have hkl : (k : Int) ≤ (S.size : Int) := by omega
          have hkn : ((k : Int).toNat : Nat) = k := Int.toNat_natCast k
          go_wp2_with (go_at_call 10; refine stop ?_)
          refine Stop.go ((get_any _ _).mono ?_)
          intro e w4 g4
          obtain ⟨a4, cap4, rfl, f4⟩ := GT.cut HZ.out HS.out hk (by simp [ByteArray.data_extract]) g4
          have FX := Lib.hid (F2.out.step f4)
          clear g4 f4 F2 hk0 hkl hkn
          go_wp2_with (go_at_call 10; refine stop ?_)
          refine Stop.go ((get_any (S ++ s) _).mono ?_)
          intro e w5 g5
          obtain ⟨a5, n5, cap5, rfl, hn5, f5⟩ := GT.more HZ.out HS.out g5
          have F5 := Lib.hid (FX.out.step f5)
          clear f5 g5 FX
          by_cases hs0 : s.size = 0
          · have hs1 : ((s.size : Int) == 0) = true := beq0 hs0
            rw [if_pos hs0, ← HN.out] at hn5
            subst hn5
            rw [if_pos hs0]
            clear hs0
            go_wp2
            go_ret
            exact ⟨rfl, F5.out⟩
          · have hs1 : ((s.size : Int) == 0) = false := beqn hs0
            rw [if_neg hs0] at hn5
            subst hn5
            rw [if_neg hs0]
            clear hs0
            go_wp2
            go_ret
            exact ⟨rfl, F5.out⟩
        · have FX := F2
          by_cases hx0 : 0 ≤ x
          · have hx1 : ¬ x < (S.size : Int) := fun e => hx ⟨hx0, e⟩
            clear hx F2
            go_wp2_with (go_at_call 10; refine stop ?_)
            refine Stop.go ((get_any (S ++ s) _).mono ?_)
            intro e w5 g5
            obtain ⟨a5, n5, cap5, rfl, hn5, f5⟩ := GT.more HZ.out HS.out g5
            have F5 := Lib.hid (FX.out.step f5)
            clear f5 g5 FX
            by_cases hs0 : s.size = 0
            · have hs1 : ((s.size : Int) == 0) = true := beq0 hs0
              rw [if_pos hs0, ← HN.out] at hn5
              subst hn5
              rw [if_pos hs0]
              clear hs0
              go_wp2
              go_ret
              exact ⟨rfl, F5.out⟩
            · have hs1 : ((s.size : Int) == 0) = false := beqn hs0
              rw [if_neg hs0] at hn5
              subst hn5
              rw [if_neg hs0]
              clear hs0
              go_wp2
              go_ret
              exact ⟨rfl, F5.out⟩
          · clear hx F2
            go_wp2_with (go_at_call 10; refine stop ?_)
            refine Stop.go ((get_any (S ++ s) _).mono ?_)
            intro e w5 g5
            obtain ⟨a5, n5, cap5, rfl, hn5, f5⟩ := GT.more HZ.out HS.out g5
            have F5 := Lib.hid (FX.out.step f5)
            clear f5 g5 FX
            by_cases hs0 : s.size = 0
            · have hs1 : ((s.size : Int) == 0) = true := beq0 hs0
              rw [if_pos hs0, ← HN.out] at hn5
              subst hn5
              rw [if_pos hs0]
              clear hs0
              go_wp2
              go_ret
              exact ⟨rfl, F5.out⟩
            · have hs1 : ((s.size : Int) == 0) = false := beqn hs0
              rw [if_neg hs0] at hn5
              subst hn5
              rw [if_neg hs0]
              clear hs0
              go_wp2
              go_ret
              exact ⟨rfl, F5.out⟩
      · have HE := Lib.hid (putL_err hz)
        obtain ⟨E, hE⟩ : ∃ E, E = putE l := ⟨_, rfl⟩
        rw [← hE, HE.out]
        rw [← hE] at hz
        have F2 := Lib.hid (F1.out.step f2)
        have hE1 : (E == 0) = false := by simpa using hz
        have hE2 : (E != 0) = true := by simpa using hz
        clear f2 R1 F1 hE
        go_wp2
        go_ret
        exact ⟨rfl, F2.out⟩

theorem cuts_walk (a : Option Addr) (len cap : Nat) (X : Nat → Nat → Int) (x : Int) (s : ByteArray) (w : World) (h : NumsAt w a len cap [.i64] X) (_ : (Lit.int .i64 x).wf = true) (_ : s.size ≤ maxLen) :
    Calls Try.prog 6 #[.slice a len cap, .int .i64 x, .string s] w fun e w' => e = .returned (.bool true) ∧ Below w.heap.size w w' := by
  obtain ⟨xs, _, hr⟩ := h.ints
  exact (cuts_any _ xs x s w hr).mono fun e w' ⟨h1, h2⟩ => ⟨h1, h2.below0⟩

end Go.Proofs.Ytgjgonnlkponiaa
