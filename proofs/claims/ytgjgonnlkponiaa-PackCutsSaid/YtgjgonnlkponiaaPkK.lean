/- PackTells. -/
import Derived.Test.YtgjgonnlkponiaaPkJ
namespace Go.Proofs.Ytgjgonnlkponiaa
open Go.RowKit

def Tr (w : World) (e : Ending) (w' : World) : Prop := e = .returned (.bool true) ∧ Fr nob w w'

set_option maxRecDepth 100000 in
set_option maxHeartbeats 1000000 in
theorem tells_any (v : Value) (l : List Int) (s : ByteArray) (w : World) (h : RI w v l) : Calls Try.prog 3 #[v, .string s] w (Tr w) := by
  have R := Lib.hid h
  obtain ⟨a, b, off, cap, rfl, -, -, -⟩ := h
  obtain ⟨n, hn⟩ : ∃ n, n = l.length := ⟨_, rfl⟩
  rw [← hn] at R
  rw [← hn]
  have HN := Lib.hid hn
  clear hn
  go_enter Try.func3, Try.ntmps3
  go_wp2_with (go_at_call 7; refine stop ?_)
  refine Stop.go ((awake_any _).mono ?_)
  rintro e w1 ⟨rfl, f1⟩
  have F1 := Lib.hid f1
  have R1 := Lib.hid (R.out.fr f1)
  clear f1 R
  by_cases c1 : 200 < n
  · go_wp2
    go_ret
    exact ⟨rfl, F1.out⟩
  · by_cases c2 : 1000 < s.size
    · go_wp2
      go_ret
      exact ⟨rfl, F1.out⟩
    · go_wp2_with (go_at_call 8; refine stop ?_)
      refine Stop.go ((put_any _ l _ R1.out).mono ?_)
      rintro e w2 ⟨rfl, f2⟩
      obtain ⟨S, hS⟩ : ∃ S : ByteArray, S = ⟨(putL l).toArray⟩ := ⟨_, rfl⟩
      obtain ⟨E, hE⟩ : ∃ E, E = putE l := ⟨_, rfl⟩
      have B := Lib.hid (fun w v h => rput_any v l w h)
      unfold PT at B
      rw [← hS, ← hE] at B
      rw [← hS, ← hE]
      have F2 := Lib.hid (F1.out.step f2)
      have R2 := Lib.hid (R1.out.fr f2)
      clear f2 R1 F1 hS hE
      go_wp2_with (go_at_call 9; refine stop ?_)
      refine Stop.go ((B.out _ _ R2.out).mono ?_)
      rintro e w3 ⟨rfl, f3⟩
      have F3 := Lib.hid (F2.out.step f3)
      clear f3 R2 F2 B
      go_wp2_with (go_at_call 10; refine stop ?_)
      refine Stop.go ((get_any s _).mono ?_)
      rintro e w4 ⟨v4, rfl, hv4, f4⟩
      obtain ⟨G, hG⟩ : ∃ G, G = getE s.data.toList := ⟨_, rfl⟩
      have C := Lib.hid (fun w => rget_any s w (by omega))
      unfold GT at C
      rw [← hG] at C
      rw [← hG]
      have F4 := Lib.hid (F3.out.step f4)
      have V4 := Lib.hid hv4
      clear f4 hv4 F3 hG
      go_wp2_with (go_at_call 11; refine stop ?_)
      refine Stop.go ((C.out _).mono ?_)
      rintro e w5 ⟨v5, rfl, hv5, f5⟩
      have F5 := Lib.hid (F4.out.step f5)
      have V5 := Lib.hid hv5
      have V4' := Lib.hid (V4.out.fr f5)
      clear f5 hv5 F4 V4 C
      go_wp2_with (go_at_call 12; refine stop ?_)
      refine Stop.go ((ints_any _ _ _ _ _ V4'.out V5.out).mono ?_)
      rintro e w6 ⟨rfl, f6⟩
      have F6 := Lib.hid (F5.out.step f6)
      clear f6 F5
      go_wp2
      go_ret
      exact ⟨rfl, F6.out⟩

theorem tells_walk (a : Option Addr) (len cap : Nat) (X : Nat → Nat → Int) (s : ByteArray) (w : World) (h : NumsAt w a len cap [.i64] X) (_ : s.size ≤ maxLen) :
    Calls Try.prog 3 #[.slice a len cap, .string s] w fun e w' => e = .returned (.bool true) ∧ Below w.heap.size w w' := by
  obtain ⟨xs, _, hr⟩ := h.ints
  exact (tells_any _ xs s w hr).mono fun e w' ⟨h1, h2⟩ => ⟨h1, h2.below0⟩

end Go.Proofs.Ytgjgonnlkponiaa
