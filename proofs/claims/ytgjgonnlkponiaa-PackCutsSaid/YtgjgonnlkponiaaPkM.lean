/- PackOwn. -/
import Derived.Test.YtgjgonnlkponiaaPkL
namespace Go.Proofs.Ytgjgonnlkponiaa
open Go.RowKit

theorem sdata {S T : ByteArray} (h : S.data.toList = T.data.toList) : S = T := by
  obtain ⟨⟨a⟩⟩ := S
  obtain ⟨⟨b⟩⟩ := T
  simp at h
  rw [h]
theorem PT.back {s : ByteArray} (hz : getE s.data.toList = 0) {w w' : World} {e : Ending} (g : PT (getL s.data.toList) w e w') : e = .returned (.tuple #[.string s, .int .i64 0]) ∧ Fr nob w w' := by
  obtain ⟨h1, h2⟩ := g
  obtain ⟨z1, z2, z3, z4⟩ := get_zero hz
  rw [z3, z4] at h1
  exact ⟨h1, h2⟩
theorem all_at {l : List Int} (h : l.all okN = true) {k : Nat} {x : Int} (hx : l[k]? = some x) : ¬ x < -1 ∧ ¬ 2147483647 < x := by
  have := List.all_eq_true.1 h x (List.mem_of_getElem? hx)
  simp [okN] at this
  omega

set_option maxRecDepth 100000 in
set_option maxHeartbeats 1000000 in
theorem own_any (s : ByteArray) (w : World) : Calls Try.prog 5 #[.string s] w (Tr w) := by
  go_enter Try.func5, Try.ntmps5
  go_wp2_with (go_at_call 7; refine stop ?_)
  refine Stop.go ((awake_any _).mono ?_)
  rintro e w1 ⟨rfl, f1⟩
  have F1 := Lib.hid f1
  clear f1
  by_cases c1 : 1000 < s.size
  · go_wp2
    go_ret
    exact ⟨rfl, F1.out⟩
  · go_wp2_with (go_at_call 10; refine stop ?_)
    refine Stop.go ((get_any s _).mono ?_)
    rintro e w2 ⟨v, rfl, hv, f2⟩
    have F2 := Lib.hid (F1.out.step f2)
    have V2 := Lib.hid hv
    clear f2 F1 hv
    rcases get_kinds s.data.toList with hz | hz | hz
    · have Z := Lib.hid (get_zero hz)
      have HZ := Lib.hid hz
      have V2' := V2.out
      rw [hz]
      obtain ⟨a, b, off, cap, rfl, -, -, h3⟩ := V2'
      have H := Lib.hid h3
      obtain ⟨l, hl⟩ : ∃ l, l = getL s.data.toList := ⟨_, rfl⟩
      rw [← hl] at V2 Z H
      rw [← hl]
      have HL := Lib.hid hl
      obtain ⟨n, hn⟩ : ∃ n, n = l.length := ⟨_, rfl⟩
      rw [← hn] at V2
      rw [← hn]
      have HN := Lib.hid hn
      have hnb : n ≤ 100000 := by rw [hn]; exact Z.out.2.1
      clear hz h3 hl hn
      go_wp2_with fail
      go_loopg [6] n (fun gk i wr => ∃ k : Nat, k + gk = n ∧ i = .int .i64 k ∧ wr = w2)
      case atStart => exact ⟨0, Nat.zero_add _, rfl, rfl⟩
      case round =>
        obtain ⟨k, hk, rfl, rfl⟩ := hrel
        have HK := Lib.hid hk
        have hkl : k ≤ n := by omega
        clear hk
        by_cases hlt : k < n
        · obtain ⟨x, hx⟩ : ∃ x, l[k]? = some x := ⟨_, List.getElem?_eq_getElem (by have := HN.out; omega)⟩
          obtain rfl := H.out.addr hx
          have d0 := H.out.2 k x hx
          obtain ⟨hlo, hhi⟩ := all_at Z.out.1 hx
          clear hx
          have hidx0 : (0 : Int) ≤ (k : Int) := Int.natCast_nonneg _
          have hidx1 : (k : Int) < (n : Int) := by omega
          go_wp2
          go_roundg (gk - 1)
          case measure => have := HK.out; omega
          case rel => exact ⟨k + 1, by have := HK.out; omega, by go_num, rfl⟩
        · clear HK
          go_wp2_with (go_at_call 8; refine stop ?_)
          refine Stop.go ((put_any _ l _ V2.out).mono ?_)
          intro e w4 g4
          rw [HL.out] at g4
          obtain ⟨rfl, f4⟩ := PT.back HZ.out g4
          have F4 := Lib.hid (F2.out.step f4)
          clear g4 f4
          go_wp2
          go_ret
          exact ⟨rfl, F4.out⟩
    · have hn := getL_err (l := s.data.toList) (by rw [hz]; decide)
      have V2' := V2.out
      rw [hn] at V2'
      obtain ⟨a, b, off, cap, rfl, -⟩ := V2'
      rw [hz]
      simp only [List.length_nil]
      clear V2 hz hn
      go_wp2
      go_ret
      exact ⟨rfl, F2.out⟩
    · have hn := getL_err (l := s.data.toList) (by rw [hz]; decide)
      have V2' := V2.out
      rw [hn] at V2'
      obtain ⟨a, b, off, cap, rfl, -⟩ := V2'
      rw [hz]
      simp only [List.length_nil]
      clear V2 hz hn
      go_wp2
      go_ret
      exact ⟨rfl, F2.out⟩

theorem own_walk (s : ByteArray) (w : World) (_ : s.size ≤ maxLen) : Calls Try.prog 5 #[.string s] w fun e w' => e = .returned (.bool true) ∧ Below w.heap.size w w' :=
  (own_any s w).mono fun _ _ ⟨h1, h2⟩ => ⟨h1, h2.below0⟩

end Go.Proofs.Ytgjgonnlkponiaa
