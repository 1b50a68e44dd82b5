/- StackTurns: the walk. -/
import Derived.Test.YtnbdomhikbfabaaDoesA
import Derived.Test.YtnbdomhikbfabaaOpen
namespace Go.Proofs.Ytnbdomhikbfabaa
open Go.RowKit

/-- The stack is one of the call's own, and nothing that was there has turned. -/
structure SO (w wr : World) (p : Nat) (most : Int) (xs : List Int) (v : Value) : Prop where
  s : ST wr p v most xs
  lo : w.heap.size ≤ p
  fr : Fr nob w wr
theorem SO.step {w wr w1 : World} {p : Nat} {most : Int} {xs ys : List Int} {v v' : Value} (h : SO w wr p most xs v) (hs : ST w1 p v' most ys) (hf : Fr (fun k => k = p ∨ v.ownBlock = some k) wr w1) : SO w w1 p most ys v' :=
  ⟨hs, h.lo, h.fr.keep hf fun i hi => Nat.le_trans h.lo (h.s.above i hi)⟩
theorem SO.keep {w wr w1 : World} {p : Nat} {most : Int} {xs : List Int} {v : Value} (h : SO w wr p most xs v) (hf : Fr nob wr w1) : SO w w1 p most xs v :=
  ⟨h.s.fr hf (fun x => x) (fun _ _ x => x), h.lo, h.fr.trans hf (fun _ _ x => x) (fun _ _ x => x)⟩

theorem take_snoc {xs : List Int} {k : Nat} {x : Int} (h : xs[k]? = some x) : xs.take (k + 1) = xs.take k ++ [x] := by
  rw [List.take_add_one, h]; rfl

set_option maxRecDepth 100000 in
set_option maxHeartbeats 1000000 in
theorem turns_some (a : Option Addr) (b off cap : Nat) (xs : List Int) (w : World) (h300 : xs.length ≤ 300) (hcap : xs.length ≤ cap) (hm : cap ≤ maxLen) (ha : xs = [] ∨ a = some ⟨b, off, none⟩)
    (hc : ∀ j x, xs[j]? = some x → w.cell? ⟨b, off + j, none⟩ = some (.int .i64 x)) :
    Calls Try.prog 4 #[.slice a xs.length cap] w fun e w' => e = .returned (.bool true) ∧ Fr nob w w' := by
  have HC := Lib.hid hc
  have HR : Hid (Rd w (.slice a xs.length cap) (xs.map (Value.int .i64))) := by
    refine ⟨a, cap, by simp, by simpa using hcap, hm, ?_⟩
    rcases ha with rfl | rfl
    · exact .inl rfl
    · refine .inr ⟨b, off, rfl, fun j u hu => ?_⟩
      simp only [List.getElem?_map, Option.map_eq_some_iff] at hu
      obtain ⟨x, hx, rfl⟩ := hu
      exact hc j x hx
  have HA := Lib.hid ha
  clear hc ha
  go_enter Try.func4, Try.ntmps4
  go_wp2_with (go_at_call 7; refine stop ?_)
  refine Stop.go ((awake_any w).mono ?_)
  rintro e w0 ⟨rfl, f0⟩
  go_wp2_with (go_at_call 8; refine stop ?_)
  refine Stop.go ((ints_new (xs.length : Int) w0).mono ?_)
  rintro e w1 ⟨rfl, rfl⟩
  have I0 : SO w (w0.alloc (.cells #[.int .i64 (xs.length : Int), .slice none 0 0] 57)) w0.heap.size xs.length [] (.slice none 0 0) := ⟨ST.new _ w0, f0.size, f0.alloc _⟩
  have hz0 := f0.size
  clear f0
  go_wp2_with fail
  go_loopg [5] xs.length (fun gk i wr => ∃ (k : Nat) (v : Value), k + gk = xs.length ∧ i = .int .i64 k ∧ SO w wr w0.heap.size xs.length (xs.take k) v)
  case atStart => exact ⟨0, _, Nat.zero_add _, rfl, I0⟩
  case round =>
    obtain ⟨k, v, hk, rfl, hI⟩ := hrel
    have hkl : k ≤ xs.length := by omega
    have HG := Lib.hid hk
    have I := Lib.hid hI
    clear hk hI I0
    by_cases hlt : k < xs.length
    · obtain ⟨x, hx⟩ : ∃ x, xs[k]? = some x := ⟨_, List.getElem?_eq_getElem hlt⟩
      obtain rfl := HA.out.resolve_left (fun h => by rw [h] at hlt; simp at hlt)
      have c1 := I.out.fr.cell_some (HC.out k x hx) (fun x => x)
      have HX := Lib.hid hx
      have hlk : (xs.take k).length = k := by simp; omega
      have HL := Lib.hid hlk
      clear hx hlk
      go_wp2_with (go_at_call 10; refine stop ?_)
      refine Stop.go ((push_room _ v xs.length x (xs.take k) wr I.out.s (by rw [HL.out]; omega) (by rw [HL.out]; omega)).mono ?_)
      rintro e w2 ⟨rfl, v2, s2, f2, -⟩
      have Z := Lib.hid (I.out.step s2 f2)
      clear s2 f2 c1
      go_wp2
      go_roundg (gk - 1)
      case measure => have := HG.out; omega
      case rel => exact ⟨k + 1, _, by have := HG.out; omega, by go_num, by rw [take_snoc HX.out]; exact Z.out⟩
    · have hkk : k = xs.length := by omega
      have J := I.out
      rw [hkk, List.take_length] at J
      have JH := Lib.hid J
      clear J
      go_wp2_with (go_at_call 10; refine stop ?_)
      refine Stop.go ((push_full _ v xs.length 0 xs wr JH.out.s (by omega)).mono ?_)
      rintro e w2 ⟨rfl, m2, rfl⟩
      go_wp2_with (go_at_call 18; refine stop ?_)
      refine Stop.go ((all_any _ v xs.length xs (wr.drewN m2) JH.out.s (by omega)).mono ?_)
      rintro e w3 ⟨va, rfl, oa, fa⟩
      have f3 : Fr nob wr w3 := ((Fr.refl nob wr).drewN m2).trans fa (fun _ _ x => x) (fun _ _ x => x)
      have K3 := Lib.hid (JH.out.keep f3)
      obtain ⟨aa, capa, rfl, -, -⟩ := owns_shape oa
      have OA := Lib.hid (Rd.of_owns oa)
      clear oa fa f3
      go_wp2_with (go_at_call 17; refine stop ?_)
      refine Stop.go ((same_any _ _ xs xs w3 OA.out (K3.out.fr.rd HR.out (fun _ _ x => x))).mono ?_)
      rintro e w4 ⟨rfl, m4, rfl⟩
      have hd : decide (xs = xs) = true := by simp
      rw [hd]
      have D0 := Lib.hid (K3.out.keep (w1 := w3.drewN m4) ((Fr.refl nob w3).drewN m4))
      have hstart : (xs.length = 0 ∧ (Value.int .i64 ((xs.length : Int) - 1)) = .int .i64 (-1)) ∨ ∃ m, xs.length = m + 1 ∧ (Value.int .i64 ((xs.length : Int) - 1)) = .int .i64 (m : Nat) := by
        cases h : xs.length with
        | zero => exact .inl ⟨rfl, rfl⟩
        | succ m => exact .inr ⟨m, rfl, by simp⟩
      have HS := Lib.hid hstart
      clear hstart K3 OA I JH hkk
      go_wp2_with fail
      go_loopg [6] xs.length (fun gk i wr => ∃ v, gk ≤ xs.length ∧ ((gk = 0 ∧ i = .int .i64 (-1)) ∨ ∃ m, gk = m + 1 ∧ i = .int .i64 (m : Nat)) ∧ SO w wr w0.heap.size xs.length (xs.take gk) v)
      case atStart => exact ⟨v, Nat.le_refl _, HS.out, by rw [List.take_length]; exact D0.out⟩
      case round =>
        obtain ⟨v, hgk, hi, hI⟩ := hrel
        have I := Lib.hid hI
        clear hI
        rcases hi with ⟨rfl, rfl⟩ | ⟨m, rfl, rfl⟩
        · have I1 : Hid (SO w wr w0.heap.size xs.length [] v) := I.out
          go_wp2_with (go_at_call 12; refine stop ?_)
          refine Stop.go ((pop_none _ v xs.length wr I1.out.s).mono ?_)
          rintro e w5 ⟨rfl, m5, rfl⟩
          go_wp2_with (go_at_call 14; refine stop ?_)
          refine Stop.go ((top_none _ v xs.length (wr.drewN m5) I1.out.s).mono ?_)
          rintro e w6 ⟨rfl, m6, rfl⟩
          go_wp2_with (go_at_call 18; refine stop ?_)
          refine Stop.go ((all_any _ v xs.length [] (wr.drewN (m5 + m6)) I1.out.s (by simp)).mono ?_)
          rintro e w7 ⟨va, rfl, oa, fa⟩
          obtain ⟨aa, capa, rfl, -, -⟩ := owns_shape oa
          have F7 := Lib.hid ((I1.out.fr.drewN (m5 + m6)).trans fa (U := nob) (fun _ _ x => x) (fun _ _ x => x))
          clear oa fa
          go_wp2
          go_ret
          exact ⟨rfl, F7.out⟩
        · obtain ⟨x, hx⟩ : ∃ x, xs[m]? = some x := ⟨_, List.getElem?_eq_getElem (by omega)⟩
          obtain rfl := HA.out.resolve_left (fun h => by rw [h] at hx; simp at hx)
          have J1 : Hid (SO w wr w0.heap.size xs.length (xs.take m ++ [x]) v) := by have := I.out; rw [take_snoc hx] at this; exact this
          have hml : (xs.take m).length = m := by simp; omega
          have HX := Lib.hid hx
          have HM := Lib.hid hml
          clear hx hml
          go_wp2_with (go_at_call 12; refine stop ?_)
          refine Stop.go ((pop_some _ v xs.length x (xs.take m) wr J1.out.s).mono ?_)
          rintro e w5 ⟨rfl, v5, s5, f5, -⟩
          have Z := Lib.hid (J1.out.step s5 (f5.mono (fun _ _ z => Or.inl z)))
          have c1 := Z.out.fr.cell_some (HC.out m x HX.out) (fun x => x)
          clear s5 f5
          have hidx0 : (0 : Int) ≤ (m : Int) := Int.natCast_nonneg _
          have hidx1 : (m : Int) < (xs.length : Int) := by omega
          go_wp2_with (go_at_call 16; refine stop ?_)
          refine Stop.go ((len_any _ v5 xs.length (xs.take m) w5 Z.out.s).mono ?_)
          rintro e w6 ⟨rfl, rfl⟩
          rw [HM.out]
          go_wp2
          go_roundg m
          case measure => omega
          case rel =>
            refine ⟨v5, by omega, ?_, Z.out⟩
            cases m with
            | zero => exact .inl ⟨rfl, rfl⟩
            | succ j => exact .inr ⟨j, rfl, by simp⟩

theorem turns_many (a : Option Addr) (len cap : Nat) (w : World) (h : 300 < len) : Calls Try.prog 4 #[.slice a len cap] w fun e w' => e = .returned (.bool true) ∧ Fr nob w w' := by
  go_enter Try.func4, Try.ntmps4
  go_wp2_with (go_at_call 7; refine stop ?_)
  refine Stop.go ((awake_any w).mono ?_)
  rintro e w0 ⟨rfl, f0⟩
  go_wp2
  go_ret
  exact ⟨rfl, f0⟩

/-- A slice of numbers as a list. -/
theorem NumsAt.list {w : World} {a : Option Addr} {len cap : Nat} {k : IntKind} {X : Nat → Nat → Int} (h : NumsAt w a len cap [k] X) :
    ∃ (b off : Nat) (xs : List Int), xs.length = len ∧ len ≤ cap ∧ cap ≤ maxLen ∧ (xs = [] ∨ a = some ⟨b, off, none⟩) ∧ (∀ j x, xs[j]? = some x → w.cell? ⟨b, off + j, none⟩ = some (.int k x)) ∧ ∀ x ∈ xs, (Lit.int k x).wf = true := by
  obtain ⟨h1, h2, h3⟩ := h
  rcases h3 with rfl | ⟨b, off, rfl, _, h4⟩
  · exact ⟨0, 0, [], rfl, h1, h2, .inl rfl, by simp, by simp⟩
  · refine ⟨b, off, (List.range len).map fun i => X i 0, by simp, h1, h2, .inr rfl, fun j x hj => ?_, fun x hx => ?_⟩
    · simp only [List.getElem?_map, Option.map_eq_some_iff] at hj
      obtain ⟨i, hi, rfl⟩ := hj
      obtain ⟨hj, hi'⟩ := List.getElem?_eq_some_iff.1 hi
      simp at hi' hj
      subst hi'
      simpa using (h4 j hj 0 k rfl).1
    · obtain ⟨i, hi, rfl⟩ := List.mem_map.1 hx
      exact (h4 i (by simpa using hi) 0 k rfl).2

theorem turns_walk (a : Option Addr) (len cap : Nat) (X : Nat → Nat → Int) (w : World) (h : NumsAt w a len cap [.i64] X) :
    Calls Try.prog 4 #[.slice a len cap] w fun e w' => e = .returned (.bool true) ∧ Below w.heap.size w w' := by
  have key : Calls Try.prog 4 #[.slice a len cap] w fun e w' => e = .returned (.bool true) ∧ Fr nob w w' := by
    by_cases h2 : 300 < len
    · exact turns_many a len cap w h2
    · obtain ⟨b, off, xs, rfl, h3, h4, h5, h6, -⟩ := h.list
      exact turns_some a b off cap xs w (by omega) h3 h4 h5 h6
  exact key.mono fun e w' ⟨he, hf⟩ => ⟨he, hf.below0⟩

end Go.Proofs.Ytnbdomhikbfabaa
