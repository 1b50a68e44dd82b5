/- StackBack: the walk. -/
import Derived.Test.YtnbdomhikbfabaaBackA
namespace Go.Proofs.Ytnbdomhikbfabaa
open Go.RowKit

set_option maxRecDepth 100000 in
set_option maxHeartbeats 2000000 in
theorem back_some (a : Option Addr) (b off cap : Nat) (n : Int) (xs : List Int) (w : World) (h300 : xs.length ≤ 300) (hcap : xs.length ≤ cap) (hm : cap ≤ maxLen) (ha : xs = [] ∨ a = some ⟨b, off, none⟩)
    (hc : ∀ j x, xs[j]? = some x → w.cell? ⟨b, off + j, none⟩ = some (.int .i64 x)) :
    Calls Try.prog 5 #[.slice a xs.length cap, .int .i64 n] w fun e w' => e = .returned (.bool true) ∧ Fr nob w w' := by
  have HC := Lib.hid hc
  have HR : Hid (Rd w (.slice a xs.length cap) (xs.map (Value.int .i64))) := by
    refine ⟨a, cap, by simp, by simpa using hcap, hm, ?_⟩
    rcases ha with rfl | rfl
    · exact .inl rfl
    · refine .inr ⟨b, off, rfl, fun j u hu => ?_⟩
      simp only [List.getElem?_map, Option.map_eq_some_iff] at hu
      obtain ⟨x, hx, rfl⟩ := hu
      exact hc j x hx
  have HA := Lib.hid ha
  clear hc ha
  go_enter Try.func5, Try.ntmps5
  go_wp2_with (go_at_call 7; refine stop ?_)
  refine Stop.go ((awake_any w).mono ?_)
  rintro e w0 ⟨rfl, f0⟩
  go_wp2_with (go_at_call 8; refine stop ?_)
  refine Stop.go ((ints_new (xs.length : Int) w0).mono ?_)
  rintro e w1 ⟨rfl, rfl⟩
  have I0 : SO w (w0.alloc (.cells #[.int .i64 (xs.length : Int), .slice none 0 0] 57)) w0.heap.size xs.length [] (.slice none 0 0) := ⟨ST.new _ w0, f0.size, f0.alloc _⟩
  have hz0 := f0.size
  clear f0
  go_wp2_with fail
  go_loopg [7] xs.length (fun gk i wr => ∃ (k : Nat) (v : Value), k + gk = xs.length ∧ i = .int .i64 k ∧ SO w wr w0.heap.size xs.length (xs.take k) v)
  case atStart => exact ⟨0, _, Nat.zero_add _, rfl, I0⟩
  case round =>
    obtain ⟨k, v, hk, rfl, hI⟩ := hrel
    have hkl : k ≤ xs.length := by omega
    have HG := Lib.hid hk
    have I := Lib.hid hI
    clear hk hI I0
    by_cases hlt : k < xs.length
    · obtain ⟨x, hx⟩ : ∃ x, xs[k]? = some x := ⟨_, List.getElem?_eq_getElem hlt⟩
      obtain rfl := HA.out.resolve_left (fun h => by rw [h] at hlt; simp at hlt)
      have c1 := I.out.fr.cell_some (HC.out k x hx) (fun x => x)
      have HX := Lib.hid hx
      have hlk : (xs.take k).length = k := by simp; omega
      have HL := Lib.hid hlk
      clear hx hlk
      go_wp2_with (go_at_call 10; refine stop ?_)
      refine Stop.go ((push_room _ v xs.length x (xs.take k) wr I.out.s (by rw [HL.out]; omega) (by rw [HL.out]; omega)).mono ?_)
      rintro e w2 ⟨rfl, v2, s2, f2, -⟩
      have Z := Lib.hid (I.out.step s2 f2)
      clear s2 f2 c1
      go_wp2
      go_roundg (gk - 1)
      case measure => have := HG.out; omega
      case rel => exact ⟨k + 1, _, by have := HG.out; omega, by go_num, by rw [take_snoc HX.out]; exact Z.out⟩
    · have hkk : k = xs.length := by omega
      have J := I.out
      rw [hkk, List.take_length] at J
      have G0 : SG w wr w0.heap.size xs.length xs v (.slice none 0 0) [] := ⟨J, World.ownsRow_nil _ _ _ _, fun k _ h => by simp [Value.ownBlock] at h⟩
      have GH := Lib.hid G0
      clear J hkk G0 I
      go_wp2_with fail
      go_loopg [8, 9] xs.length (fun gk g i wr => ∃ (k : Nat) (v : Value) (ag : Option Addr) (cg : Nat) (ys : List Int), k + gk = xs.length ∧ i = .int .i64 k ∧ g = .slice ag ys.length cg ∧ ys.length = k ∧ (∀ m, m < k → ys[m]? = xs[xs.length - 1 - m]?) ∧ SG w wr w0.heap.size xs.length (xs.take (xs.length - k)) v (.slice ag ys.length cg) ys)
      case atStart => exact ⟨0, v, none, 0, [], Nat.zero_add _, rfl, rfl, rfl, fun m h => absurd h (by omega), by simpa using GH.out⟩
      case round =>
        obtain ⟨k, v, ag, cg, ys, hk, rfl, rfl, hyk, hym, hI⟩ := hrel
        have hkl : k ≤ xs.length := by omega
        have HG := Lib.hid hk
        have HK := Lib.hid hyk
        have HM := Lib.hid hym
        have I := Lib.hid hI
        clear hk hyk hym hI GH
        by_cases hlt : (k : Int) < n ∧ k < xs.length
        · obtain ⟨hn, hlt⟩ := hlt
          obtain ⟨x, hx⟩ : ∃ x, xs[xs.length - 1 - k]? = some x := ⟨_, List.getElem?_eq_getElem (by omega)⟩
          have I1 := I.out
          rw [show xs.length - k = (xs.length - 1 - k) + 1 from by omega, take_snoc hx] at I1
          have I2 := Lib.hid I1
          have HX := Lib.hid hx
          clear hx I1
          go_wp2_with (go_at_call 12; refine stop ?_)
          refine Stop.go ((pop_some _ v xs.length x (xs.take (xs.length - 1 - k)) wr I2.out.so.s).mono ?_)
          rintro e w5 ⟨rfl, v5, s5, f5, n5⟩
          have Z := Lib.hid (I2.out.step s5 (f5.mono (fun _ _ z => Or.inl z)) (.inl n5))
          clear s5 f5 n5
          go_wp2_with (at_builtin; refine stop ?_)
          refine Stop.go (wpList_app rfl (.tmp 56) (.tmp 58) rfl appInt rfl (base := w0.heap.size + 1) (n := ys.length) (xs := ys.map (Value.int .i64)) (World.ownsRow.alloc Z.out.g _) (m := 1) (news := [.int .i64 x]) rfl rfl (Src.one _ _ _ rfl) ?p4 ?p5 ?p6 ?p7)
          case p4 => have := HK.out; omega
          case p5 => have := HK.out; simp only [maxLen]; omega
          case p6 => have := Z.out.so.s.lt; simp; omega
          case p7 =>
            intro g2 w6 ho hg hv
            obtain ⟨a2, c2, rfl, -, -⟩ := owns_shape ho
            have Y := Lib.hid (Z.out.more ho hg (by simpa [Act.eval] using hv))
            clear ho hg hv
            go_wp2
            go_roundg (gk - 1)
            case measure => have := HG.out; omega
            case rel =>
              refine ⟨k + 1, v5, a2, c2, ys ++ [x], by have := HG.out; omega, by go_num, by simp, by simp [HK.out], fun m hm => ?_, ?_⟩
              · by_cases hmk : m < k
                · rw [List.getElem?_append_left (by have := HK.out; omega)]
                  exact HM.out m hmk
                · have : m = k := by omega
                  subst this
                  rw [HX.out, List.getElem?_append_right (by rw [HK.out]; omega), HK.out]
                  simp
              · have := Y.out
                rw [show xs.length - (k + 1) = xs.length - 1 - k from by omega]
                simpa using this
        · have hstart : (ys.length = 0 ∧ (Value.int .i64 ((ys.length : Int) - 1)) = .int .i64 (-1)) ∨ ∃ m, ys.length = m + 1 ∧ (Value.int .i64 ((ys.length : Int) - 1)) = .int .i64 (m : Nat) := by
            cases ys.length with
            | zero => exact .inl ⟨rfl, rfl⟩
            | succ m => exact .inr ⟨m, rfl, by simp⟩
          have HS := Lib.hid hstart
          have hyl1 : ys.length ≤ k := Nat.le_of_eq HK.out
          have hyl2 : k ≤ ys.length := Nat.le_of_eq HK.out.symm
          have hkn : ¬ ((k : Int) < n) ∨ ¬ (k < xs.length) := by omega
          have I0 : SG w wr w0.heap.size xs.length (xs.take (xs.length - ys.length)) v (.slice ag ys.length cg) ys := by rw [HK.out]; have := I.out; rwa [HK.out] at this
          have IS := Lib.hid I0
          clear hstart hlt I0 I
          by_cases hn : (k : Int) < n
          all_goals
            go_wp2_with fail
            go_loopg [12] ys.length (fun gk i wr => ∃ v, gk ≤ ys.length ∧ ((gk = 0 ∧ i = .int .i64 (-1)) ∨ ∃ m, gk = m + 1 ∧ i = .int .i64 (m : Nat)) ∧ SG w wr w0.heap.size xs.length (xs.take (xs.length - gk)) v (.slice ag ys.length cg) ys)
            case atStart => exact ⟨v, Nat.le_refl _, HS.out, IS.out⟩
            case round =>
              clear IS HS
              obtain ⟨wa, rfl⟩ : ∃ wa : World, wa = wr := ⟨_, rfl⟩
              obtain ⟨v, hgk, hi, hI⟩ := hrel
              have I := Lib.hid hI
              clear hI
              rcases hi with ⟨rfl, rfl⟩ | ⟨m, rfl, rfl⟩
              · have I1 : Hid (SO w wa w0.heap.size xs.length xs v) := by have := I.out.so; rwa [Nat.sub_zero, List.take_length] at this
                go_wp2_with (go_at_call 18; refine stop ?_)
                refine Stop.go ((all_any _ v xs.length xs wa I1.out.s (by omega)).mono ?_)
                rintro e w3 ⟨va, rfl, oa, fa⟩
                have K3 := Lib.hid (I1.out.keep fa)
                obtain ⟨aa, capa, rfl, -, hmx⟩ := owns_shape oa
                have OA := Lib.hid oa
                have hB := I1.out.s.lt
                have hvB : ∀ q, v.ownBlock = some q → q < wa.heap.size := fun q hq => (I1.out.s.own_ne q hq).2
                have HV := Lib.hid hvB
                clear oa fa hvB
                go_wp2_with (go_at_call 17; refine stop ?_)
                refine Stop.go ((same_any _ _ xs xs w3 (Rd.of_owns OA.out) (K3.out.fr.rd HR.out (fun _ _ x => x))).mono ?_)
                rintro e w4 ⟨rfl, m4, rfl⟩
                have hd : decide (xs = xs) = true := by simp
                rw [hd]
                have K4 := Lib.hid (K3.out.keep (w1 := w3.drewN m4) ((Fr.refl nob w3).drewN m4))
                have O4 := Lib.hid (show (w3.drewN m4).ownsRow wa.heap.size 3 1 (.slice aa xs.length capa) xs.length (xs.map (Value.int .i64)) from OA.out)
                clear K3 OA hd
                unfold maxLen at hmx
                go_wp2_with fail
                go_loopg [14] xs.length (fun gk i wr => ∃ (j : Nat) (zs : List Int), j + gk = xs.length ∧ i = .int .i64 j ∧ zs.length = xs.length ∧ wr.ownsRow wa.heap.size 3 1 (.slice aa xs.length capa) xs.length (zs.map (Value.int .i64)) ∧ SO w wr w0.heap.size xs.length xs v)
                case atStart => exact ⟨0, xs, Nat.zero_add _, rfl, rfl, O4.out, K4.out⟩
                case round =>
                  obtain ⟨j, zs, hj, rfl, hzl, hoz, hso⟩ := hrel
                  have hjl : j ≤ xs.length := by omega
                  have HJ := Lib.hid hj
                  have HZ := Lib.hid hzl
                  have OZ := Lib.hid hoz
                  have SOZ := Lib.hid hso
                  clear hj hzl hoz hso K4 O4
                  by_cases hlt : j < xs.length
                  · obtain ⟨g, rfl, hg, -, hcell⟩ := (owns_reads OZ.out).resolve_left (fun h => by have := HZ.out; rw [h] at this; simp at this; omega)
                    have hjz : j < zs.length := by have := HZ.out; omega
                    obtain ⟨z, hz⟩ : ∃ z, zs[j] = z := ⟨_, rfl⟩
                    have c1 := hcell j hjz
                    rw [hz] at c1
                    have c2 := OZ.out.frozenAt j
                    have ST1 := Lib.hid (OZ.out.stored j (.int .i64 (wrap64 (z + 1)))).1
                    have SO1 := Lib.hid (SOZ.out.poke (B := wa.heap.size) (zs := zs) (va := .slice (some ⟨g, 0, none⟩) xs.length capa) (by rw [HZ.out]; exact OZ.out) hB HV.out ⟨g, j, none⟩ hg (.int .i64 (wrap64 (z + 1))))
                    clear hz hcell
                    go_wp2
                    go_roundg (gk - 1)
                    case measure => have := HJ.out; omega
                    case rel => exact ⟨j + 1, zs.set j (wrap64 (z + 1)), by have := HJ.out; omega, by go_num, by rw [List.length_set]; exact HZ.out, by rw [List.map_set]; exact ST1.out, SO1.out⟩
                  · go_wp2_with (go_at_call 18; refine stop ?_)
                    refine Stop.go ((all_any _ v xs.length xs wr SOZ.out.s (by omega)).mono ?_)
                    rintro e w7 ⟨vb, rfl, ob, fb⟩
                    obtain ⟨ab, capb, rfl, -, -⟩ := owns_shape ob
                    have OB := Lib.hid ob
                    have K7 := Lib.hid (SOZ.out.keep fb)
                    clear ob fb
                    go_wp2_with (go_at_call 17; refine stop ?_)
                    refine Stop.go ((same_any _ _ xs xs w7 (Rd.of_owns OB.out) (K7.out.fr.rd HR.out (fun _ _ x => x))).mono ?_)
                    rintro e w8 ⟨rfl, m8, rfl⟩
                    have hd : decide (xs = xs) = true := by simp
                    rw [hd]
                    go_wp2
                    go_ret
                    exact ⟨rfl, K7.out.fr.drewN _⟩
              · obtain ⟨x, hx⟩ : ∃ x, xs[xs.length - 1 - m]? = some x := ⟨_, List.getElem?_eq_getElem (by omega)⟩
                have hy : ys[m]? = some x := by rw [HM.out m (by omega)]; exact hx
                obtain ⟨g, rfl, -, -, hcell⟩ := (owns_reads I.out.g).resolve_left (fun h => by rw [h] at hy; simp at hy)
                have hml : m < ys.length := by omega
                have c1 := hcell m hml
                rw [show ys[m] = x from by rw [List.getElem?_eq_getElem hml] at hy; exact Option.some.inj hy] at c1
                have hlk : (xs.take (xs.length - (m + 1))).length = xs.length - (m + 1) := by simp
                have HL := Lib.hid hlk
                have HX := Lib.hid hx
                have hidx0 : (0 : Int) ≤ (m : Int) := Int.natCast_nonneg _
                have hidx1 : (m : Int) < (ys.length : Int) := by omega
                clear hlk hx hy hcell
                go_wp2_with (go_at_call 10; refine stop ?_)
                refine Stop.go ((push_room _ v xs.length x (xs.take (xs.length - (m + 1))) wa I.out.so.s (by rw [HL.out]; omega) (by rw [HL.out]; omega)).mono ?_)
                rintro e w2 ⟨rfl, v2, s2, f2, n2⟩
                have Z := Lib.hid (I.out.step s2 f2 n2)
                clear s2 f2 n2 c1
                go_wp2
                go_roundg m
                case measure => omega
                case rel =>
                  refine ⟨v2, by omega, ?_, ?_⟩
                  · cases m with
                    | zero => exact .inl ⟨rfl, rfl⟩
                    | succ j => exact .inr ⟨j, rfl, by simp⟩
                  · have := Z.out
                    rw [show xs.length - (m + 1) = xs.length - 1 - m from by omega, ← take_snoc HX.out, show xs.length - 1 - m + 1 = xs.length - m from by omega] at this
                    exact this

theorem back_many (a : Option Addr) (len cap : Nat) (n : Int) (w : World) (h : 300 < len) : Calls Try.prog 5 #[.slice a len cap, .int .i64 n] w fun e w' => e = .returned (.bool true) ∧ Fr nob w w' := by
  go_enter Try.func5, Try.ntmps5
  go_wp2_with (go_at_call 7; refine stop ?_)
  refine Stop.go ((awake_any w).mono ?_)
  rintro e w0 ⟨rfl, f0⟩
  go_wp2
  go_ret
  exact ⟨rfl, f0⟩

theorem back_walk (a : Option Addr) (len cap : Nat) (X : Nat → Nat → Int) (n : Int) (w : World) (h : NumsAt w a len cap [.i64] X) (_hn : (Lit.int .i64 n).wf = true) :
    Calls Try.prog 5 #[.slice a len cap, .int .i64 n] w fun e w' => e = .returned (.bool true) ∧ Below w.heap.size w w' := by
  have key : Calls Try.prog 5 #[.slice a len cap, .int .i64 n] w fun e w' => e = .returned (.bool true) ∧ Fr nob w w' := by
    by_cases h2 : 300 < len
    · exact back_many a len cap n w h2
    · obtain ⟨b, off, xs, rfl, h3, h4, h5, h6, -⟩ := h.list
      exact back_some a b off cap n xs w (by omega) h3 h4 h5 h6
  exact key.mono fun e w' ⟨he, hf⟩ => ⟨he, hf.below0⟩

end Go.Proofs.Ytnbdomhikbfabaa
