/- StackTypes: the walk. -/
import Derived.Test.YtnbdomhikbfabaaChoC
import Derived.Test.YtnbdomhikbfabaaTurnsA
namespace Go.Proofs.Ytnbdomhikbfabaa
open Go.RowKit

structure TO (w wr : World) (p : Nat) (most : Int) (xs : List Ch) (v : Value) : Prop where
  s : TC wr p v most xs
  lo : w.heap.size ≤ p
  fr : Fr nob w wr
theorem TO.step {w wr w1 : World} {p : Nat} {most : Int} {xs ys : List Ch} {v v' : Value} (h : TO w wr p most xs v) (hs : TC w1 p v' most ys) (hf : Fr (fun k => k = p ∨ v.ownBlock = some k) wr w1) : TO w w1 p most ys v' :=
  ⟨hs, h.lo, h.fr.keep hf fun i hi => Nat.le_trans h.lo (h.s.above i hi)⟩
theorem TO.keep {w wr w1 : World} {p : Nat} {most : Int} {xs : List Ch} {v : Value} (h : TO w wr p most xs v) (hf : Fr nob wr w1) : TO w w1 p most xs v :=
  ⟨h.s.fr hf (fun x => x) (fun _ _ x => x), h.lo, h.fr.trans hf (fun _ _ x => x) (fun _ _ x => x)⟩

/-- How many there is room for. -/
def roomOf (most : Int) (n : Nat) : Nat := (max 0 (min most n)).toNat
theorem pushed_take {most : Int} {xs : List Ch} {k : Nat} {x : Ch} (hx : xs[k]? = some x) : pushedC most x (xs.take (min k (roomOf most xs.length))) = xs.take (min (k + 1) (roomOf most xs.length)) ∧ ((((xs.take (min k (roomOf most xs.length))).length : Int) < most) ↔ (k : Int) < roomOf most xs.length) := by
  have hk := (List.getElem?_eq_some_iff.1 hx).1
  have hl : (xs.take (min k (roomOf most xs.length))).length = min k (roomOf most xs.length) := by rw [List.length_take]; omega
  have hr : roomOf most xs.length ≤ xs.length := by unfold roomOf; omega
  unfold pushedC
  rw [hl]
  have e : ((min k (roomOf most xs.length) : Nat) : Int) < most ↔ (k : Int) < roomOf most xs.length := by unfold roomOf; omega
  refine ⟨?_, e⟩
  by_cases h : (k : Int) < roomOf most xs.length
  · rw [if_pos (e.2 h), Nat.min_eq_left (by omega), Nat.min_eq_left (by omega), List.take_add_one, hx]
    rfl
  · rw [if_neg (fun z => h (e.1 z)), Nat.min_eq_right (by omega), Nat.min_eq_right (by omega)]

set_option maxRecDepth 100000 in
set_option maxHeartbeats 2000000 in
theorem types_some (a : Option Addr) (b off cap : Nat) (most : Int) (xs : List Ch) (w : World) (h300 : xs.length ≤ 300) (ha : xs = [] ∨ a = some ⟨b, off, none⟩)
    (hc : ∀ j x, xs[j]? = some x → w.cell? ⟨b, off + j * 3, none⟩ = some (.int .i64 x.1) ∧ w.cell? ⟨b, off + j * 3 + 1, none⟩ = some (.int .i64 x.2.1) ∧ w.cell? ⟨b, off + j * 3 + 2, none⟩ = some (.int .i64 x.2.2)) :
    Calls Try.prog 6 #[.slice a xs.length cap, .int .i64 most] w fun e w' => e = .returned (.bool true) ∧ Fr nob w w' := by
  have HC := Lib.hid hc
  have HA := Lib.hid ha
  clear hc ha
  go_enter Try.func6, Try.ntmps6
  go_wp2_with (go_at_call 7; refine stop ?_)
  refine Stop.go ((awake_any w).mono ?_)
  rintro e w0 ⟨rfl, f0⟩
  go_wp2_with (go_at_call 19; refine stop ?_)
  refine Stop.go ((newc_any most w0).mono ?_)
  rintro e w1 ⟨rfl, rfl⟩
  have I0 : TO w (w0.alloc (.cells #[.int .i64 most, .slice none 0 0] 60)) w0.heap.size most [] (.slice none 0 0) := ⟨TC.new _ w0, f0.size, f0.alloc _⟩
  have hz0 := f0.size
  clear f0
  obtain ⟨room, hroom⟩ : ∃ r, roomOf most xs.length = r := ⟨_, rfl⟩
  have hr0 : room ≤ xs.length := by rw [← hroom]; unfold roomOf; omega
  have HRM := Lib.hid hroom
  have HI0 := Lib.hid I0
  clear hroom I0
  go_upto_region 9 with fail
  go_cut [7] (fun s7 wx => s7 = .int .i64 (room : Nat) ∧ TO w wx w0.heap.size most [] (.slice none 0 0))
  case first =>
    go_wp2_with fail
    all_goals
      go_meet
      refine ⟨?_, HI0.out⟩
      rw [← HRM.out]
      unfold roomOf
      congr 1
      omega
  case rest =>
    obtain ⟨rfl, hI⟩ := hcut
    have I0 := Lib.hid hI
    clear hI HI0
    go_wp2_with fail
    go_loopg [8] xs.length (fun gk i wr => ∃ (k : Nat) (v : Value), k + gk = xs.length ∧ i = .int .i64 k ∧ TO w wr w0.heap.size most (xs.take (min k room)) v)
    case atStart => exact ⟨0, _, Nat.zero_add _, rfl, by simpa using I0.out⟩
    case round =>
      obtain ⟨k, v, hk, rfl, hI⟩ := hrel
      have hkl : k ≤ xs.length := by omega
      have HG := Lib.hid hk
      have I := Lib.hid hI
      clear hk hI I0
      by_cases hlt : k < xs.length
      · obtain ⟨x, hx⟩ : ∃ x, xs[k]? = some x := ⟨_, List.getElem?_eq_getElem hlt⟩
        obtain rfl := HA.out.resolve_left (fun h => by rw [h] at hlt; simp at hlt)
        obtain ⟨d0, d1, d2⟩ := HC.out k x hx
        have c0 := I.out.fr.cell_some d0 (fun x => x)
        have c1 := I.out.fr.cell_some d1 (fun x => x)
        have c2 := I.out.fr.cell_some d2 (fun x => x)
        have HX := Lib.hid hx
        have hl : (xs.take (min k room)).length ≤ 300 := by rw [List.length_take]; omega
        obtain ⟨t, ht⟩ : ∃ t, decide ((k : Int) < room) = t := ⟨_, rfl⟩
        clear hx d0 d1 d2
        go_wp2_with (go_at_call 20; refine stop ?_)
        refine Stop.go ((pushc_any _ v most x (xs.take (min k room)) wr I.out.s (by omega)).mono ?_)
        rintro e w2 ⟨rfl, v2, s2, f2⟩
        have PT := pushed_take (most := most) HX.out
        rw [HRM.out] at PT
        have e1 : decide (((xs.take (min k room)).length : Int) < most) = decide ((k : Int) < room) := decide_eq_decide.2 PT.2
        rw [e1]
        rw [PT.1] at s2
        have Z := Lib.hid (I.out.step s2 f2)
        clear s2 f2 c0 c1 c2 PT e1 ht
        go_wp2
        go_roundg (gk - 1)
        case measure => have := HG.out; omega
        case rel => exact ⟨k + 1, _, by have := HG.out; omega, by go_num, Z.out⟩
      · have J : Hid (TO w wr w0.heap.size most (xs.take room) v) := by have := I.out; rwa [Nat.min_eq_right (by omega)] at this
        have hrl : (xs.take room).length = room := by rw [List.length_take]; omega
        have HL := Lib.hid hrl
        clear I hrl
        go_wp2_with (go_at_call 21; refine stop ?_)
        refine Stop.go ((allc_any _ v most (xs.take room) wr J.out.s (by rw [HL.out]; omega)).mono ?_)
        rintro e w3 ⟨va, rfl, oa, fa⟩
        obtain ⟨aa, capa, rfl, -, -⟩ := owns_shape oa
        rw [HL.out] at oa ⊢
        have OA := Lib.hid (ownsRow_base (b' := w0.heap.size + 1) oa (fun k hk => by have := (oa.lt k hk).1; have := J.out.s.lt; omega))
        have K3 := Lib.hid (J.out.keep fa)
        clear oa fa
        go_wp2_with (go_at_call 22; refine stop ?_)
        refine Stop.go ((lenc_any _ v most (xs.take room) w3 K3.out.s).mono ?_)
        rintro e w4 ⟨rfl, rfl⟩
        rw [HL.out]
        have hstart : (room = 0 ∧ (Value.int .i64 ((room : Int) - 1)) = .int .i64 (-1)) ∨ ∃ m, room = m + 1 ∧ (Value.int .i64 ((room : Int) - 1)) = .int .i64 (m : Nat) := by
          cases room with
          | zero => exact .inl ⟨rfl, rfl⟩
          | succ m => exact .inr ⟨m, rfl, by simp⟩
        have HS := Lib.hid hstart
        clear hstart J
        go_wp2_with fail
        go_loopg [10] room (fun gk i wr => ∃ v, gk ≤ room ∧ ((gk = 0 ∧ i = .int .i64 (-1)) ∨ ∃ m, gk = m + 1 ∧ i = .int .i64 (m : Nat)) ∧ TO w wr w0.heap.size most (xs.take gk) v ∧ wr.ownsRow (w0.heap.size + 1) 50 3 (.slice aa room capa) room (cl (xs.take room)))
        case atStart => exact ⟨v, Nat.le_refl _, HS.out, K3.out, OA.out⟩
        case round =>
          obtain ⟨v, hgk, hi, hI, hO⟩ := hrel
          have I := Lib.hid hI
          have O := Lib.hid hO
          clear hI hO HS OA K3
          rcases hi with ⟨rfl, rfl⟩ | ⟨m, rfl, rfl⟩
          · have I1 : Hid (TO w wr w0.heap.size most [] v) := I.out
            go_wp2_with (go_at_call 24; refine stop ?_)
            refine Stop.go ((popc_none _ v most wr I1.out.s).mono ?_)
            rintro e w5 ⟨rfl, f5⟩
            have F5 := Lib.hid (I1.out.fr.trans f5 (U := nob) (fun _ _ x => x) (fun _ _ x => x))
            clear f5
            go_wp2
            go_ret
            exact ⟨rfl, F5.out.alloc _⟩
          · obtain ⟨x, hx⟩ : ∃ x, xs[m]? = some x := ⟨_, List.getElem?_eq_getElem (by omega)⟩
            have hlt : m < xs.length := by omega
            obtain rfl := HA.out.resolve_left (fun h => by rw [h] at hlt; simp at hlt)
            have hxt : xs.take (m + 1) = xs.take m ++ [x] := by rw [List.take_add_one, hx]; rfl
            have J1 : Hid (TO w wr w0.heap.size most (xs.take m ++ [x]) v) := by have := I.out; rwa [hxt] at this
            have hxr : (xs.take room)[m]? = some x := by rw [List.getElem?_take_of_lt (by omega)]; exact hx
            obtain ⟨ga, rfl, hga, hgl, hca⟩ := (owns_choices O.out).resolve_left (fun h => by rw [h] at hxr; simp at hxr)
            obtain ⟨d0, d1, d2⟩ := HC.out m x hx
            have a0 : wr.cell? ⟨ga, m * 3, none⟩ = some (.int .i64 x.1) := hca m x hxr 0 _ rfl
            have a1 : wr.cell? ⟨ga, m * 3 + 1, none⟩ = some (.int .i64 x.2.1) := hca m x hxr 1 _ rfl
            have a2 : wr.cell? ⟨ga, m * 3 + 2, none⟩ = some (.int .i64 x.2.2) := hca m x hxr 2 _ rfl
            have A0 := Lib.hid a0
            have A1 := Lib.hid a1
            have A2 := Lib.hid a2
            have D0 := Lib.hid d0
            have D1 := Lib.hid d1
            have D2 := Lib.hid d2
            clear hx hxt hxr hca a0 a1 a2 d0 d1 d2 I
            go_wp2_with (go_at_call 23; refine stop ?_)
            refine Stop.go ((topc_some _ v most x (xs.take m) wr J1.out.s).mono ?_)
            rintro e w5 ⟨rfl, f5⟩
            have f5a := f5.alloc (.cells #[.int .i64 x.1, .int .i64 x.2.1, .int .i64 x.2.2] 50)
            have F5 := Lib.hid f5a
            have J5 := Lib.hid (J1.out.keep f5a)
            have B5 : Hid ((w5.alloc (.cells #[.int .i64 x.1, .int .i64 x.2.1, .int .i64 x.2.2] 50)).heap[w5.heap.size]? = some (.cells #[.int .i64 x.1, .int .i64 x.2.1, .int .i64 x.2.2] 50 (0, 0))) := obj_new rfl _
            have hp5 : w0.heap.size < w5.heap.size := by have := (J1.out.keep f5).s.lt; exact this
            clear f5 f5a
            go_wp2_with (go_at_call 24; refine stop ?_)
            refine Stop.go ((popc_some _ v most x (xs.take m) _ J5.out.s).mono ?_)
            rintro e w6 ⟨rfl, v6, s6, f6⟩
            have b6 := f6.heap_some B5.out (by omega)
            have b6a := obj_alloc b6 (.cells #[.int .i64 x.1, .int .i64 x.2.1, .int .i64 x.2.2] 50)
            have b6b : (w6.alloc (.cells #[.int .i64 x.1, .int .i64 x.2.1, .int .i64 x.2.2] 50)).heap[w6.heap.size]? = some (.cells #[.int .i64 x.1, .int .i64 x.2.1, .int .i64 x.2.2] 50 (0, 0)) := obj_new rfl _
            have f6a := f6.alloc (.cells #[.int .i64 x.1, .int .i64 x.2.1, .int .i64 x.2.2] 50)
            have J6 := J5.out.step s6 (f6.mono (fun _ _ z => Or.inl z))
            have J7 := Lib.hid (J6.keep ((Fr.refl nob w6).alloc (.cells #[.int .i64 x.1, .int .i64 x.2.1, .int .i64 x.2.2] 50)))
            have O7 := Lib.hid (f6a.owns (F5.out.owns O.out (fun _ _ x => x)) (fun k hk h => by simp [Value.ownBlock] at hk; omega))
            have e0 := f6a.cell_some (F5.out.cell_some A0.out (fun x => x)) (by show ¬ ga = _; omega)
            have e1 := f6a.cell_some (F5.out.cell_some A1.out (fun x => x)) (by show ¬ ga = _; omega)
            have e2 := f6a.cell_some (F5.out.cell_some A2.out (fun x => x)) (by show ¬ ga = _; omega)
            have l0 := J7.out.fr.cell_some D0.out (fun x => x)
            have l1 := J7.out.fr.cell_some D1.out (fun x => x)
            have l2 := J7.out.fr.cell_some D2.out (fun x => x)
            have x0 := obj_cell b6a 0
            have x1 := obj_cell b6a 1
            have x2 := obj_cell b6a 2
            have y0 := obj_cell b6b 0
            have y1 := obj_cell b6b 1
            have y2 := obj_cell b6b 2
            obtain ⟨w7, hw7⟩ : ∃ w7 : World, w7 = w6.alloc (.cells #[.int .i64 x.1, .int .i64 x.2.1, .int .i64 x.2.2] 50) := ⟨_, rfl⟩
            rw [← hw7] at e0 e1 e2 l0 l1 l2 x0 x1 x2 y0 y1 y2
            have J8 : Hid (TO w w7 w0.heap.size most (xs.take m) v6) := by rw [hw7]; exact J7.out
            have O8 : Hid (w7.ownsRow (w0.heap.size + 1) 50 3 (.slice (some ⟨ga, 0, none⟩) room capa) room (cl (xs.take room))) := by rw [hw7]; exact O7.out
            have HW := Lib.hid hw7
            have x0' : w7.cell? ⟨w5.heap.size, 0, none⟩ = some (.int .i64 x.1) := x0
            have x1' : w7.cell? ⟨w5.heap.size, 1, none⟩ = some (.int .i64 x.2.1) := x1
            have x2' : w7.cell? ⟨w5.heap.size, 2, none⟩ = some (.int .i64 x.2.2) := x2
            have y0' : w7.cell? ⟨w6.heap.size, 0, none⟩ = some (.int .i64 x.1) := y0
            have y1' : w7.cell? ⟨w6.heap.size, 1, none⟩ = some (.int .i64 x.2.1) := y1
            have y2' : w7.cell? ⟨w6.heap.size, 2, none⟩ = some (.int .i64 x.2.2) := y2
            clear hw7 b6 b6a b6b f6a f6 J6 s6 x0 x1 x2 y0 y1 y2
            have hidx0 : (0 : Int) ≤ (m : Int) := Int.natCast_nonneg _
            have hidx1 : (m : Int) < (xs.length : Int) := by omega
            have hidx2 : (m : Int) < (room : Int) := by omega
            go_wp2_with fail
            rw [← HW.out]
            go_quiet (fail)
            go_wp2
            go_roundg m
            case measure => omega
            case rel =>
              refine ⟨v6, by omega, ?_, J8.out.keep ((Fr.refl nob w7).drewN nq), O8.out⟩
              cases m with
              | zero => exact .inl ⟨rfl, rfl⟩
              | succ j => exact .inr ⟨j, rfl, by simp⟩

theorem types_many (a : Option Addr) (len cap : Nat) (most : Int) (w : World) (h : 300 < len) : Calls Try.prog 6 #[.slice a len cap, .int .i64 most] w fun e w' => e = .returned (.bool true) ∧ Fr nob w w' := by
  go_enter Try.func6, Try.ntmps6
  go_wp2_with (go_at_call 7; refine stop ?_)
  refine Stop.go ((awake_any w).mono ?_)
  rintro e w0 ⟨rfl, f0⟩
  go_wp2
  go_ret
  exact ⟨rfl, f0⟩

theorem types_walk (a : Option Addr) (len cap : Nat) (X : Nat → Nat → Int) (most : Int) (w : World) (h : NumsAt w a len cap [.i64, .i64, .i64] X) (_hn : (Lit.int .i64 most).wf = true) :
    Calls Try.prog 6 #[.slice a len cap, .int .i64 most] w fun e w' => e = .returned (.bool true) ∧ Below w.heap.size w w' := by
  have key : Calls Try.prog 6 #[.slice a len cap, .int .i64 most] w fun e w' => e = .returned (.bool true) ∧ Fr nob w w' := by
    by_cases h2 : 300 < len
    · exact types_many a len cap most w h2
    · obtain ⟨-, -, h3⟩ := h
      obtain ⟨xs, hxl, hxs⟩ : ∃ xs : List Ch, xs.length = len ∧ ∀ j x, xs[j]? = some x → j < len ∧ x = (X j 0, X j 1, X j 2) := by
        refine ⟨(List.range len).map fun j => (X j 0, X j 1, X j 2), by simp, fun j x hj => ?_⟩
        simp only [List.getElem?_map, Option.map_eq_some_iff] at hj
        obtain ⟨i, hi, rfl⟩ := hj
        obtain ⟨hj, hi'⟩ := List.getElem?_eq_some_iff.1 hi
        simp at hi' hj
        subst hi'
        exact ⟨hj, rfl⟩
      subst hxl
      rcases h3 with h0 | ⟨b, off, rfl, _, h4⟩
      · exact types_some a 0 0 cap most xs w (by omega) (.inl (List.eq_nil_of_length_eq_zero h0)) (fun j x hj => absurd (hxs j x hj).1 (by omega))
      · refine types_some _ b off cap most xs w (by omega) (.inr rfl) (fun j x hj => ?_)
        obtain ⟨hj', rfl⟩ := hxs j x hj
        exact ⟨by simpa using (h4 j hj' 0 .i64 rfl).1, by simpa using (h4 j hj' 1 .i64 rfl).1, by simpa using (h4 j hj' 2 .i64 rfl).1⟩
  exact key.mono fun e w' ⟨he, hf⟩ => ⟨he, hf.below0⟩

end Go.Proofs.Ytnbdomhikbfabaa
