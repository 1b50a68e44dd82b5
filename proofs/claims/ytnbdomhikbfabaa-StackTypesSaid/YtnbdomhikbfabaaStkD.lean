/- The stack of numbers: what Clone and All do; two rows of numbers held against each other. -/
import Derived.Test.YtnbdomhikbfabaaStkC
namespace Go.Proofs.Ytnbdomhikbfabaa
open Go.RowKit

theorem Src.owned {w w' : World} {base : Nat} {e : TypeId} {size : Nat} {a : Option Addr} {n c : Nat} {xs : List Value} {S : Nat → Prop} (h : w.ownsRow base e size (.slice a n c) n xs) (f : Fr S w w') (hn : ∀ k, (Value.slice a n c).ownBlock = some k → ¬ S k) (h1 : ∀ u ∈ xs, u.oneCell' = true) : Src w' a xs := by
  refine ⟨?_, h1⟩
  rcases h.2 with ⟨hv, h0⟩ | ⟨g, cap, cur, hv, hb, hg, hx⟩
  · left
    have := h.1
    rw [h0] at this
    exact List.eq_nil_of_length_eq_zero (by simpa using this)
  · cases hv
    exact .inr ⟨_, rfl, fun j u hu => f.cell_some (h.cells (g := g) rfl j u hu) (by rw [Addr.add_lit]; exact hn g rfl)⟩

set_option maxRecDepth 100000 in
theorem clone_any (v : Value) (base : Nat) (xs : List Int) (w : World) (h : w.ownsRow base 3 1 v xs.length (xs.map (Value.int .i64))) (hb : xs.length * 8 ≤ 140737488355328) :
    Calls Try.prog 26 #[v] w fun e w' => ∃ v', e = .returned v' ∧ w'.ownsRow w.heap.size 3 1 v' xs.length (xs.map (Value.int .i64)) ∧ Fr nob w w' := by
  rcases h.2 with ⟨rfl, h0⟩ | ⟨g, cap, cur, rfl, hbg, hg, hn, hc, hs, ht⟩
  · have : xs = [] := List.eq_nil_of_length_eq_zero h0
    subst this
    clear h
    have hn := fun (w : World) (a : Option Addr) (n c : Nat) => Lib.run_eql_slice_nil (P := Try.prog) w 26 3 a n c 0 0 Try.underlying26
    go_enter Try.func26, Try.ntmps26
    go_wp2
    go_ret
    exact ⟨_, rfl, World.ownsRow_nil _ _ _ _, Fr.refl _ _⟩
  · have H := Lib.hid h
    clear h hg hn hc hs ht
    have hn := fun (w : World) (a : Option Addr) (n c : Nat) => Lib.run_eql_slice_nil (P := Try.prog) w 26 3 a n c 0 0 Try.underlying26
    go_enter Try.func26, Try.ntmps26
    go_wp2_with (at_builtin; go_must (refine wpList_app rfl (.tmp 5) (.tmp 6) rfl appInt rfl (base := w.heap.size) (n := 0) (xs := []) ?o1 (m := xs.length) (news := xs.map (Value.int .i64)) rfl ?o2 ?o3 ?o4 ?o5 ?o6 ?o7))
    case o1 => exact World.ownsRow_made w #[] 0 (Nat.le_refl _) (by simp [maxLen]) rfl
    case o2 => simp
    case o3 => exact Src.owned H.out ((Fr.refl nob w).alloc _) (fun _ _ x => x) (ints_oneCell _ _)
    case o4 => omega
    case o5 => simp only [maxLen]; omega
    case o6 => simp
    case o7 =>
      intro v' w1 ho hg _
      have K := Lib.hid ho
      have F := Lib.hid (((Fr.refl nob w).alloc _).grown hg (fun k hk hl => by simp [Value.ownBlock] at hk; omega))
      clear ho hg
      go_wp2
      go_ret
      exact ⟨_, rfl, by simpa using K.out, F.out⟩

set_option maxRecDepth 100000 in
theorem all_any (p : Nat) (v : Value) (most : Int) (xs : List Int) (w : World) (h : ST w p v most xs) (hb : xs.length * 8 ≤ 140737488355328) :
    Calls Try.prog 18 #[.pointer (some ⟨p, 0, none⟩)] w fun e w' => ∃ v', e = .returned v' ∧ w'.ownsRow w.heap.size 3 1 v' xs.length (xs.map (Value.int .i64)) ∧ Fr nob w w' := by
  obtain ⟨a, cap, rfl, -, -, -⟩ := h.shape
  have h1 := h.cell1
  have H := Lib.hid h
  clear h
  go_enter Try.func18, Try.ntmps18
  go_wp2_with (go_at_call 26; go_must (refine (clone_any _ _ xs _ H.out.2 hb).mono ?_); rintro e w' ⟨v', rfl, ho, hf⟩; have K := Lib.hid ho; clear ho)
  go_ret
  exact ⟨_, rfl, K.out, hf⟩

set_option maxRecDepth 100000 in
theorem same_any (v1 v2 : Value) (xs ys : List Int) (w : World) (h1 : Rd w v1 (xs.map (Value.int .i64))) (h2 : Rd w v2 (ys.map (Value.int .i64))) :
    Calls Try.prog 17 #[v1, v2] w fun e w' => e = .returned (.bool (decide (xs = ys))) ∧ ∃ n, w' = w.drewN n := by
  obtain ⟨a1, c1, rfl, k1, m1, r1⟩ := h1
  obtain ⟨a2, c2, rfl, k2, m2, r2⟩ := h2
  simp only [List.length_map] at *
  by_cases hl : xs.length = ys.length
  · by_cases hx : xs = []
    · subst hx
      have : ys = [] := List.eq_nil_of_length_eq_zero (by simpa using hl.symm)
      subst this
      simp only [List.length_nil]
      clear r1 r2 k1 k2 hl
      go_enter Try.func17, Try.ntmps17
      go_wp2
      refine wp_loop_rounds 1 ?_
      rw [rounds_succ]
      go_wp2
      go_ret
      exact ⟨rfl, 0, rfl⟩
    · have hy : ys ≠ [] := fun h => hx (List.eq_nil_of_length_eq_zero (by rw [hl, h]; rfl))
      obtain ⟨b1, o1, rfl, e1⟩ := r1.resolve_left (by simpa using hx)
      obtain ⟨b2, o2, rfl, e2⟩ := r2.resolve_left (by simpa using hy)
      have E1 := Lib.hid e1
      have E2 := Lib.hid e2
      have hL := Lib.hid hl
      rw [← hl]
      unfold maxLen at m1 m2
      have hbd : xs.length ≤ 9223372036854775807 := by omega
      clear e1 e2 r1 r2 hx hy hl k1 k2
      go_enter Try.func17, Try.ntmps17
      go_wp2
      go_loopw [5] (fun i wr => ∃ k : Nat, k ≤ xs.length ∧ i = .int .i64 k ∧ xs.take k = ys.take k ∧ ∃ m, wr = w.drewN m) (fun i _ => xs.length - (intOf i).toNat)
      case atStart => exact ⟨0, Nat.zero_le _, rfl, rfl, 0, rfl⟩
      case round =>
        obtain ⟨k, hk, rfl, ht, m, rfl⟩ := hrel
        have hT := Lib.hid ht
        clear ht
        by_cases hlt : k < xs.length
        · have hlt2 : k < ys.length := by have := hL.out; omega
          obtain ⟨x, hx⟩ : ∃ x, xs[k]? = some x := ⟨_, List.getElem?_eq_getElem hlt⟩
          obtain ⟨y, hy⟩ : ∃ y, ys[k]? = some y := ⟨_, List.getElem?_eq_getElem hlt2⟩
          have c1 := E1.out k (.int .i64 x) (by simp [hx])
          have c2 := E2.out k (.int .i64 y) (by simp [hy])
          have hX := Lib.hid hx
          have hY := Lib.hid hy
          clear hx hy hlt2
          by_cases hxy : x = y
          · subst hxy
            go_wp2
            go_quiet (fail)
            go_wp2
            go_roundw
            case rel => exact ⟨k + 1, by omega, by go_num, by rw [List.take_add_one, List.take_add_one, hX.out, hY.out, hT.out], _, rfl⟩
            case measure => simp [intOf]; omega
          · have hne : (x != y) = true := bne_iff_ne.2 hxy
            have hD : Hid (decide (xs = ys) = false) := by
              refine decide_eq_false fun h => hxy ?_
              have := hX.out
              rw [h, hY.out] at this
              exact (Option.some.inj this).symm
            clear hxy
            go_wp2
            go_quiet (fail)
            go_wp2
            go_ret
            exact ⟨by rw [hD.out]; rfl, _, World.drewN_drewN _ _ _⟩
        · have hD : Hid (decide (xs = ys) = true) := by
            refine decide_eq_true ?_
            have := hT.out
            have h2 := hL.out
            rwa [List.take_of_length_le (by omega), List.take_of_length_le (by omega)] at this
          go_wp2
          go_ret
          exact ⟨by rw [hD.out]; rfl, _, rfl⟩
  · have hne : xs ≠ ys := fun h => hl (by rw [h])
    have ht : ((xs.length : Int) != ys.length) = true := by rw [bne_iff_ne]; omega
    rw [show decide (xs = ys) = false from by simpa using hne]
    clear r1 r2
    go_enter Try.func17, Try.ntmps17
    go_wp2
    go_ret
    exact ⟨rfl, 0, rfl⟩

end Go.Proofs.Ytnbdomhikbfabaa
