/- The stack of numbers: what Top and Pop do. -/
import Derived.Test.YtnbdomhikbfabaaStkB
namespace Go.Proofs.Ytnbdomhikbfabaa
open Go.RowKit

set_option maxRecDepth 100000 in
theorem top_none (p : Nat) (v : Value) (most : Int) (w : World) (h : ST w p v most []) :
    Calls Try.prog 14 #[.pointer (some ⟨p, 0, none⟩)] w fun e w' => e = .returned (.tuple #[.int .i64 0, .bool false]) ∧ ∃ n, w' = w.drewN n := by
  obtain ⟨a, cap, rfl, -, -, -⟩ := h.shape
  have h1 := h.cell1
  simp only [List.length_nil] at h1
  clear h
  go_enter Try.func14, Try.ntmps14
  go_wp2
  go_ret2
  exact ⟨rfl, 0, rfl⟩

set_option maxRecDepth 100000 in
theorem top_some (p : Nat) (v : Value) (most x : Int) (xs : List Int) (w : World) (h : ST w p v most (xs ++ [x])) :
    Calls Try.prog 14 #[.pointer (some ⟨p, 0, none⟩)] w fun e w' => e = .returned (.tuple #[.int .i64 x, .bool true]) ∧ ∃ n, w' = w.drewN n := by
  obtain ⟨a, cap, rfl, hl, hc, hx⟩ := h.shape
  rcases hx with hx | ⟨g, rfl, hg, hx⟩
  · simp at hx
  have h1 := h.cell1
  have h2 := hx xs.length (by simp)
  simp only [List.length_append, List.length_singleton, List.getElem_concat_length] at h1 h2 hl
  clear h hx
  unfold maxLen at hc
  have hidx : 0 ≤ (xs.length : Int) ∧ (xs.length : Int) < (xs.length : Int) + 1 := ⟨by omega, by omega⟩
  have hne : ((xs.length : Int) + 1 == 0) = false := by simp; omega
  go_enter Try.func14, Try.ntmps14
  go_wp2
  go_quiet (fail)
  go_wp2
  go_ret2
  exact ⟨rfl, _, rfl⟩

set_option maxRecDepth 100000 in
theorem pop_none (p : Nat) (v : Value) (most : Int) (w : World) (h : ST w p v most []) :
    Calls Try.prog 12 #[.pointer (some ⟨p, 0, none⟩)] w fun e w' => e = .returned (.tuple #[.int .i64 0, .bool false]) ∧ ∃ n, w' = w.drewN n := by
  have H := Lib.hid h
  clear h
  go_enter Try.func12, Try.ntmps12
  go_wp2_with (go_at_call 14; go_must (refine (top_none _ _ _ _ H.out).mono ?_); rintro e w' ⟨rfl, n, rfl⟩)
  go_ret2
  exact ⟨rfl, _, rfl⟩

/-- One less: the slice is cut, its block stays. -/
theorem ST.cut {w : World} {p g cap : Nat} {most x : Int} {xs : List Int} (h : ST w p (.slice (some ⟨g, 0, none⟩) (xs.length + 1) cap) most (xs ++ [x])) :
    w.ownsRow (p + 1) 3 1 (.slice (some ⟨g, 0, none⟩) xs.length cap) xs.length (xs.map (Value.int .i64)) := by
  refine ⟨by simp, ?_⟩
  rcases h.2.2 with ⟨h1, _⟩ | ⟨g', cap', cur, hv, hb, hg, hn, hc, hs, ht⟩
  · cases h1
  · simp only [Value.slice.injEq, Option.some.injEq, Addr.mk.injEq, and_true] at hv
    obtain ⟨rfl, hl, rfl⟩ := hv
    refine .inr ⟨g, cap, cur, rfl, hb, hg, by simp at hn; omega, hc, hs, ?_⟩
    have h2 := congrArg (List.take xs.length) ht
    simp only [List.length_append, List.length_singleton, Nat.mul_one, List.take_take, List.map_append] at h2
    rw [Nat.min_eq_left (by omega)] at h2
    rw [Nat.mul_one, h2]
    simp

set_option maxRecDepth 100000 in
theorem pop_some (p : Nat) (v : Value) (most x : Int) (xs : List Int) (w : World) (h : ST w p v most (xs ++ [x])) :
    Calls Try.prog 12 #[.pointer (some ⟨p, 0, none⟩)] w fun e w' => e = .returned (.tuple #[.int .i64 x, .bool true]) ∧ ∃ v', ST w' p v' most xs ∧ Fr (fun k => k = p) w w' ∧ v'.ownBlock = v.ownBlock := by
  obtain ⟨a, cap, rfl, hl, hc, hx⟩ := h.shape
  rcases hx with hx | ⟨g, rfl, hg, hx⟩
  · simp at hx
  have hr := h
  simp only [List.length_append, List.length_singleton] at h hr
  have h1 := h.cell1
  have h0 := h.cell0
  have hf := h.froz 1
  simp only [List.length_append, List.length_singleton] at hl
  have H := Lib.hid hr
  have C := Lib.hid h.cut
  clear h hr hx
  unfold maxLen at hc
  have hidx : 0 ≤ (xs.length : Int) ∧ (xs.length : Int) < (xs.length : Int) + 1 := ⟨by omega, by omega⟩
  have hle : xs.length ≤ cap := by omega
  go_enter Try.func12, Try.ntmps12
  go_wp2_with (go_at_call 14; go_must (refine (top_some _ _ _ _ _ _ H.out).mono ?_); rintro e w' ⟨rfl, n, rfl⟩)
  go_region
  all_goals go_wp2
  all_goals go_ret2
  all_goals
    have K := H.out.stored (w1 := w.drewN (n + 1)) (S := nob) (ys := xs) (v' := .slice (some ⟨g, 0, none⟩) xs.length cap) ((Fr.refl _ _).drewN _) (fun x => x) C.out
    exact ⟨rfl, _, K.1, K.2.mono (fun i _ x => x.elim id (fun y => y.elim)), rfl⟩

theorem list_end (xs : List Int) : xs = [] ∨ ∃ ys y, xs = ys ++ [y] := by
  rcases List.eq_nil_or_concat xs with h | ⟨ys, y, h⟩
  · exact .inl h
  · exact .inr ⟨ys, y, by simpa using h⟩

theorem pop_any (p : Nat) (v : Value) (most : Int) (xs : List Int) (w : World) (h : ST w p v most xs) :
    Calls Try.prog 12 #[.pointer (some ⟨p, 0, none⟩)] w fun e w' => e = .returned (.tuple #[.int .i64 (xs.getLast?.getD 0), .bool (!xs.isEmpty)]) ∧ ∃ v', ST w' p v' most xs.dropLast ∧ Fr (fun k => k = p) w w' ∧ v'.ownBlock = v.ownBlock := by
  rcases list_end xs with rfl | ⟨ys, y, rfl⟩
  · refine (pop_none p v most w h).mono ?_
    rintro e w' ⟨rfl, n, rfl⟩
    exact ⟨rfl, v, h, (Fr.refl _ _).drewN _, rfl⟩
  · refine (pop_some p v most y ys w h).mono ?_
    rintro e w' ⟨rfl, v', h1, h2, h3⟩
    exact ⟨by simp, v', by simpa using h1, h2, h3⟩

theorem top_any (p : Nat) (v : Value) (most : Int) (xs : List Int) (w : World) (h : ST w p v most xs) :
    Calls Try.prog 14 #[.pointer (some ⟨p, 0, none⟩)] w fun e w' => e = .returned (.tuple #[.int .i64 (xs.getLast?.getD 0), .bool (!xs.isEmpty)]) ∧ ∃ n, w' = w.drewN n := by
  rcases list_end xs with rfl | ⟨ys, y, rfl⟩
  · exact top_none p v most w h
  · refine (top_some p v most y ys w h).mono ?_
    rintro e w' ⟨rfl, h1⟩
    exact ⟨by simp, h1⟩

end Go.Proofs.Ytnbdomhikbfabaa
