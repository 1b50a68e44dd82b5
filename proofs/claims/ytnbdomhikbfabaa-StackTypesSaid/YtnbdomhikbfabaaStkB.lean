/- The stack of numbers: what Push and Top do. -/
import Derived.Test.YtnbdomhikbfabaaStkA
namespace Go.Proofs.Ytnbdomhikbfabaa
open Go.RowKit

theorem Try.info3 : (Try.prog.info? 3).map (fun i => (i.zero, i.size, i.bytes)) = some (some (.int .i64 0), 1, 8) := by kernel_rfl
theorem appInt : AppT Try.prog 26 3 1 8 := AppT.of Try.underlying26 Try.info3 rfl (by decide)

set_option maxRecDepth 100000 in
theorem push_full (p : Nat) (v : Value) (most x : Int) (xs : List Int) (w : World) (h : ST w p v most xs) (hm : most ≤ xs.length) :
    Calls Try.prog 10 #[.pointer (some ⟨p, 0, none⟩), .int .i64 x] w fun e w' => e = .returned (.bool false) ∧ ∃ n, w' = w.drewN n := by
  obtain ⟨a, cap, rfl, -, -, -⟩ := h.shape
  have h1 := h.cell1
  have h0 := h.cell0
  clear h
  go_enter Try.func10, Try.ntmps10
  go_wp2
  go_quiet (fail)
  go_wp2
  go_ret
  exact ⟨rfl, _, rfl⟩

theorem ST.own_ne {w : World} {p : Nat} {v : Value} {most : Int} {xs : List Int} (h : ST w p v most xs) : ∀ k, v.ownBlock = some k → p < k ∧ k < w.heap.size := fun k hk => by have := h.2.lt k hk; omega
theorem ST.lt {w : World} {p : Nat} {v : Value} {most : Int} {xs : List Int} (h : ST w p v most xs) : p < w.heap.size := (Array.getElem?_eq_some_iff.1 h.1).1

/-- The field l of block p, written anew: by a slice v' that owns ys. -/
theorem ST.stored {w w1 : World} {p : Nat} {v v' : Value} {most : Int} {xs ys : List Int} {S : Nat → Prop} (h : ST w p v most xs) (hf : Fr S w w1) (hS : ¬ S p) (ho : w1.ownsRow (p + 1) 3 1 v' ys.length (ys.map (Value.int .i64))) :
    ST (w1.setCell ⟨p, 1, none⟩ v') p v' most ys ∧ Fr (fun k => k = p ∨ S k) w (w1.setCell ⟨p, 1, none⟩ v') := by
  refine ⟨⟨?_, ownsRow_setCell_below ho (by show p < p + 1; omega) _⟩, ?_⟩
  · have := hf.heap_some h.1 hS
    simp [World.setCell, Array.getElem?_modify, this]
  · exact Fr.setCell (S := fun k => k = p ∨ S k) (hf.mono (fun i _ x => Or.inr x)) ⟨p, 1, none⟩ (fun _ => .inl rfl) _

set_option maxRecDepth 100000 in
theorem push_room (p : Nat) (v : Value) (most x : Int) (xs : List Int) (w : World) (h : ST w p v most xs) (hm : xs.length < most) (hb : (xs.length + 1) * 8 ≤ 140737488355328) :
    Calls Try.prog 10 #[.pointer (some ⟨p, 0, none⟩), .int .i64 x] w fun e w' => e = .returned (.bool true) ∧ ∃ v', ST w' p v' most (xs ++ [x]) ∧
      Fr (fun k => k = p ∨ v.ownBlock = some k) w w' ∧ (v'.ownBlock = v.ownBlock ∨ ∀ k, v'.ownBlock = some k → w.heap.size ≤ k) := by
  obtain ⟨a, cap, rfl, -, -, -⟩ := h.shape
  have h1 := h.cell1
  have h0 := h.cell0
  have hp := h.lt
  have H := Lib.hid h
  clear h
  have hm' : ¬ most ≤ xs.length := by omega
  go_enter Try.func10, Try.ntmps10
  go_wp2
  go_quiet (fail)
  go_wp2_with (at_builtin; go_must (refine wpList_app rfl (.tmp 19) (.tmp 21) rfl appInt rfl (base := p + 1) (n := xs.length) (xs := xs.map (Value.int .i64)) ?o1 (m := 1) (news := [.int .i64 x]) rfl rfl ?o2 ?o3 ?o4 ?o5 ?o6))
  case o1 => exact World.ownsRow.alloc (w := w.drewN nq) H.out.2 _
  case o2 => exact Src.one _ _ _ rfl
  case o3 => exact hb
  case o4 => simp only [maxLen]; omega
  case o5 => simp; omega
  case o6 =>
    intro v' w1 ho hg hor
    have hfr : Fr (fun k => (Value.slice a xs.length cap).ownBlock = some k) w w1 := (((Fr.refl _ w).drewN nq).alloc _).grown hg (fun k hk _ => hk)
    have hnp : ¬ (Value.slice a xs.length cap).ownBlock = some p := fun hk => by have := H.out.own_ne _ hk; omega
    have hc1 := hfr.cell_some h1 hnp
    have hf1 := (hfr.frozen (p := ⟨p, 1, none⟩) hp hnp).trans (H.out.froz 1)
    have K1 := Lib.hid (H.out.stored hfr hnp (ys := xs ++ [x]) (by simpa using ho))
    have K2 := Lib.hid hor
    obtain ⟨a', n', cap', rfl⟩ : ∃ a n cap, v' = Value.slice a n cap := by
      rcases ho.2 with ⟨rfl, _⟩ | ⟨g, cap, cur, rfl, _⟩ <;> exact ⟨_, _, _, rfl⟩
    clear hor ho hg hfr hnp h1 h0
    go_wp2
    go_ret
    exact ⟨rfl, _, K1.out.1, K1.out.2, K2.out.imp id (fun z k hk => by have := z k hk; omega)⟩

theorem push_any (p : Nat) (v : Value) (most x : Int) (xs : List Int) (w : World) (h : ST w p v most xs) (hb : (xs.length + 1) * 8 ≤ 140737488355328) :
    Calls Try.prog 10 #[.pointer (some ⟨p, 0, none⟩), .int .i64 x] w fun e w' => e = .returned (.bool (decide (xs.length < most))) ∧ ∃ v', ST w' p v' most (if xs.length < most then xs ++ [x] else xs) ∧
      Fr (fun k => k = p ∨ v.ownBlock = some k) w w' ∧ (v'.ownBlock = v.ownBlock ∨ ∀ k, v'.ownBlock = some k → w.heap.size ≤ k) := by
  by_cases hm : xs.length < most
  · refine (push_room p v most x xs w h hm hb).mono ?_
    rintro e w' ⟨rfl, v', h1, h2, h3⟩
    exact ⟨by simp [hm], v', by simpa [hm] using h1, h2, h3⟩
  · refine (push_full p v most x xs w h (by omega)).mono ?_
    rintro e w' ⟨rfl, n, rfl⟩
    exact ⟨by simp [hm], v, by simpa [hm] using (show ST (w.drewN n) p v most xs from h), (Fr.refl _ _).drewN n, .inl rfl⟩

end Go.Proofs.Ytnbdomhikbfabaa
