/- The stack of choices: what Push, Top and Pop do. -/
import Derived.Test.YtnbdomhikbfabaaChoA
import Derived.Deep.RegionLaw
namespace Go.Proofs.Ytnbdomhikbfabaa
open Go.RowKit

theorem TC.stored {w w1 : World} {p : Nat} {v v' : Value} {most : Int} {xs ys : List Ch} {S : Nat → Prop} (h : TC w p v most xs) (hf : Fr S w w1) (hS : ¬ S p) (ho : w1.ownsRow (p + 1) 50 3 v' ys.length (cl ys)) :
    TC (w1.setCell ⟨p, 1, none⟩ v') p v' most ys ∧ Fr (fun k => k = p ∨ S k) w (w1.setCell ⟨p, 1, none⟩ v') := by
  refine ⟨⟨obj_set (hf.heap_some h.1 hS) 1 v', ownsRow_setCell_below ho (by show p < p + 1; omega) _⟩, ?_⟩
  exact Fr.setCell (S := fun k => k = p ∨ S k) (hf.mono (fun i _ x => Or.inr x)) ⟨p, 1, none⟩ (fun _ => .inl rfl) _

set_option maxRecDepth 100000 in
theorem pushc_full (p : Nat) (v : Value) (most : Int) (x : Ch) (xs : List Ch) (w : World) (h : TC w p v most xs) (hm : most ≤ xs.length) :
    Calls Try.prog 20 #[.pointer (some ⟨p, 0, none⟩), .agg #[.int .i64 x.1, .int .i64 x.2.1, .int .i64 x.2.2]] w fun e w' => e = .returned (.bool false) ∧ Fr nob w w' := by
  obtain ⟨a, cap, rfl, -, -⟩ := owns_shape h.2
  have h0 : ∀ o, (w.alloc o).cell? ⟨p, 0, none⟩ = some (.int .i64 most) := fun o => obj_cell (obj_alloc h.1 o) 0
  have h1 : ∀ o, (w.alloc o).cell? ⟨p, 1, none⟩ = some (.slice a xs.length cap) := fun o => obj_cell (obj_alloc h.1 o) 1
  clear h
  go_enter Try.func20, Try.ntmps20
  go_wp2
  go_quiet (fail)
  go_wp2
  go_ret
  exact ⟨rfl, ((Fr.refl _ _).alloc _).drewN _⟩

set_option maxRecDepth 100000 in
theorem pushc_room (p : Nat) (v : Value) (most : Int) (x : Ch) (xs : List Ch) (w : World) (h : TC w p v most xs) (hm : xs.length < most) (hb : (xs.length + 1) * 24 ≤ 140737488355328) :
    Calls Try.prog 20 #[.pointer (some ⟨p, 0, none⟩), .agg #[.int .i64 x.1, .int .i64 x.2.1, .int .i64 x.2.2]] w fun e w' => e = .returned (.bool true) ∧ ∃ v', TC w' p v' most (xs ++ [x]) ∧
      Fr (fun k => k = p ∨ v.ownBlock = some k) w w' := by
  obtain ⟨a, cap, rfl, -, -⟩ := owns_shape h.2
  have h0 : ∀ o, (w.alloc o).cell? ⟨p, 0, none⟩ = some (.int .i64 most) := fun o => obj_cell (obj_alloc h.1 o) 0
  have h1 : ∀ o, (w.alloc o).cell? ⟨p, 1, none⟩ = some (.slice a xs.length cap) := fun o => obj_cell (obj_alloc h.1 o) 1
  have hp := h.lt
  have H := Lib.hid h
  clear h
  have hm' : ¬ most ≤ xs.length := by omega
  go_enter Try.func20, Try.ntmps20
  go_wp2
  go_quiet (fail)
  obtain ⟨w0, hw0⟩ : ∃ w0 : World, w0 = (w.alloc (.cells #[.int .i64 x.1, .int .i64 x.2.1, .int .i64 x.2.2] 50)).drewN nq := ⟨_, rfl⟩
  have H0 : Hid (TC w0 p (.slice a xs.length cap) most xs) := by rw [hw0]; exact H.out.fr ((((Fr.refl nob w).alloc _).drewN nq)) (fun x => x) (fun _ _ x => x)
  have F0 : Hid (Fr nob w w0) := by rw [hw0]; exact ((Fr.refl nob w).alloc _).drewN nq
  have B0 : Hid (w0.heap[w.heap.size]? = some (.cells #[.int .i64 x.1, .int .i64 x.2.1, .int .i64 x.2.2] 50 (0, 0))) := by rw [hw0]; exact obj_new (w := w) rfl _
  rw [← hw0]
  clear hw0 h0 h1
  have c0 : w0.cell? ⟨p, 1, none⟩ = some (.slice a xs.length cap) := obj_cell H0.out.1 1
  have b0 : w0.cell? ⟨w.heap.size, 0, none⟩ = some (.int .i64 x.1) := obj_cell B0.out 0
  have b1 : w0.cell? ⟨w.heap.size, 1, none⟩ = some (.int .i64 x.2.1) := obj_cell B0.out 1
  have b2 : w0.cell? ⟨w.heap.size, 2, none⟩ = some (.int .i64 x.2.2) := obj_cell B0.out 2
  have n0 := World.new_ne w0 _ c0
  have n1 := World.new_ne w0 _ b0
  have n2 := World.new_ne w0 _ b1
  have n3 := World.new_ne w0 _ b2
  have hpz := H0.out.lt
  go_wp2_with fail
  have d0 : ∀ o, (w0.alloc o).cell? ⟨p, 1, none⟩ = some (.slice a xs.length cap) := fun o => obj_cell (obj_alloc H0.out.1 o) 1
  have hf0 := obj_free H0.out.1 1
  have HNP : Hid (¬ (Value.slice a xs.length cap).ownBlock = some p) := fun h => by have := H0.out.own_ne _ h; omega
  have HNW : Hid (∀ k, (Value.slice a xs.length cap).ownBlock = some k → k < w.heap.size) := fun k hk => (H.out.own_ne k hk).2
  go_region_law ((refine step_app rfl (.tmp 19) (.tmp 21) rfl appCho rfl (base := p + 1) (n := xs.length) (xs := cl xs) (World.ownsRow.alloc (w := w0.drew) H0.out.2 _) (m := 1) (news := cv x) rfl rfl (Src.block (w := w0.drew.alloc _) (obj_new (w := w0.drew) rfl _) (by simp [Value.oneCell'])) hb (by simp only [maxLen]; omega) (by simp; omega) ?_; intro v1 w1 ho hg _; obtain ⟨a1, c1, rfl, -, -⟩ := owns_shape ho; have F1 := Lib.hid ((((Fr.refl (fun k => (Value.slice a xs.length cap).ownBlock = some k) w0).alloc _).drew).grown hg (fun k hk _ => hk)); have e1 : w1.cell? ⟨p, 1, none⟩ = some (.slice a xs.length cap) := F1.out.cell_some c0 HNP.out; have e2 : w1.frozen? ⟨p, 1, none⟩ = false := (F1.out.frozen (p := ⟨p, 1, none⟩) hpz HNP.out).trans hf0; have O1 := Lib.hid ho; clear ho hg))
  all_goals
    have K := H0.out.stored F1.out HNP.out (ys := xs ++ [x]) (by rw [cl_app, cl_one]; simpa using O1.out)
    have K1 := Lib.hid K.1
    have K2 := Lib.hid (F0.out.trans K.2 (U := fun k => k = p ∨ (Value.slice a xs.length cap).ownBlock = some k) (fun _ _ x => x.elim) (fun _ _ x => x))
    clear K e1 e2
    go_wp2
    go_ret
    exact ⟨rfl, _, K1.out, K2.out⟩

/-- A push, whatever room there is. -/
def pushedC (most : Int) (x : Ch) (xs : List Ch) : List Ch := if (xs.length : Int) < most then xs ++ [x] else xs
theorem pushc_any (p : Nat) (v : Value) (most : Int) (x : Ch) (xs : List Ch) (w : World) (h : TC w p v most xs) (hb : (xs.length + 1) * 24 ≤ 140737488355328) :
    Calls Try.prog 20 #[.pointer (some ⟨p, 0, none⟩), .agg #[.int .i64 x.1, .int .i64 x.2.1, .int .i64 x.2.2]] w fun e w' => e = .returned (.bool (decide ((xs.length : Int) < most))) ∧ ∃ v', TC w' p v' most (pushedC most x xs) ∧
      Fr (fun k => k = p ∨ v.ownBlock = some k) w w' := by
  by_cases hm : (xs.length : Int) < most
  · refine (pushc_room p v most x xs w h hm hb).mono ?_
    rintro e w' ⟨rfl, v', h1, h2⟩
    exact ⟨by simp [hm], v', by simpa [pushedC, hm] using h1, h2⟩
  · refine (pushc_full p v most x xs w h (by omega)).mono ?_
    rintro e w' ⟨rfl, f⟩
    exact ⟨by simp [hm], v, by simpa [pushedC, hm] using h.fr f (fun x => x) (fun _ _ x => x), f.mono (fun _ _ x => x.elim)⟩

end Go.Proofs.Ytnbdomhikbfabaa
