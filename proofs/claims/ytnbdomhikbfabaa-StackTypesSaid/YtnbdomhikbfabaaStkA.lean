/- The stack of numbers: what New, Ints and Len do. -/
import Derived.Test.YtnbdomhikbfabaaRows
import Derived.Test.YtnbdomhikbfabaaBase
import Derived.Deep.QuietTactic
import Derived.BigQuiet
import Derived.Lib.Hide
import Derived.WalkSpells
import Derived.WalkLawsBesides
import Derived.Deep.RegionWith
import Derived.Deep.RegionHeld3
import Derived.Outline
import Derived.Deep.DeepFit
namespace Go.Proofs.Ytnbdomhikbfabaa
open Go.RowKit

/-- Block p is a stack of numbers: the greatest size, and the slice v, which holds xs, the lowest first. -/
def ST (w : World) (p : Nat) (v : Value) (most : Int) (xs : List Int) : Prop :=
  w.heap[p]? = some (.cells #[.int .i64 most, v] 57 (0, 0)) ∧ w.ownsRow (p + 1) 3 1 v xs.length (xs.map (Value.int .i64))

theorem ST.fr {S : Nat → Prop} {w w' : World} {p : Nat} {v : Value} {most : Int} {xs : List Int} (h : ST w p v most xs) (f : Fr S w w') (hp : ¬ S p) (hv : ∀ k, v.ownBlock = some k → ¬ S k) : ST w' p v most xs :=
  ⟨f.heap_some h.1 hp, f.owns h.2 hv⟩
theorem ST.cell0 {w : World} {p : Nat} {v : Value} {most : Int} {xs : List Int} (h : ST w p v most xs) : w.cell? ⟨p, 0, none⟩ = some (.int .i64 most) := by simp [World.cell?, h.1]
theorem ST.cell1 {w : World} {p : Nat} {v : Value} {most : Int} {xs : List Int} (h : ST w p v most xs) : w.cell? ⟨p, 1, none⟩ = some v := by simp [World.cell?, h.1]
theorem ST.froz {w : World} {p : Nat} {v : Value} {most : Int} {xs : List Int} (h : ST w p v most xs) (o : Nat) : w.frozen? ⟨p, o, none⟩ = false := by simp [World.frozen?, h.1]
theorem ST.shape {w : World} {p : Nat} {v : Value} {most : Int} {xs : List Int} (h : ST w p v most xs) :
    ∃ a cap, v = .slice a xs.length cap ∧ xs.length ≤ cap ∧ cap ≤ maxLen ∧ (xs = [] ∨ ∃ g, a = some ⟨g, 0, none⟩ ∧ p < g ∧ ∀ j (hj : j < xs.length), w.cell? ⟨g, j, none⟩ = some (.int .i64 xs[j])) := by
  rcases h.2.2 with ⟨rfl, h0⟩ | ⟨g, cap, cur, rfl, hb, hg, hn, hc, hs, ht⟩
  · have : xs = [] := List.eq_nil_of_length_eq_zero h0
    subst this
    exact ⟨none, 0, rfl, Nat.le_refl _, by simp [maxLen], .inl rfl⟩
  · refine ⟨_, cap, rfl, hn, hc, .inr ⟨g, rfl, by omega, fun j hj => ?_⟩⟩
    have := h.2.cells (g := g) rfl j (.int .i64 xs[j]) (by simp [hj])
    rw [Addr.add_lit] at this
    simpa using this

set_option maxRecDepth 100000 in
theorem new_any (most : Int) (w : World) : Calls Try.prog 25 #[.int .i64 most] w fun e w' => e = .returned (.pointer (some ⟨w.heap.size, 0, none⟩)) ∧ w.alloc (.cells #[.int .i64 most, .slice none 0 0] 57) = w' := by
  go_enter Try.func25, Try.ntmps25
  go_wp2
  go_ret
  exact ⟨rfl, rfl⟩

set_option maxRecDepth 100000 in
theorem ints_new (most : Int) (w : World) : Calls Try.prog 8 #[.int .i64 most] w fun e w' => e = .returned (.pointer (some ⟨w.heap.size, 0, none⟩)) ∧ w.alloc (.cells #[.int .i64 most, .slice none 0 0] 57) = w' := by
  go_enter Try.func8, Try.ntmps8
  go_wp2_with (go_at_call 25; refine (new_any _ _).mono ?_; rintro e w' ⟨rfl, rfl⟩)
  go_ret
  exact ⟨rfl, rfl⟩

theorem ST.new (most : Int) (w : World) : ST (w.alloc (.cells #[.int .i64 most, .slice none 0 0] 57)) w.heap.size (.slice none 0 0) most [] :=
  ⟨heap_new _ _, World.ownsRow_nil _ _ _ _⟩

set_option maxRecDepth 100000 in
theorem len_any (p : Nat) (v : Value) (most : Int) (xs : List Int) (w : World) (h : ST w p v most xs) : Calls Try.prog 16 #[.pointer (some ⟨p, 0, none⟩)] w fun e w' => e = .returned (.int .i64 xs.length) ∧ w = w' := by
  obtain ⟨a, cap, rfl, -, -, -⟩ := h.shape
  have h1 := h.cell1
  clear h
  go_enter Try.func16, Try.ntmps16
  go_wp2
  go_ret
  exact ⟨rfl, rfl⟩

end Go.Proofs.Ytnbdomhikbfabaa
