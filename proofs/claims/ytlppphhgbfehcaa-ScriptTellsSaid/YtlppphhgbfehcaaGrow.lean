/- A region that draws its order, whose operations read and whose callees at most make new memory: one walk of the text's order serves every order. -/
import Derived.Test.YtlppphhgbfehcaaBase
import Derived.Deep.Quiet
import Derived.BigQuiet
namespace Go.Proofs.Ytlppphhgbfehcaa
open Go.RowKit

/-- A world in which all that w1 holds stands as it was. -/
structure Grown (w1 : World) where
  w : World
  fr : Fr nob w1 w
instance (w1 : World) : Nonempty (Grown w1) := ⟨⟨w1, Fr.refl nob w1⟩⟩
theorem Grown.cell {w1 : World} {p : Addr} {v : Value} (h : w1.cell? p = some v) (x : Grown w1) : x.w.cell? p = some v := x.fr.cell_some h (fun x => x)

theorem region_grown {P : Program} {id : Nat} {Q : Exit → Act → World → Prop} {a : Act} {w1 : World} {l : List Oper} (hm : P.follows .mixedOrders = true) (hB : Region.lexB .any l.toArray = true)
    (h : wpQuiet P l.toArray (fun w' => ∃ x : Grown w1, w' = x.w) (fun a' => ∀ w', (∃ x : Grown w1, w' = x.w) → Q .normal a' w') l a) : (Code.region id l.toArray true).wp P Q a w1 :=
  wp_region_quiet (C := fun w' => ∃ x : Grown w1, w' = x.w) hm hB ⟨⟨_, (Fr.refl nob w1).drew⟩, rfl⟩ (by simpa using h)

/-- A contract met in a grown world. -/
theorem Grown.call {P : Program} {f : FuncId} {args : Array Value} {w1 : World} {v : Value} (x : Grown w1) (h : Calls P f args x.w fun e w' => e = .returned v ∧ Fr nob x.w w') :
    Calls P f args x.w fun e w'' => e = .returned v ∧ ∃ y : Grown w1, w'' = y.w :=
  h.mono fun _ w'' ⟨he, hf⟩ => ⟨he, ⟨w'', x.fr.trans hf (fun _ _ x => x) (fun _ _ x => x)⟩, rfl⟩

end Go.Proofs.Ytlppphhgbfehcaa
