/-
  DERIVED. GIVEN WITH THE SEED: THE CARDS: each row of YtecdpehmhpleeaaGreatDoorRows.lean that lists a variable, with what it lists TIED to the program's text (the seventh form; the later family's looks); each row that meets fmt, with fmt's text TOLD by the authors' own Lean function (tested against real Go, not proved from fmt's source: count such statements apart). THE CARD IS WHAT COUNTS. Prove the row's statement (the work); the ties are given (YtecdpehmhpleeaaGreatDoorTie.lean); close each card by the builder's one call (the guide's Derived/Test/ToyasCard.lean, 'card_holds'). Laid BY PROGRAM, IN A SANDBOX (cutbox-door.mjs). By AI agents, Wed Nov 11 2026. No macro, syntax, notation, axiom, sorry.
-/
import Derived.Test.YtecdpehmhpleeaaGreatDoorRows
import GoSem.ClaimSeven
namespace Go.Proofs.YtecdpehmhpleeaaGreatDoor
namespace Rows

/-- THE TIED CARD OF 'inquesttop.TopLevels'. -/
def topLevelsCard : Claim7 := { stood := { row := topLevelsRow, standIns := [], harness := (true, "40fa27e7f7c0f0399e200df6705a33c2c3c9c9f2e22527bdaf95c976e860fdb9"), looks := true }, kinds := [], alts := [], laidByText := true, laidKinds := [.data, .data, .handle, .data, .pinned], laidTests := true, laidLooks := .later }
def TopLevelsCardSaid : Prop := Claim7.holds Tryz.pinned (.plain (OpenSpec.ofChange topLevelsSpec)) topLevelsCard

/-- THE SECOND FORM's CARD OF 'inquesttop.TopLevels'. -/
def topLevelsUptoCard : Claim7 := { stood := { row := topLevelsUptoRow, standIns := [], harness := (true, "40fa27e7f7c0f0399e200df6705a33c2c3c9c9f2e22527bdaf95c976e860fdb9"), looks := true }, kinds := [], alts := [], laidByText := true, laidKinds := [.data, .data, .handle, .data, .pinned], laidTests := true, laidLooks := .later }
def TopLevelsUptoCardSaid : Prop := Claim7.holds Tryz.pinned (.plain (OpenSpec.upto topLevelsSpec)) topLevelsUptoCard
end Rows
end Go.Proofs.YtecdpehmhpleeaaGreatDoor
