/-
  DERIVED. GIVEN WITH THE SEED: THE CARDS: each row of YtanpdfiekjgdoaaDoorRows.lean that lists a variable, with what it lists TIED to the program's text (the seventh form; the later family's looks); each row that meets fmt, with fmt's text TOLD by the authors' own Lean function (tested against real Go, not proved from fmt's source: count such statements apart). THE CARD IS WHAT COUNTS. Prove the row's statement (the work); the ties are given (YtanpdfiekjgdoaaDoorTie.lean); close each card by the builder's one call (the guide's Derived/Test/ToyasCard.lean, 'card_holds'). Laid BY PROGRAM, IN A SANDBOX (cutbox-door.mjs). By AI agents, Wed Nov 11 2026. No macro, syntax, notation, axiom, sorry.
-/
import Derived.Test.YtanpdfiekjgdoaaDoorRows
import GoSem.ClaimSeven
namespace Go.Proofs.YtanpdfiekjgdoaaDoor
namespace Rows

/-- THE TIED CARD OF 'inquestlaw01.NumTells'. -/
def numTellsCard : Claim7 := { stood := { row := numTellsRow, standIns := [], harness := (true, "ce96743d5b5765dd6c1b46ad2e5617c4b3bd9b7c53152df2a3d84b27beebd720"), looks := false }, kinds := [], alts := [], laidByText := true, laidKinds := [.data, .data, .data], laidTests := true, laidLooks := .later }
def NumTellsCardSaid : Prop := Claim7.holds Tryd.pinned (.plain (OpenSpec.ofChange numTellsSpec)) numTellsCard

/-- THE TIED CARD OF 'inquestlaw01.NumBack'. -/
def numBackCard : Claim7 := { stood := { row := numBackRow, standIns := [], harness := (true, "ce96743d5b5765dd6c1b46ad2e5617c4b3bd9b7c53152df2a3d84b27beebd720"), looks := false }, kinds := [], alts := [], laidByText := true, laidKinds := [.data, .data, .data], laidTests := true, laidLooks := .later }
def NumBackCardSaid : Prop := Claim7.holds Tryd.pinned (.plain (OpenSpec.ofChange numBackSpec)) numBackCard

/-- THE TIED CARD OF 'inquestlaw01.NumOwn'. -/
def numOwnCard : Claim7 := { stood := { row := numOwnRow, standIns := [], harness := (true, "ce96743d5b5765dd6c1b46ad2e5617c4b3bd9b7c53152df2a3d84b27beebd720"), looks := false }, kinds := [], alts := [], laidByText := true, laidKinds := [.data, .data, .data], laidTests := true, laidLooks := .later }
def NumOwnCardSaid : Prop := Claim7.holds Tryd.pinned (.plain (OpenSpec.ofChange numOwnSpec)) numOwnCard

/-- THE TIED CARD OF 'inquestlaw01.NumRises'. -/
def numRisesCard : Claim7 := { stood := { row := numRisesRow, standIns := [], harness := (true, "ce96743d5b5765dd6c1b46ad2e5617c4b3bd9b7c53152df2a3d84b27beebd720"), looks := false }, kinds := [], alts := [], laidByText := true, laidKinds := [.data, .data, .data], laidTests := true, laidLooks := .later }
def NumRisesCardSaid : Prop := Claim7.holds Tryd.pinned (.plain (OpenSpec.ofChange numRisesSpec)) numRisesCard

/-- THE SECOND FORM's CARD OF 'inquestlaw01.NumTells'. -/
def numTellsUptoCard : Claim7 := { stood := { row := numTellsUptoRow, standIns := [], harness := (true, "ce96743d5b5765dd6c1b46ad2e5617c4b3bd9b7c53152df2a3d84b27beebd720"), looks := false }, kinds := [], alts := [], laidByText := true, laidKinds := [.data, .data, .data], laidTests := true, laidLooks := .later }
def NumTellsUptoCardSaid : Prop := Claim7.holds Tryd.pinned (.plain (OpenSpec.upto numTellsSpec)) numTellsUptoCard

/-- THE SECOND FORM's CARD OF 'inquestlaw01.NumBack'. -/
def numBackUptoCard : Claim7 := { stood := { row := numBackUptoRow, standIns := [], harness := (true, "ce96743d5b5765dd6c1b46ad2e5617c4b3bd9b7c53152df2a3d84b27beebd720"), looks := false }, kinds := [], alts := [], laidByText := true, laidKinds := [.data, .data, .data], laidTests := true, laidLooks := .later }
def NumBackUptoCardSaid : Prop := Claim7.holds Tryd.pinned (.plain (OpenSpec.upto numBackSpec)) numBackUptoCard

/-- THE SECOND FORM's CARD OF 'inquestlaw01.NumOwn'. -/
def numOwnUptoCard : Claim7 := { stood := { row := numOwnUptoRow, standIns := [], harness := (true, "ce96743d5b5765dd6c1b46ad2e5617c4b3bd9b7c53152df2a3d84b27beebd720"), looks := false }, kinds := [], alts := [], laidByText := true, laidKinds := [.data, .data, .data], laidTests := true, laidLooks := .later }
def NumOwnUptoCardSaid : Prop := Claim7.holds Tryd.pinned (.plain (OpenSpec.upto numOwnSpec)) numOwnUptoCard

/-- THE SECOND FORM's CARD OF 'inquestlaw01.NumRises'. -/
def numRisesUptoCard : Claim7 := { stood := { row := numRisesUptoRow, standIns := [], harness := (true, "ce96743d5b5765dd6c1b46ad2e5617c4b3bd9b7c53152df2a3d84b27beebd720"), looks := false }, kinds := [], alts := [], laidByText := true, laidKinds := [.data, .data, .data], laidTests := true, laidLooks := .later }
def NumRisesUptoCardSaid : Prop := Claim7.holds Tryd.pinned (.plain (OpenSpec.upto numRisesSpec)) numRisesUptoCard
end Rows
end Go.Proofs.YtanpdfiekjgdoaaDoor
