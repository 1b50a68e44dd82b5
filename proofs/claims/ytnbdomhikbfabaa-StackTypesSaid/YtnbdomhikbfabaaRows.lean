/-
  No cell of these rows narrows 'for every input' (looked for: loops, veiled, ifaces, maps, wideKeys, modest, calm, conditions, laid).
  DERIVED. THE GIVEN ROWS OF THIS SEAT. 4 by the template 'for every input the law returns true; each argument reads behind the call as it read before'; 0 by the template 'total and deterministic' (their statements: YtnbdomhikbfabaaTotals.lean).
  GIVEN WITH THE SEED: the statements are not yours to turn. If you find one false, say at which input.
  Laid BY PROGRAM, IN A SANDBOX (cutbox-rows.mjs): the forced cells as the released guide's own fill.sh prints them over the translation 12674ea8ca71b1a7… (all of the seat's roots in one cut). By AI agents, Wed Nov 11 2026. No macro, syntax, notation, axiom, sorry.
-/
import Derived.Test.YtnbdomhikbfabaaChecked
import GoSem.Claim
import GoSem.ClaimJoined
import GoSem.ClaimMapViews
import Derived.JoinedTies
import Derived.KernelRfl
namespace Go.Proofs.Ytnbdomhikbfabaa
/- THE CELL 'sum', in the pinned program and in every row, IS THE sha256 OF THE DUMP (.gsa) THAT YtnbdomhikbfabaaProg.lean LOADS. Nothing in Lean hashes anything: it is a label: what it is worth is what the hold of that sum in a sandbox is worth. -/
noncomputable def Try.pinned : Pinned := { name := "ytnbdomhikbfabaa", sum := "12674ea8ca71b1a731e265543f6b16cd43348ab0af2968f2d4165072110c1e11", checked := Try.checked }
namespace Rows
def none {H : Type} : Left H := { results := [], args := [] }

/-- 'inquestlaw11.StackDoes': WHATEVER THE INPUT: true; the input reads as it did. -/
def stackDoesSpec : ChangeSpec := { name := "stackDoes", fn := fun _ => fun
  | [d1, d2] => { results := [.lit (.bool true)], args := [d1, d2] }
  | _ => none }
def stackDoesRow : OpenClaim := { program := "ytnbdomhikbfabaa", sum := "12674ea8ca71b1a731e265543f6b16cd43348ab0af2968f2d4165072110c1e11", func := "inquest/inquestlaw11.StackDoes", spec := "stackDoes", apart := false }
def StackDoesSaid : Prop := stackDoesRow.holds Try.pinned (OpenSpec.ofChange stackDoesSpec)

/-- ITS FALSE NEIGHBOUR: 'it returns false'. Refute it at one input. -/
def stackDoesWrong : ChangeSpec := { name := "stackDoes", fn := fun _ => fun
  | [d1, d2] => { results := [.lit (.bool false)], args := [d1, d2] }
  | _ => none }
def StackDoesWrongFalsely : Prop := stackDoesRow.holds Try.pinned (OpenSpec.ofChange stackDoesWrong)

/-- 'inquestlaw11.StackTurns': WHATEVER THE INPUT: true; the input reads as it did. -/
def stackTurnsSpec : ChangeSpec := { name := "stackTurns", fn := fun _ => fun
  | [d] => { results := [.lit (.bool true)], args := [d] }
  | _ => none }
def stackTurnsRow : OpenClaim := { program := "ytnbdomhikbfabaa", sum := "12674ea8ca71b1a731e265543f6b16cd43348ab0af2968f2d4165072110c1e11", func := "inquest/inquestlaw11.StackTurns", spec := "stackTurns", apart := false }
def StackTurnsSaid : Prop := stackTurnsRow.holds Try.pinned (OpenSpec.ofChange stackTurnsSpec)

/-- ITS FALSE NEIGHBOUR: 'it returns false'. Refute it at one input. -/
def stackTurnsWrong : ChangeSpec := { name := "stackTurns", fn := fun _ => fun
  | [d] => { results := [.lit (.bool false)], args := [d] }
  | _ => none }
def StackTurnsWrongFalsely : Prop := stackTurnsRow.holds Try.pinned (OpenSpec.ofChange stackTurnsWrong)

/-- 'inquestlaw11.StackBack': WHATEVER THE INPUT: true; the input reads as it did. -/
def stackBackSpec : ChangeSpec := { name := "stackBack", fn := fun _ => fun
  | [d1, d2] => { results := [.lit (.bool true)], args := [d1, d2] }
  | _ => none }
def stackBackRow : OpenClaim := { program := "ytnbdomhikbfabaa", sum := "12674ea8ca71b1a731e265543f6b16cd43348ab0af2968f2d4165072110c1e11", func := "inquest/inquestlaw11.StackBack", spec := "stackBack", apart := false }
def StackBackSaid : Prop := stackBackRow.holds Try.pinned (OpenSpec.ofChange stackBackSpec)

/-- ITS FALSE NEIGHBOUR: 'it returns false'. Refute it at one input. -/
def stackBackWrong : ChangeSpec := { name := "stackBack", fn := fun _ => fun
  | [d1, d2] => { results := [.lit (.bool false)], args := [d1, d2] }
  | _ => none }
def StackBackWrongFalsely : Prop := stackBackRow.holds Try.pinned (OpenSpec.ofChange stackBackWrong)

/-- 'inquestlaw11.StackTypes': WHATEVER THE INPUT: true; the input reads as it did. -/
def stackTypesSpec : ChangeSpec := { name := "stackTypes", fn := fun _ => fun
  | [d1, d2] => { results := [.lit (.bool true)], args := [d1, d2] }
  | _ => none }
def stackTypesRow : OpenClaim := { program := "ytnbdomhikbfabaa", sum := "12674ea8ca71b1a731e265543f6b16cd43348ab0af2968f2d4165072110c1e11", func := "inquest/inquestlaw11.StackTypes", spec := "stackTypes", apart := false }
def StackTypesSaid : Prop := stackTypesRow.holds Try.pinned (OpenSpec.ofChange stackTypesSpec)

/-- ITS FALSE NEIGHBOUR: 'it returns false'. Refute it at one input. -/
def stackTypesWrong : ChangeSpec := { name := "stackTypes", fn := fun _ => fun
  | [d1, d2] => { results := [.lit (.bool false)], args := [d1, d2] }
  | _ => none }
def StackTypesWrongFalsely : Prop := stackTypesRow.holds Try.pinned (OpenSpec.ofChange stackTypesWrong)

/- THE SECOND FORM. 'bulk': how many values and letters a reading holds, each counted each time it is reached (what is shared counts as often as it is met; a slice's spare places count too). A statement '..UptoSaid' is the law's where the arguments, and the package variables that the reading takes, are together of bulk at most 1048576: NARROWER than '..Said'. Prove '..Said' where nothing that the law and all that it calls make is longer than what came in: it says more and counts as full. Else prove '..UptoSaid'. A law counts once. -/
mutual
def uptoBulk {H : Type} : DataW H → Nat
  | .lit (.string bytes) => bytes.length + 1
  | .lit _ => 1
  | .nil => 1
  | .ptr d => uptoBulk d + 1
  | .slice elems spare => uptoBulkAll elems + uptoBulkAll spare + 1
  | .agg parts => uptoBulkAll parts + 1
  | .iface _ d => uptoBulk d + 1
  | .map entries => uptoBulkEntries entries + 1
  | .held _ => 1
def uptoBulkAll {H : Type} : List (DataW H) → Nat
  | [] => 0
  | d :: r => uptoBulk d + uptoBulkAll r
def uptoBulkEntries {H : Type} : List (Lit × DataW H) → Nat
  | [] => 0
  | x :: r => uptoBulkEntry x + uptoBulkEntries r
def uptoBulkEntry {H : Type} : Lit × DataW H → Nat
  | (.string bytes, d) => bytes.length + uptoBulk d + 1
  | (_, d) => uptoBulk d + 1
 end
def uptoSmall : (H : Type) → List (DataW H) → Bool := fun _ ds => decide (uptoBulkAll ds ≤ 1048576)
def OpenSpec.upto (s : _root_.Go.ChangeSpec) : _root_.Go.OpenSpec := { _root_.Go.OpenSpec.ofChange s with cond := some uptoSmall }

/-- 'inquestlaw11.StackDoes', WHERE WHAT IT READS IS OF BULK AT MOST 1048576: true; the input reads as it did. -/
def stackDoesUptoRow : OpenClaim := { program := "ytnbdomhikbfabaa", sum := "12674ea8ca71b1a731e265543f6b16cd43348ab0af2968f2d4165072110c1e11", func := "inquest/inquestlaw11.StackDoes", spec := "stackDoes", apart := false, narrowed := true }
def StackDoesUptoSaid : Prop := stackDoesUptoRow.holds Try.pinned (OpenSpec.upto stackDoesSpec)

/-- 'inquestlaw11.StackTurns', WHERE WHAT IT READS IS OF BULK AT MOST 1048576: true; the input reads as it did. -/
def stackTurnsUptoRow : OpenClaim := { program := "ytnbdomhikbfabaa", sum := "12674ea8ca71b1a731e265543f6b16cd43348ab0af2968f2d4165072110c1e11", func := "inquest/inquestlaw11.StackTurns", spec := "stackTurns", apart := false, narrowed := true }
def StackTurnsUptoSaid : Prop := stackTurnsUptoRow.holds Try.pinned (OpenSpec.upto stackTurnsSpec)

/-- 'inquestlaw11.StackBack', WHERE WHAT IT READS IS OF BULK AT MOST 1048576: true; the input reads as it did. -/
def stackBackUptoRow : OpenClaim := { program := "ytnbdomhikbfabaa", sum := "12674ea8ca71b1a731e265543f6b16cd43348ab0af2968f2d4165072110c1e11", func := "inquest/inquestlaw11.StackBack", spec := "stackBack", apart := false, narrowed := true }
def StackBackUptoSaid : Prop := stackBackUptoRow.holds Try.pinned (OpenSpec.upto stackBackSpec)

/-- 'inquestlaw11.StackTypes', WHERE WHAT IT READS IS OF BULK AT MOST 1048576: true; the input reads as it did. -/
def stackTypesUptoRow : OpenClaim := { program := "ytnbdomhikbfabaa", sum := "12674ea8ca71b1a731e265543f6b16cd43348ab0af2968f2d4165072110c1e11", func := "inquest/inquestlaw11.StackTypes", spec := "stackTypes", apart := false, narrowed := true }
def StackTypesUptoSaid : Prop := stackTypesUptoRow.holds Try.pinned (OpenSpec.upto stackTypesSpec)

end Rows
end Go.Proofs.Ytnbdomhikbfabaa
