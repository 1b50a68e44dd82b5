/-
  No cell of these rows narrows 'for every input' (looked for: loops, veiled, ifaces, maps, wideKeys, modest, calm, conditions, laid).
  DERIVED. THE GIVEN ROWS OF THIS SEAT. 4 by the template 'for every input the law returns true; each argument reads behind the call as it read before'; 0 by the template 'total and deterministic' (their statements: YtlmaloikhmkokaaTotals.lean).
  GIVEN WITH THE SEED: the statements are not yours to turn. If you find one false, say at which input.
  Laid BY PROGRAM, IN A SANDBOX (cutbox-rows.mjs): the forced cells as the released guide's own fill.sh prints them over the translation cafeb060560f67f3… (all of the seat's roots in one cut). By AI agents, Wed Nov 11 2026. No macro, syntax, notation, axiom, sorry.
-/
import Derived.Test.YtlmaloikhmkokaaChecked
import GoSem.Claim
import GoSem.ClaimJoined
import GoSem.ClaimMapViews
import Derived.JoinedTies
import Derived.KernelRfl
namespace Go.Proofs.Ytlmaloikhmkokaa
/- THE CELL 'sum', in the pinned program and in every row, IS THE sha256 OF THE DUMP (.gsa) THAT YtlmaloikhmkokaaProg.lean LOADS. Nothing in Lean hashes anything: it is a label: what it is worth is what the hold of that sum in a sandbox is worth. -/
noncomputable def Try.pinned : Pinned := { name := "ytlmaloikhmkokaa", sum := "cafeb060560f67f305ad73378e2ff3d0ff697c3da91bfd276ece520c26088cea", checked := Try.checked }
namespace Rows
def none {H : Type} : Left H := { results := [], args := [] }

/-- 'inquestlaw05.GroupTells': WHATEVER THE INPUT: true; the input reads as it did. -/
def groupTellsSpec : ChangeSpec := { name := "groupTells", fn := fun _ => fun
  | [d1, d2] => { results := [.lit (.bool true)], args := [d1, d2] }
  | _ => none }
def groupTellsRow : OpenClaim := { program := "ytlmaloikhmkokaa", sum := "cafeb060560f67f305ad73378e2ff3d0ff697c3da91bfd276ece520c26088cea", func := "inquest/inquestlaw05.GroupTells", spec := "groupTells", apart := false }
def GroupTellsSaid : Prop := groupTellsRow.holds Try.pinned (OpenSpec.ofChange groupTellsSpec)

/-- ITS FALSE NEIGHBOUR: 'it returns false'. Refute it at one input. -/
def groupTellsWrong : ChangeSpec := { name := "groupTells", fn := fun _ => fun
  | [d1, d2] => { results := [.lit (.bool false)], args := [d1, d2] }
  | _ => none }
def GroupTellsWrongFalsely : Prop := groupTellsRow.holds Try.pinned (OpenSpec.ofChange groupTellsWrong)

/-- 'inquestlaw05.GroupBack': WHATEVER THE INPUT: true; the input reads as it did. -/
def groupBackSpec : ChangeSpec := { name := "groupBack", fn := fun _ => fun
  | [d] => { results := [.lit (.bool true)], args := [d] }
  | _ => none }
def groupBackRow : OpenClaim := { program := "ytlmaloikhmkokaa", sum := "cafeb060560f67f305ad73378e2ff3d0ff697c3da91bfd276ece520c26088cea", func := "inquest/inquestlaw05.GroupBack", spec := "groupBack", apart := false }
def GroupBackSaid : Prop := groupBackRow.holds Try.pinned (OpenSpec.ofChange groupBackSpec)

/-- ITS FALSE NEIGHBOUR: 'it returns false'. Refute it at one input. -/
def groupBackWrong : ChangeSpec := { name := "groupBack", fn := fun _ => fun
  | [d] => { results := [.lit (.bool false)], args := [d] }
  | _ => none }
def GroupBackWrongFalsely : Prop := groupBackRow.holds Try.pinned (OpenSpec.ofChange groupBackWrong)

/-- 'inquestlaw05.GroupApart': WHATEVER THE INPUT: true; the input reads as it did. -/
def groupApartSpec : ChangeSpec := { name := "groupApart", fn := fun _ => fun
  | [d1, d2] => { results := [.lit (.bool true)], args := [d1, d2] }
  | _ => none }
def groupApartRow : OpenClaim := { program := "ytlmaloikhmkokaa", sum := "cafeb060560f67f305ad73378e2ff3d0ff697c3da91bfd276ece520c26088cea", func := "inquest/inquestlaw05.GroupApart", spec := "groupApart", apart := false }
def GroupApartSaid : Prop := groupApartRow.holds Try.pinned (OpenSpec.ofChange groupApartSpec)

/-- ITS FALSE NEIGHBOUR: 'it returns false'. Refute it at one input. -/
def groupApartWrong : ChangeSpec := { name := "groupApart", fn := fun _ => fun
  | [d1, d2] => { results := [.lit (.bool false)], args := [d1, d2] }
  | _ => none }
def GroupApartWrongFalsely : Prop := groupApartRow.holds Try.pinned (OpenSpec.ofChange groupApartWrong)

/-- 'inquestlaw05.GroupFirst': WHATEVER THE INPUT: true; the input reads as it did. -/
def groupFirstSpec : ChangeSpec := { name := "groupFirst", fn := fun _ => fun
  | [d] => { results := [.lit (.bool true)], args := [d] }
  | _ => none }
def groupFirstRow : OpenClaim := { program := "ytlmaloikhmkokaa", sum := "cafeb060560f67f305ad73378e2ff3d0ff697c3da91bfd276ece520c26088cea", func := "inquest/inquestlaw05.GroupFirst", spec := "groupFirst", apart := false }
def GroupFirstSaid : Prop := groupFirstRow.holds Try.pinned (OpenSpec.ofChange groupFirstSpec)

/-- ITS FALSE NEIGHBOUR: 'it returns false'. Refute it at one input. -/
def groupFirstWrong : ChangeSpec := { name := "groupFirst", fn := fun _ => fun
  | [d] => { results := [.lit (.bool false)], args := [d] }
  | _ => none }
def GroupFirstWrongFalsely : Prop := groupFirstRow.holds Try.pinned (OpenSpec.ofChange groupFirstWrong)

/- THE SECOND FORM. 'bulk': how many values and letters a reading holds, each counted each time it is reached (what is shared counts as often as it is met; a slice's spare places count too). A statement '..UptoSaid' is the law's where the arguments, and the package variables that the reading takes, are together of bulk at most 1048576: NARROWER than '..Said'. Prove '..Said' where nothing that the law and all that it calls make is longer than what came in: it says more and counts as full. Else prove '..UptoSaid'. A law counts once. -/
mutual
def uptoBulk {H : Type} : DataW H → Nat
  | .lit (.string bytes) => bytes.length + 1
  | .lit _ => 1
  | .nil => 1
  | .ptr d => uptoBulk d + 1
  | .slice elems spare => uptoBulkAll elems + uptoBulkAll spare + 1
  | .agg parts => uptoBulkAll parts + 1
  | .iface _ d => uptoBulk d + 1
  | .map entries => uptoBulkEntries entries + 1
  | .held _ => 1
def uptoBulkAll {H : Type} : List (DataW H) → Nat
  | [] => 0
  | d :: r => uptoBulk d + uptoBulkAll r
def uptoBulkEntries {H : Type} : List (Lit × DataW H) → Nat
  | [] => 0
  | x :: r => uptoBulkEntry x + uptoBulkEntries r
def uptoBulkEntry {H : Type} : Lit × DataW H → Nat
  | (.string bytes, d) => bytes.length + uptoBulk d + 1
  | (_, d) => uptoBulk d + 1
 end
def uptoSmall : (H : Type) → List (DataW H) → Bool := fun _ ds => decide (uptoBulkAll ds ≤ 1048576)
def OpenSpec.upto (s : _root_.Go.ChangeSpec) : _root_.Go.OpenSpec := { _root_.Go.OpenSpec.ofChange s with cond := some uptoSmall }

/-- 'inquestlaw05.GroupTells', WHERE WHAT IT READS IS OF BULK AT MOST 1048576: true; the input reads as it did. -/
def groupTellsUptoRow : OpenClaim := { program := "ytlmaloikhmkokaa", sum := "cafeb060560f67f305ad73378e2ff3d0ff697c3da91bfd276ece520c26088cea", func := "inquest/inquestlaw05.GroupTells", spec := "groupTells", apart := false, narrowed := true }
def GroupTellsUptoSaid : Prop := groupTellsUptoRow.holds Try.pinned (OpenSpec.upto groupTellsSpec)

/-- 'inquestlaw05.GroupBack', WHERE WHAT IT READS IS OF BULK AT MOST 1048576: true; the input reads as it did. -/
def groupBackUptoRow : OpenClaim := { program := "ytlmaloikhmkokaa", sum := "cafeb060560f67f305ad73378e2ff3d0ff697c3da91bfd276ece520c26088cea", func := "inquest/inquestlaw05.GroupBack", spec := "groupBack", apart := false, narrowed := true }
def GroupBackUptoSaid : Prop := groupBackUptoRow.holds Try.pinned (OpenSpec.upto groupBackSpec)

/-- 'inquestlaw05.GroupApart', WHERE WHAT IT READS IS OF BULK AT MOST 1048576: true; the input reads as it did. -/
def groupApartUptoRow : OpenClaim := { program := "ytlmaloikhmkokaa", sum := "cafeb060560f67f305ad73378e2ff3d0ff697c3da91bfd276ece520c26088cea", func := "inquest/inquestlaw05.GroupApart", spec := "groupApart", apart := false, narrowed := true }
def GroupApartUptoSaid : Prop := groupApartUptoRow.holds Try.pinned (OpenSpec.upto groupApartSpec)

/-- 'inquestlaw05.GroupFirst', WHERE WHAT IT READS IS OF BULK AT MOST 1048576: true; the input reads as it did. -/
def groupFirstUptoRow : OpenClaim := { program := "ytlmaloikhmkokaa", sum := "cafeb060560f67f305ad73378e2ff3d0ff697c3da91bfd276ece520c26088cea", func := "inquest/inquestlaw05.GroupFirst", spec := "groupFirst", apart := false, narrowed := true }
def GroupFirstUptoSaid : Prop := groupFirstUptoRow.holds Try.pinned (OpenSpec.upto groupFirstSpec)

end Rows
end Go.Proofs.Ytlmaloikhmkokaa
