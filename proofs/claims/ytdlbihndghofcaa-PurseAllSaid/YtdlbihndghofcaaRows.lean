/-
  No cell of these rows narrows 'for every input' (looked for: loops, veiled, ifaces, maps, wideKeys, modest, calm, conditions, laid).
  DERIVED. THE GIVEN ROWS OF THIS SEAT. 4 by the template 'for every input the law returns true; each argument reads behind the call as it read before'; 0 by the template 'total and deterministic' (their statements: YtdlbihndghofcaaTotals.lean).
  GIVEN WITH THE SEED: the statements are not yours to turn. If you find one false, say at which input.
  Laid BY PROGRAM, IN A SANDBOX (cutbox-rows.mjs): the forced cells as the released guide's own fill.sh prints them over the translation 90b97b44a1407eb2… (all of the seat's roots in one cut). By AI agents, Wed Nov 11 2026. No macro, syntax, notation, axiom, sorry.
-/
import Derived.Test.YtdlbihndghofcaaChecked
import GoSem.Claim
import GoSem.ClaimJoined
import GoSem.ClaimMapViews
import Derived.JoinedTies
import Derived.KernelRfl
namespace Go.Proofs.Ytdlbihndghofcaa
/- THE CELL 'sum', in the pinned program and in every row, IS THE sha256 OF THE DUMP (.gsa) THAT YtdlbihndghofcaaProg.lean LOADS. Nothing in Lean hashes anything: it is a label: what it is worth is what the hold of that sum in a sandbox is worth. -/
noncomputable def Try.pinned : Pinned := { name := "ytdlbihndghofcaa", sum := "90b97b44a1407eb2d1b3845d2d00872af7a5993aae13793c487470f9066b9b55", checked := Try.checked }
namespace Rows
def none {H : Type} : Left H := { results := [], args := [] }

/-- 'inquestlaw32.PurseTells': WHATEVER THE INPUT: true; the input reads as it did. -/
def purseTellsSpec : ChangeSpec := { name := "purseTells", fn := fun _ => fun
  | [d1, d2, d3] => { results := [.lit (.bool true)], args := [d1, d2, d3] }
  | _ => none }
def purseTellsRow : OpenClaim := { program := "ytdlbihndghofcaa", sum := "90b97b44a1407eb2d1b3845d2d00872af7a5993aae13793c487470f9066b9b55", func := "inquest/inquestlaw32.PurseTells", spec := "purseTells", apart := false }
def PurseTellsSaid : Prop := purseTellsRow.holds Try.pinned (OpenSpec.ofChange purseTellsSpec)

/-- ITS FALSE NEIGHBOUR: 'it returns false'. Refute it at one input. -/
def purseTellsWrong : ChangeSpec := { name := "purseTells", fn := fun _ => fun
  | [d1, d2, d3] => { results := [.lit (.bool false)], args := [d1, d2, d3] }
  | _ => none }
def PurseTellsWrongFalsely : Prop := purseTellsRow.holds Try.pinned (OpenSpec.ofChange purseTellsWrong)

/-- 'inquestlaw32.PurseKeeps': WHATEVER THE INPUT: true; the input reads as it did. -/
def purseKeepsSpec : ChangeSpec := { name := "purseKeeps", fn := fun _ => fun
  | [d1, d2, d3] => { results := [.lit (.bool true)], args := [d1, d2, d3] }
  | _ => none }
def purseKeepsRow : OpenClaim := { program := "ytdlbihndghofcaa", sum := "90b97b44a1407eb2d1b3845d2d00872af7a5993aae13793c487470f9066b9b55", func := "inquest/inquestlaw32.PurseKeeps", spec := "purseKeeps", apart := false }
def PurseKeepsSaid : Prop := purseKeepsRow.holds Try.pinned (OpenSpec.ofChange purseKeepsSpec)

/-- ITS FALSE NEIGHBOUR: 'it returns false'. Refute it at one input. -/
def purseKeepsWrong : ChangeSpec := { name := "purseKeeps", fn := fun _ => fun
  | [d1, d2, d3] => { results := [.lit (.bool false)], args := [d1, d2, d3] }
  | _ => none }
def PurseKeepsWrongFalsely : Prop := purseKeepsRow.holds Try.pinned (OpenSpec.ofChange purseKeepsWrong)

/-- 'inquestlaw32.PurseMay': WHATEVER THE INPUT: true; the input reads as it did. -/
def purseMaySpec : ChangeSpec := { name := "purseMay", fn := fun _ => fun
  | [d] => { results := [.lit (.bool true)], args := [d] }
  | _ => none }
def purseMayRow : OpenClaim := { program := "ytdlbihndghofcaa", sum := "90b97b44a1407eb2d1b3845d2d00872af7a5993aae13793c487470f9066b9b55", func := "inquest/inquestlaw32.PurseMay", spec := "purseMay", apart := false }
def PurseMaySaid : Prop := purseMayRow.holds Try.pinned (OpenSpec.ofChange purseMaySpec)

/-- ITS FALSE NEIGHBOUR: 'it returns false'. Refute it at one input. -/
def purseMayWrong : ChangeSpec := { name := "purseMay", fn := fun _ => fun
  | [d] => { results := [.lit (.bool false)], args := [d] }
  | _ => none }
def PurseMayWrongFalsely : Prop := purseMayRow.holds Try.pinned (OpenSpec.ofChange purseMayWrong)

/-- 'inquestlaw32.PurseAll': WHATEVER THE INPUT: true; the input reads as it did. -/
def purseAllSpec : ChangeSpec := { name := "purseAll", fn := fun _ => fun
  | [d1, d2] => { results := [.lit (.bool true)], args := [d1, d2] }
  | _ => none }
def purseAllRow : OpenClaim := { program := "ytdlbihndghofcaa", sum := "90b97b44a1407eb2d1b3845d2d00872af7a5993aae13793c487470f9066b9b55", func := "inquest/inquestlaw32.PurseAll", spec := "purseAll", apart := false }
def PurseAllSaid : Prop := purseAllRow.holds Try.pinned (OpenSpec.ofChange purseAllSpec)

/-- ITS FALSE NEIGHBOUR: 'it returns false'. Refute it at one input. -/
def purseAllWrong : ChangeSpec := { name := "purseAll", fn := fun _ => fun
  | [d1, d2] => { results := [.lit (.bool false)], args := [d1, d2] }
  | _ => none }
def PurseAllWrongFalsely : Prop := purseAllRow.holds Try.pinned (OpenSpec.ofChange purseAllWrong)

/- THE SECOND FORM. 'bulk': how many values and letters a reading holds, each counted each time it is reached (what is shared counts as often as it is met; a slice's spare places count too). A statement '..UptoSaid' is the law's where the arguments, and the package variables that the reading takes, are together of bulk at most 1048576: NARROWER than '..Said'. Prove '..Said' where nothing that the law and all that it calls make is longer than what came in: it says more and counts as full. Else prove '..UptoSaid'. A law counts once. -/
mutual
def uptoBulk {H : Type} : DataW H → Nat
  | .lit (.string bytes) => bytes.length + 1
  | .lit _ => 1
  | .nil => 1
  | .ptr d => uptoBulk d + 1
  | .slice elems spare => uptoBulkAll elems + uptoBulkAll spare + 1
  | .agg parts => uptoBulkAll parts + 1
  | .iface _ d => uptoBulk d + 1
  | .map entries => uptoBulkEntries entries + 1
  | .held _ => 1
def uptoBulkAll {H : Type} : List (DataW H) → Nat
  | [] => 0
  | d :: r => uptoBulk d + uptoBulkAll r
def uptoBulkEntries {H : Type} : List (Lit × DataW H) → Nat
  | [] => 0
  | x :: r => uptoBulkEntry x + uptoBulkEntries r
def uptoBulkEntry {H : Type} : Lit × DataW H → Nat
  | (.string bytes, d) => bytes.length + uptoBulk d + 1
  | (_, d) => uptoBulk d + 1
 end
def uptoSmall : (H : Type) → List (DataW H) → Bool := fun _ ds => decide (uptoBulkAll ds ≤ 1048576)
def OpenSpec.upto (s : _root_.Go.ChangeSpec) : _root_.Go.OpenSpec := { _root_.Go.OpenSpec.ofChange s with cond := some uptoSmall }

/-- 'inquestlaw32.PurseTells', WHERE WHAT IT READS IS OF BULK AT MOST 1048576: true; the input reads as it did. -/
def purseTellsUptoRow : OpenClaim := { program := "ytdlbihndghofcaa", sum := "90b97b44a1407eb2d1b3845d2d00872af7a5993aae13793c487470f9066b9b55", func := "inquest/inquestlaw32.PurseTells", spec := "purseTells", apart := false, narrowed := true }
def PurseTellsUptoSaid : Prop := purseTellsUptoRow.holds Try.pinned (OpenSpec.upto purseTellsSpec)

/-- 'inquestlaw32.PurseKeeps', WHERE WHAT IT READS IS OF BULK AT MOST 1048576: true; the input reads as it did. -/
def purseKeepsUptoRow : OpenClaim := { program := "ytdlbihndghofcaa", sum := "90b97b44a1407eb2d1b3845d2d00872af7a5993aae13793c487470f9066b9b55", func := "inquest/inquestlaw32.PurseKeeps", spec := "purseKeeps", apart := false, narrowed := true }
def PurseKeepsUptoSaid : Prop := purseKeepsUptoRow.holds Try.pinned (OpenSpec.upto purseKeepsSpec)

/-- 'inquestlaw32.PurseMay', WHERE WHAT IT READS IS OF BULK AT MOST 1048576: true; the input reads as it did. -/
def purseMayUptoRow : OpenClaim := { program := "ytdlbihndghofcaa", sum := "90b97b44a1407eb2d1b3845d2d00872af7a5993aae13793c487470f9066b9b55", func := "inquest/inquestlaw32.PurseMay", spec := "purseMay", apart := false, narrowed := true }
def PurseMayUptoSaid : Prop := purseMayUptoRow.holds Try.pinned (OpenSpec.upto purseMaySpec)

/-- 'inquestlaw32.PurseAll', WHERE WHAT IT READS IS OF BULK AT MOST 1048576: true; the input reads as it did. -/
def purseAllUptoRow : OpenClaim := { program := "ytdlbihndghofcaa", sum := "90b97b44a1407eb2d1b3845d2d00872af7a5993aae13793c487470f9066b9b55", func := "inquest/inquestlaw32.PurseAll", spec := "purseAll", apart := false, narrowed := true }
def PurseAllUptoSaid : Prop := purseAllUptoRow.holds Try.pinned (OpenSpec.upto purseAllSpec)

end Rows
end Go.Proofs.Ytdlbihndghofcaa
