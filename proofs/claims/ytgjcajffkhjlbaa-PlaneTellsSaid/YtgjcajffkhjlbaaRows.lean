/-
  No cell of these rows narrows 'for every input' (looked for: loops, veiled, ifaces, maps, wideKeys, modest, calm, conditions, laid).
  DERIVED. THE GIVEN ROWS OF THIS SEAT. 15 by the template 'for every input the law returns true; each argument reads behind the call as it read before'; 0 by the template 'total and deterministic' (their statements: YtgjcajffkhjlbaaTotals.lean).
  GIVEN WITH THE SEED: the statements are not yours to turn. If you find one false, say at which input.
  Laid BY PROGRAM, IN A SANDBOX (cutbox-rows.mjs): the forced cells as the released guide's own fill.sh prints them over the translation c6a80836b1ec2641… (all of the seat's roots in one cut). By AI agents, Wed Nov 11 2026. No macro, syntax, notation, axiom, sorry.
-/
import Derived.Test.YtgjcajffkhjlbaaChecked
import GoSem.Claim
import GoSem.ClaimJoined
import GoSem.ClaimMapViews
import Derived.JoinedTies
import Derived.KernelRfl
namespace Go.Proofs.Ytgjcajffkhjlbaa
/- THE CELL 'sum', in the pinned program and in every row, IS THE sha256 OF THE DUMP (.gsa) THAT YtgjcajffkhjlbaaProg.lean LOADS. Nothing in Lean hashes anything: it is a label: what it is worth is what the hold of that sum in a sandbox is worth. -/
noncomputable def Try.pinned : Pinned := { name := "ytgjcajffkhjlbaa", sum := "c6a80836b1ec2641afa4e73fee04aaa7c1952e8086a7d0c8d550cff7b8192231", checked := Try.checked }
namespace Rows
def none {H : Type} : Left H := { results := [], args := [] }

/-- 'shelterbeltlaw03.VecNew': WHATEVER THE INPUT: true; the input reads as it did. -/
def vecNewSpec : ChangeSpec := { name := "vecNew", fn := fun _ => fun
  | [d1, d2] => { results := [.lit (.bool true)], args := [d1, d2] }
  | _ => none }
def vecNewRow : OpenClaim := { program := "ytgjcajffkhjlbaa", sum := "c6a80836b1ec2641afa4e73fee04aaa7c1952e8086a7d0c8d550cff7b8192231", func := "shelterbelt/shelterbeltlaw03.VecNew", spec := "vecNew", apart := false }
def VecNewSaid : Prop := vecNewRow.holds Try.pinned (OpenSpec.ofChange vecNewSpec)

/-- ITS FALSE NEIGHBOUR: 'it returns false'. Refute it at one input. -/
def vecNewWrong : ChangeSpec := { name := "vecNew", fn := fun _ => fun
  | [d1, d2] => { results := [.lit (.bool false)], args := [d1, d2] }
  | _ => none }
def VecNewWrongFalsely : Prop := vecNewRow.holds Try.pinned (OpenSpec.ofChange vecNewWrong)

/-- 'shelterbeltlaw03.VecParts': WHATEVER THE INPUT: true; the input reads as it did. -/
def vecPartsSpec : ChangeSpec := { name := "vecParts", fn := fun _ => fun
  | [d1, d2, d3, d4] => { results := [.lit (.bool true)], args := [d1, d2, d3, d4] }
  | _ => none }
def vecPartsRow : OpenClaim := { program := "ytgjcajffkhjlbaa", sum := "c6a80836b1ec2641afa4e73fee04aaa7c1952e8086a7d0c8d550cff7b8192231", func := "shelterbelt/shelterbeltlaw03.VecParts", spec := "vecParts", apart := false }
def VecPartsSaid : Prop := vecPartsRow.holds Try.pinned (OpenSpec.ofChange vecPartsSpec)

/-- ITS FALSE NEIGHBOUR: 'it returns false'. Refute it at one input. -/
def vecPartsWrong : ChangeSpec := { name := "vecParts", fn := fun _ => fun
  | [d1, d2, d3, d4] => { results := [.lit (.bool false)], args := [d1, d2, d3, d4] }
  | _ => none }
def VecPartsWrongFalsely : Prop := vecPartsRow.holds Try.pinned (OpenSpec.ofChange vecPartsWrong)

/-- 'shelterbeltlaw11.PlaneMiddle': WHATEVER THE INPUT: true; the input reads as it did. -/
def planeMiddleSpec : ChangeSpec := { name := "planeMiddle", fn := fun _ => fun
  | [d1, d2] => { results := [.lit (.bool true)], args := [d1, d2] }
  | _ => none }
def planeMiddleRow : OpenClaim := { program := "ytgjcajffkhjlbaa", sum := "c6a80836b1ec2641afa4e73fee04aaa7c1952e8086a7d0c8d550cff7b8192231", func := "shelterbelt/shelterbeltlaw11.PlaneMiddle", spec := "planeMiddle", apart := false }
def PlaneMiddleSaid : Prop := planeMiddleRow.holds Try.pinned (OpenSpec.ofChange planeMiddleSpec)

/-- ITS FALSE NEIGHBOUR: 'it returns false'. Refute it at one input. -/
def planeMiddleWrong : ChangeSpec := { name := "planeMiddle", fn := fun _ => fun
  | [d1, d2] => { results := [.lit (.bool false)], args := [d1, d2] }
  | _ => none }
def PlaneMiddleWrongFalsely : Prop := planeMiddleRow.holds Try.pinned (OpenSpec.ofChange planeMiddleWrong)

/-- 'shelterbeltlaw03.VecSpaces': WHATEVER THE INPUT: true; the input reads as it did. -/
def vecSpacesSpec : ChangeSpec := { name := "vecSpaces", fn := fun _ => fun
  | [d1, d2, d3] => { results := [.lit (.bool true)], args := [d1, d2, d3] }
  | _ => none }
def vecSpacesRow : OpenClaim := { program := "ytgjcajffkhjlbaa", sum := "c6a80836b1ec2641afa4e73fee04aaa7c1952e8086a7d0c8d550cff7b8192231", func := "shelterbelt/shelterbeltlaw03.VecSpaces", spec := "vecSpaces", unfollowed := true, recurses := true, apart := false }
def VecSpacesSaid : Prop := vecSpacesRow.holds Try.pinned (OpenSpec.ofChange vecSpacesSpec)

/-- ITS FALSE NEIGHBOUR: 'it returns false'. Refute it at one input. -/
def vecSpacesWrong : ChangeSpec := { name := "vecSpaces", fn := fun _ => fun
  | [d1, d2, d3] => { results := [.lit (.bool false)], args := [d1, d2, d3] }
  | _ => none }
def VecSpacesWrongFalsely : Prop := vecSpacesRow.holds Try.pinned (OpenSpec.ofChange vecSpacesWrong)

/-- 'shelterbeltlaw11.PlaneTurns': WHATEVER THE INPUT: true; the input reads as it did. -/
def planeTurnsSpec : ChangeSpec := { name := "planeTurns", fn := fun _ => fun
  | [d1, d2, d3] => { results := [.lit (.bool true)], args := [d1, d2, d3] }
  | _ => none }
def planeTurnsRow : OpenClaim := { program := "ytgjcajffkhjlbaa", sum := "c6a80836b1ec2641afa4e73fee04aaa7c1952e8086a7d0c8d550cff7b8192231", func := "shelterbelt/shelterbeltlaw11.PlaneTurns", spec := "planeTurns", unfollowed := true, recurses := true, apart := false }
def PlaneTurnsSaid : Prop := planeTurnsRow.holds Try.pinned (OpenSpec.ofChange planeTurnsSpec)

/-- ITS FALSE NEIGHBOUR: 'it returns false'. Refute it at one input. -/
def planeTurnsWrong : ChangeSpec := { name := "planeTurns", fn := fun _ => fun
  | [d1, d2, d3] => { results := [.lit (.bool false)], args := [d1, d2, d3] }
  | _ => none }
def PlaneTurnsWrongFalsely : Prop := planeTurnsRow.holds Try.pinned (OpenSpec.ofChange planeTurnsWrong)

/-- 'shelterbeltlaw03.VecBounds': WHATEVER THE INPUT: true; the input reads as it did. -/
def vecBoundsSpec : ChangeSpec := { name := "vecBounds", fn := fun _ => fun
  | [d1, d2] => { results := [.lit (.bool true)], args := [d1, d2] }
  | _ => none }
def vecBoundsRow : OpenClaim := { program := "ytgjcajffkhjlbaa", sum := "c6a80836b1ec2641afa4e73fee04aaa7c1952e8086a7d0c8d550cff7b8192231", func := "shelterbelt/shelterbeltlaw03.VecBounds", spec := "vecBounds", unfollowed := true, recurses := true, apart := false }
def VecBoundsSaid : Prop := vecBoundsRow.holds Try.pinned (OpenSpec.ofChange vecBoundsSpec)

/-- ITS FALSE NEIGHBOUR: 'it returns false'. Refute it at one input. -/
def vecBoundsWrong : ChangeSpec := { name := "vecBounds", fn := fun _ => fun
  | [d1, d2] => { results := [.lit (.bool false)], args := [d1, d2] }
  | _ => none }
def VecBoundsWrongFalsely : Prop := vecBoundsRow.holds Try.pinned (OpenSpec.ofChange vecBoundsWrong)

/-- 'shelterbeltlaw03.VecShifts': WHATEVER THE INPUT: true; the input reads as it did. -/
def vecShiftsSpec : ChangeSpec := { name := "vecShifts", fn := fun _ => fun
  | [d1, d2, d3] => { results := [.lit (.bool true)], args := [d1, d2, d3] }
  | _ => none }
def vecShiftsRow : OpenClaim := { program := "ytgjcajffkhjlbaa", sum := "c6a80836b1ec2641afa4e73fee04aaa7c1952e8086a7d0c8d550cff7b8192231", func := "shelterbelt/shelterbeltlaw03.VecShifts", spec := "vecShifts", unfollowed := true, recurses := true, apart := false }
def VecShiftsSaid : Prop := vecShiftsRow.holds Try.pinned (OpenSpec.ofChange vecShiftsSpec)

/-- ITS FALSE NEIGHBOUR: 'it returns false'. Refute it at one input. -/
def vecShiftsWrong : ChangeSpec := { name := "vecShifts", fn := fun _ => fun
  | [d1, d2, d3] => { results := [.lit (.bool false)], args := [d1, d2, d3] }
  | _ => none }
def VecShiftsWrongFalsely : Prop := vecShiftsRow.holds Try.pinned (OpenSpec.ofChange vecShiftsWrong)

/-- 'shelterbeltlaw11.PlaneTells': WHATEVER THE INPUT: true; the input reads as it did. -/
def planeTellsSpec : ChangeSpec := { name := "planeTells", fn := fun _ => fun
  | [d1, d2, d3, d4, d5] => { results := [.lit (.bool true)], args := [d1, d2, d3, d4, d5] }
  | _ => none }
def planeTellsRow : OpenClaim := { program := "ytgjcajffkhjlbaa", sum := "c6a80836b1ec2641afa4e73fee04aaa7c1952e8086a7d0c8d550cff7b8192231", func := "shelterbelt/shelterbeltlaw11.PlaneTells", spec := "planeTells", apart := false }
def PlaneTellsSaid : Prop := planeTellsRow.holds Try.pinned (OpenSpec.ofChange planeTellsSpec)

/-- ITS FALSE NEIGHBOUR: 'it returns false'. Refute it at one input. -/
def planeTellsWrong : ChangeSpec := { name := "planeTells", fn := fun _ => fun
  | [d1, d2, d3, d4, d5] => { results := [.lit (.bool false)], args := [d1, d2, d3, d4, d5] }
  | _ => none }
def PlaneTellsWrongFalsely : Prop := planeTellsRow.holds Try.pinned (OpenSpec.ofChange planeTellsWrong)

/-- 'shelterbeltlaw03.VecTells': WHATEVER THE INPUT: true; the input reads as it did. -/
def vecTellsSpec : ChangeSpec := { name := "vecTells", fn := fun _ => fun
  | [d1, d2, d3] => { results := [.lit (.bool true)], args := [d1, d2, d3] }
  | _ => none }
def vecTellsRow : OpenClaim := { program := "ytgjcajffkhjlbaa", sum := "c6a80836b1ec2641afa4e73fee04aaa7c1952e8086a7d0c8d550cff7b8192231", func := "shelterbelt/shelterbeltlaw03.VecTells", spec := "vecTells", unfollowed := true, recurses := true, apart := false }
def VecTellsSaid : Prop := vecTellsRow.holds Try.pinned (OpenSpec.ofChange vecTellsSpec)

/-- ITS FALSE NEIGHBOUR: 'it returns false'. Refute it at one input. -/
def vecTellsWrong : ChangeSpec := { name := "vecTells", fn := fun _ => fun
  | [d1, d2, d3] => { results := [.lit (.bool false)], args := [d1, d2, d3] }
  | _ => none }
def VecTellsWrongFalsely : Prop := vecTellsRow.holds Try.pinned (OpenSpec.ofChange vecTellsWrong)

/-- 'shelterbeltlaw11.PlaneBounds': WHATEVER THE INPUT: true; the input reads as it did. -/
def planeBoundsSpec : ChangeSpec := { name := "planeBounds", fn := fun _ => fun
  | [d1, d2] => { results := [.lit (.bool true)], args := [d1, d2] }
  | _ => none }
def planeBoundsRow : OpenClaim := { program := "ytgjcajffkhjlbaa", sum := "c6a80836b1ec2641afa4e73fee04aaa7c1952e8086a7d0c8d550cff7b8192231", func := "shelterbelt/shelterbeltlaw11.PlaneBounds", spec := "planeBounds", unfollowed := true, recurses := true, apart := false }
def PlaneBoundsSaid : Prop := planeBoundsRow.holds Try.pinned (OpenSpec.ofChange planeBoundsSpec)

/-- ITS FALSE NEIGHBOUR: 'it returns false'. Refute it at one input. -/
def planeBoundsWrong : ChangeSpec := { name := "planeBounds", fn := fun _ => fun
  | [d1, d2] => { results := [.lit (.bool false)], args := [d1, d2] }
  | _ => none }
def PlaneBoundsWrongFalsely : Prop := planeBoundsRow.holds Try.pinned (OpenSpec.ofChange planeBoundsWrong)

/-- 'shelterbeltlaw11.PlaneBetween': WHATEVER THE INPUT: true; the input reads as it did. -/
def planeBetweenSpec : ChangeSpec := { name := "planeBetween", fn := fun _ => fun
  | [d1, d2, d3] => { results := [.lit (.bool true)], args := [d1, d2, d3] }
  | _ => none }
def planeBetweenRow : OpenClaim := { program := "ytgjcajffkhjlbaa", sum := "c6a80836b1ec2641afa4e73fee04aaa7c1952e8086a7d0c8d550cff7b8192231", func := "shelterbelt/shelterbeltlaw11.PlaneBetween", spec := "planeBetween", unfollowed := true, recurses := true, apart := false }
def PlaneBetweenSaid : Prop := planeBetweenRow.holds Try.pinned (OpenSpec.ofChange planeBetweenSpec)

/-- ITS FALSE NEIGHBOUR: 'it returns false'. Refute it at one input. -/
def planeBetweenWrong : ChangeSpec := { name := "planeBetween", fn := fun _ => fun
  | [d1, d2, d3] => { results := [.lit (.bool false)], args := [d1, d2, d3] }
  | _ => none }
def PlaneBetweenWrongFalsely : Prop := planeBetweenRow.holds Try.pinned (OpenSpec.ofChange planeBetweenWrong)

/-- 'shelterbeltlaw10.DataAdds': WHATEVER THE INPUT: true; the input reads as it did. -/
def dataAddsSpec : ChangeSpec := { name := "dataAdds", fn := fun _ => fun
  | [d1, d2] => { results := [.lit (.bool true)], args := [d1, d2] }
  | _ => none }
def dataAddsRow : OpenClaim := { program := "ytgjcajffkhjlbaa", sum := "c6a80836b1ec2641afa4e73fee04aaa7c1952e8086a7d0c8d550cff7b8192231", func := "shelterbelt/shelterbeltlaw10.DataAdds", spec := "dataAdds", unfollowed := true, recurses := true, apart := false }
def DataAddsSaid : Prop := dataAddsRow.holds Try.pinned (OpenSpec.ofChange dataAddsSpec)

/-- ITS FALSE NEIGHBOUR: 'it returns false'. Refute it at one input. -/
def dataAddsWrong : ChangeSpec := { name := "dataAdds", fn := fun _ => fun
  | [d1, d2] => { results := [.lit (.bool false)], args := [d1, d2] }
  | _ => none }
def DataAddsWrongFalsely : Prop := dataAddsRow.holds Try.pinned (OpenSpec.ofChange dataAddsWrong)

/-- 'shelterbeltlaw10.DataNew': WHATEVER THE INPUT: true; the input reads as it did. -/
def dataNewSpec : ChangeSpec := { name := "dataNew", fn := fun _ => fun
  | [d1, d2] => { results := [.lit (.bool true)], args := [d1, d2] }
  | _ => none }
def dataNewRow : OpenClaim := { program := "ytgjcajffkhjlbaa", sum := "c6a80836b1ec2641afa4e73fee04aaa7c1952e8086a7d0c8d550cff7b8192231", func := "shelterbelt/shelterbeltlaw10.DataNew", spec := "dataNew", unfollowed := true, recurses := true, apart := false }
def DataNewSaid : Prop := dataNewRow.holds Try.pinned (OpenSpec.ofChange dataNewSpec)

/-- ITS FALSE NEIGHBOUR: 'it returns false'. Refute it at one input. -/
def dataNewWrong : ChangeSpec := { name := "dataNew", fn := fun _ => fun
  | [d1, d2] => { results := [.lit (.bool false)], args := [d1, d2] }
  | _ => none }
def DataNewWrongFalsely : Prop := dataNewRow.holds Try.pinned (OpenSpec.ofChange dataNewWrong)

/-- 'shelterbeltlaw10.DataOf': WHATEVER THE INPUT: true; the input reads as it did. -/
def dataOfSpec : ChangeSpec := { name := "dataOf", fn := fun _ => fun
  | [d1, d2, d3, d4] => { results := [.lit (.bool true)], args := [d1, d2, d3, d4] }
  | _ => none }
def dataOfRow : OpenClaim := { program := "ytgjcajffkhjlbaa", sum := "c6a80836b1ec2641afa4e73fee04aaa7c1952e8086a7d0c8d550cff7b8192231", func := "shelterbelt/shelterbeltlaw10.DataOf", spec := "dataOf", unfollowed := true, recurses := true, apart := false }
def DataOfSaid : Prop := dataOfRow.holds Try.pinned (OpenSpec.ofChange dataOfSpec)

/-- ITS FALSE NEIGHBOUR: 'it returns false'. Refute it at one input. -/
def dataOfWrong : ChangeSpec := { name := "dataOf", fn := fun _ => fun
  | [d1, d2, d3, d4] => { results := [.lit (.bool false)], args := [d1, d2, d3, d4] }
  | _ => none }
def DataOfWrongFalsely : Prop := dataOfRow.holds Try.pinned (OpenSpec.ofChange dataOfWrong)

/-- 'shelterbeltlaw10.DataRows': WHATEVER THE INPUT: true; the input reads as it did. -/
def dataRowsSpec : ChangeSpec := { name := "dataRows", fn := fun _ => fun
  | [d1, d2, d3, d4] => { results := [.lit (.bool true)], args := [d1, d2, d3, d4] }
  | _ => none }
def dataRowsRow : OpenClaim := { program := "ytgjcajffkhjlbaa", sum := "c6a80836b1ec2641afa4e73fee04aaa7c1952e8086a7d0c8d550cff7b8192231", func := "shelterbelt/shelterbeltlaw10.DataRows", spec := "dataRows", unfollowed := true, recurses := true, apart := false }
def DataRowsSaid : Prop := dataRowsRow.holds Try.pinned (OpenSpec.ofChange dataRowsSpec)

/-- ITS FALSE NEIGHBOUR: 'it returns false'. Refute it at one input. -/
def dataRowsWrong : ChangeSpec := { name := "dataRows", fn := fun _ => fun
  | [d1, d2, d3, d4] => { results := [.lit (.bool false)], args := [d1, d2, d3, d4] }
  | _ => none }
def DataRowsWrongFalsely : Prop := dataRowsRow.holds Try.pinned (OpenSpec.ofChange dataRowsWrong)

/- THE SECOND FORM. 'bulk': how many values and letters a reading holds, each counted each time it is reached (what is shared counts as often as it is met; a slice's spare places count too). A statement '..UptoSaid' is the law's where the arguments, and the package variables that the reading takes, are together of bulk at most 1048576: NARROWER than '..Said'. Prove '..Said' where nothing that the law and all that it calls make is longer than what came in: it says more and counts as full. Else prove '..UptoSaid'. A law counts once. -/
mutual
def uptoBulk {H : Type} : DataW H → Nat
  | .lit (.string bytes) => bytes.length + 1
  | .lit _ => 1
  | .nil => 1
  | .ptr d => uptoBulk d + 1
  | .slice elems spare => uptoBulkAll elems + uptoBulkAll spare + 1
  | .agg parts => uptoBulkAll parts + 1
  | .iface _ d => uptoBulk d + 1
  | .map entries => uptoBulkEntries entries + 1
  | .held _ => 1
def uptoBulkAll {H : Type} : List (DataW H) → Nat
  | [] => 0
  | d :: r => uptoBulk d + uptoBulkAll r
def uptoBulkEntries {H : Type} : List (Lit × DataW H) → Nat
  | [] => 0
  | x :: r => uptoBulkEntry x + uptoBulkEntries r
def uptoBulkEntry {H : Type} : Lit × DataW H → Nat
  | (.string bytes, d) => bytes.length + uptoBulk d + 1
  | (_, d) => uptoBulk d + 1
 end
def uptoSmall : (H : Type) → List (DataW H) → Bool := fun _ ds => decide (uptoBulkAll ds ≤ 1048576)
def OpenSpec.upto (s : _root_.Go.ChangeSpec) : _root_.Go.OpenSpec := { _root_.Go.OpenSpec.ofChange s with cond := some uptoSmall }

/-- 'shelterbeltlaw03.VecNew', WHERE WHAT IT READS IS OF BULK AT MOST 1048576: true; the input reads as it did. -/
def vecNewUptoRow : OpenClaim := { program := "ytgjcajffkhjlbaa", sum := "c6a80836b1ec2641afa4e73fee04aaa7c1952e8086a7d0c8d550cff7b8192231", func := "shelterbelt/shelterbeltlaw03.VecNew", spec := "vecNew", apart := false, narrowed := true }
def VecNewUptoSaid : Prop := vecNewUptoRow.holds Try.pinned (OpenSpec.upto vecNewSpec)

/-- 'shelterbeltlaw03.VecParts', WHERE WHAT IT READS IS OF BULK AT MOST 1048576: true; the input reads as it did. -/
def vecPartsUptoRow : OpenClaim := { program := "ytgjcajffkhjlbaa", sum := "c6a80836b1ec2641afa4e73fee04aaa7c1952e8086a7d0c8d550cff7b8192231", func := "shelterbelt/shelterbeltlaw03.VecParts", spec := "vecParts", apart := false, narrowed := true }
def VecPartsUptoSaid : Prop := vecPartsUptoRow.holds Try.pinned (OpenSpec.upto vecPartsSpec)

/-- 'shelterbeltlaw11.PlaneMiddle', WHERE WHAT IT READS IS OF BULK AT MOST 1048576: true; the input reads as it did. -/
def planeMiddleUptoRow : OpenClaim := { program := "ytgjcajffkhjlbaa", sum := "c6a80836b1ec2641afa4e73fee04aaa7c1952e8086a7d0c8d550cff7b8192231", func := "shelterbelt/shelterbeltlaw11.PlaneMiddle", spec := "planeMiddle", apart := false, narrowed := true }
def PlaneMiddleUptoSaid : Prop := planeMiddleUptoRow.holds Try.pinned (OpenSpec.upto planeMiddleSpec)

/-- 'shelterbeltlaw03.VecSpaces', WHERE WHAT IT READS IS OF BULK AT MOST 1048576: true; the input reads as it did. -/
def vecSpacesUptoRow : OpenClaim := { program := "ytgjcajffkhjlbaa", sum := "c6a80836b1ec2641afa4e73fee04aaa7c1952e8086a7d0c8d550cff7b8192231", func := "shelterbelt/shelterbeltlaw03.VecSpaces", spec := "vecSpaces", unfollowed := true, recurses := true, apart := false, narrowed := true }
def VecSpacesUptoSaid : Prop := vecSpacesUptoRow.holds Try.pinned (OpenSpec.upto vecSpacesSpec)

/-- 'shelterbeltlaw11.PlaneTurns', WHERE WHAT IT READS IS OF BULK AT MOST 1048576: true; the input reads as it did. -/
def planeTurnsUptoRow : OpenClaim := { program := "ytgjcajffkhjlbaa", sum := "c6a80836b1ec2641afa4e73fee04aaa7c1952e8086a7d0c8d550cff7b8192231", func := "shelterbelt/shelterbeltlaw11.PlaneTurns", spec := "planeTurns", unfollowed := true, recurses := true, apart := false, narrowed := true }
def PlaneTurnsUptoSaid : Prop := planeTurnsUptoRow.holds Try.pinned (OpenSpec.upto planeTurnsSpec)

/-- 'shelterbeltlaw03.VecBounds', WHERE WHAT IT READS IS OF BULK AT MOST 1048576: true; the input reads as it did. -/
def vecBoundsUptoRow : OpenClaim := { program := "ytgjcajffkhjlbaa", sum := "c6a80836b1ec2641afa4e73fee04aaa7c1952e8086a7d0c8d550cff7b8192231", func := "shelterbelt/shelterbeltlaw03.VecBounds", spec := "vecBounds", unfollowed := true, recurses := true, apart := false, narrowed := true }
def VecBoundsUptoSaid : Prop := vecBoundsUptoRow.holds Try.pinned (OpenSpec.upto vecBoundsSpec)

/-- 'shelterbeltlaw03.VecShifts', WHERE WHAT IT READS IS OF BULK AT MOST 1048576: true; the input reads as it did. -/
def vecShiftsUptoRow : OpenClaim := { program := "ytgjcajffkhjlbaa", sum := "c6a80836b1ec2641afa4e73fee04aaa7c1952e8086a7d0c8d550cff7b8192231", func := "shelterbelt/shelterbeltlaw03.VecShifts", spec := "vecShifts", unfollowed := true, recurses := true, apart := false, narrowed := true }
def VecShiftsUptoSaid : Prop := vecShiftsUptoRow.holds Try.pinned (OpenSpec.upto vecShiftsSpec)

/-- 'shelterbeltlaw11.PlaneTells', WHERE WHAT IT READS IS OF BULK AT MOST 1048576: true; the input reads as it did. -/
def planeTellsUptoRow : OpenClaim := { program := "ytgjcajffkhjlbaa", sum := "c6a80836b1ec2641afa4e73fee04aaa7c1952e8086a7d0c8d550cff7b8192231", func := "shelterbelt/shelterbeltlaw11.PlaneTells", spec := "planeTells", apart := false, narrowed := true }
def PlaneTellsUptoSaid : Prop := planeTellsUptoRow.holds Try.pinned (OpenSpec.upto planeTellsSpec)

/-- 'shelterbeltlaw03.VecTells', WHERE WHAT IT READS IS OF BULK AT MOST 1048576: true; the input reads as it did. -/
def vecTellsUptoRow : OpenClaim := { program := "ytgjcajffkhjlbaa", sum := "c6a80836b1ec2641afa4e73fee04aaa7c1952e8086a7d0c8d550cff7b8192231", func := "shelterbelt/shelterbeltlaw03.VecTells", spec := "vecTells", unfollowed := true, recurses := true, apart := false, narrowed := true }
def VecTellsUptoSaid : Prop := vecTellsUptoRow.holds Try.pinned (OpenSpec.upto vecTellsSpec)

/-- 'shelterbeltlaw11.PlaneBounds', WHERE WHAT IT READS IS OF BULK AT MOST 1048576: true; the input reads as it did. -/
def planeBoundsUptoRow : OpenClaim := { program := "ytgjcajffkhjlbaa", sum := "c6a80836b1ec2641afa4e73fee04aaa7c1952e8086a7d0c8d550cff7b8192231", func := "shelterbelt/shelterbeltlaw11.PlaneBounds", spec := "planeBounds", unfollowed := true, recurses := true, apart := false, narrowed := true }
def PlaneBoundsUptoSaid : Prop := planeBoundsUptoRow.holds Try.pinned (OpenSpec.upto planeBoundsSpec)

/-- 'shelterbeltlaw11.PlaneBetween', WHERE WHAT IT READS IS OF BULK AT MOST 1048576: true; the input reads as it did. -/
def planeBetweenUptoRow : OpenClaim := { program := "ytgjcajffkhjlbaa", sum := "c6a80836b1ec2641afa4e73fee04aaa7c1952e8086a7d0c8d550cff7b8192231", func := "shelterbelt/shelterbeltlaw11.PlaneBetween", spec := "planeBetween", unfollowed := true, recurses := true, apart := false, narrowed := true }
def PlaneBetweenUptoSaid : Prop := planeBetweenUptoRow.holds Try.pinned (OpenSpec.upto planeBetweenSpec)

/-- 'shelterbeltlaw10.DataAdds', WHERE WHAT IT READS IS OF BULK AT MOST 1048576: true; the input reads as it did. -/
def dataAddsUptoRow : OpenClaim := { program := "ytgjcajffkhjlbaa", sum := "c6a80836b1ec2641afa4e73fee04aaa7c1952e8086a7d0c8d550cff7b8192231", func := "shelterbelt/shelterbeltlaw10.DataAdds", spec := "dataAdds", unfollowed := true, recurses := true, apart := false, narrowed := true }
def DataAddsUptoSaid : Prop := dataAddsUptoRow.holds Try.pinned (OpenSpec.upto dataAddsSpec)

/-- 'shelterbeltlaw10.DataNew', WHERE WHAT IT READS IS OF BULK AT MOST 1048576: true; the input reads as it did. -/
def dataNewUptoRow : OpenClaim := { program := "ytgjcajffkhjlbaa", sum := "c6a80836b1ec2641afa4e73fee04aaa7c1952e8086a7d0c8d550cff7b8192231", func := "shelterbelt/shelterbeltlaw10.DataNew", spec := "dataNew", unfollowed := true, recurses := true, apart := false, narrowed := true }
def DataNewUptoSaid : Prop := dataNewUptoRow.holds Try.pinned (OpenSpec.upto dataNewSpec)

/-- 'shelterbeltlaw10.DataOf', WHERE WHAT IT READS IS OF BULK AT MOST 1048576: true; the input reads as it did. -/
def dataOfUptoRow : OpenClaim := { program := "ytgjcajffkhjlbaa", sum := "c6a80836b1ec2641afa4e73fee04aaa7c1952e8086a7d0c8d550cff7b8192231", func := "shelterbelt/shelterbeltlaw10.DataOf", spec := "dataOf", unfollowed := true, recurses := true, apart := false, narrowed := true }
def DataOfUptoSaid : Prop := dataOfUptoRow.holds Try.pinned (OpenSpec.upto dataOfSpec)

/-- 'shelterbeltlaw10.DataRows', WHERE WHAT IT READS IS OF BULK AT MOST 1048576: true; the input reads as it did. -/
def dataRowsUptoRow : OpenClaim := { program := "ytgjcajffkhjlbaa", sum := "c6a80836b1ec2641afa4e73fee04aaa7c1952e8086a7d0c8d550cff7b8192231", func := "shelterbelt/shelterbeltlaw10.DataRows", spec := "dataRows", unfollowed := true, recurses := true, apart := false, narrowed := true }
def DataRowsUptoSaid : Prop := dataRowsUptoRow.holds Try.pinned (OpenSpec.upto dataRowsSpec)

end Rows
end Go.Proofs.Ytgjcajffkhjlbaa
