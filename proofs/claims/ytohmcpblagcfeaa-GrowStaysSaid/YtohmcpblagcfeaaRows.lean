/-
  No cell of these rows narrows 'for every input' (looked for: loops, veiled, ifaces, maps, wideKeys, modest, calm, conditions, laid).
  DERIVED. THE GIVEN ROWS OF THIS SEAT. 10 by the template 'for every input the law returns true; each argument reads behind the call as it read before'; 0 by the template 'total and deterministic' (their statements: YtohmcpblagcfeaaTotals.lean).
  GIVEN WITH THE SEED: the statements are not yours to turn. If you find one false, say at which input.
  Laid BY PROGRAM, IN A SANDBOX (cutbox-rows.mjs): the forced cells as the released guide's own fill.sh prints them over the translation d95750faf056d337… (all of the seat's roots in one cut). By AI agents, Wed Nov 11 2026. No macro, syntax, notation, axiom, sorry.
-/
import Derived.Test.YtohmcpblagcfeaaChecked
import GoSem.Claim
import GoSem.ClaimJoined
import GoSem.ClaimMapViews
import Derived.JoinedTies
import Derived.KernelRfl
namespace Go.Proofs.Ytohmcpblagcfeaa
/- THE CELL 'sum', in the pinned program and in every row, IS THE sha256 OF THE DUMP (.gsa) THAT YtohmcpblagcfeaaProg.lean LOADS. Nothing in Lean hashes anything: it is a label: what it is worth is what the hold of that sum in a sandbox is worth. -/
noncomputable def Try.pinned : Pinned := { name := "ytohmcpblagcfeaa", sum := "d95750faf056d337e4d6de5e143c90647564ceb69ae5dd14dac4be3af543d21c", checked := Try.checked }
namespace Rows
def none {H : Type} : Left H := { results := [], args := [] }

/-- 'shelterbeltlaw12.SplitParts': WHATEVER THE INPUT: true; the input reads as it did. -/
def splitPartsSpec : ChangeSpec := { name := "splitParts", fn := fun _ => fun
  | [d1, d2, d3, d4] => { results := [.lit (.bool true)], args := [d1, d2, d3, d4] }
  | _ => none }
def splitPartsRow : OpenClaim := { program := "ytohmcpblagcfeaa", sum := "d95750faf056d337e4d6de5e143c90647564ceb69ae5dd14dac4be3af543d21c", func := "shelterbelt/shelterbeltlaw12.SplitParts", spec := "splitParts", unfollowed := true, recurses := true, apart := false }
def SplitPartsSaid : Prop := splitPartsRow.holds Try.pinned (OpenSpec.ofChange splitPartsSpec)

/-- ITS FALSE NEIGHBOUR: 'it returns false'. Refute it at one input. -/
def splitPartsWrong : ChangeSpec := { name := "splitParts", fn := fun _ => fun
  | [d1, d2, d3, d4] => { results := [.lit (.bool false)], args := [d1, d2, d3, d4] }
  | _ => none }
def SplitPartsWrongFalsely : Prop := splitPartsRow.holds Try.pinned (OpenSpec.ofChange splitPartsWrong)

/-- 'shelterbeltlaw12.SplitSame': WHATEVER THE INPUT: true; the input reads as it did. -/
def splitSameSpec : ChangeSpec := { name := "splitSame", fn := fun _ => fun
  | [d1, d2, d3] => { results := [.lit (.bool true)], args := [d1, d2, d3] }
  | _ => none }
def splitSameRow : OpenClaim := { program := "ytohmcpblagcfeaa", sum := "d95750faf056d337e4d6de5e143c90647564ceb69ae5dd14dac4be3af543d21c", func := "shelterbelt/shelterbeltlaw12.SplitSame", spec := "splitSame", unfollowed := true, recurses := true, apart := false }
def SplitSameSaid : Prop := splitSameRow.holds Try.pinned (OpenSpec.ofChange splitSameSpec)

/-- ITS FALSE NEIGHBOUR: 'it returns false'. Refute it at one input. -/
def splitSameWrong : ChangeSpec := { name := "splitSame", fn := fun _ => fun
  | [d1, d2, d3] => { results := [.lit (.bool false)], args := [d1, d2, d3] }
  | _ => none }
def SplitSameWrongFalsely : Prop := splitSameRow.holds Try.pinned (OpenSpec.ofChange splitSameWrong)

/-- 'shelterbeltlaw12.SplitWhole': WHATEVER THE INPUT: true; the input reads as it did. -/
def splitWholeSpec : ChangeSpec := { name := "splitWhole", fn := fun _ => fun
  | [d1, d2, d3, d4] => { results := [.lit (.bool true)], args := [d1, d2, d3, d4] }
  | _ => none }
def splitWholeRow : OpenClaim := { program := "ytohmcpblagcfeaa", sum := "d95750faf056d337e4d6de5e143c90647564ceb69ae5dd14dac4be3af543d21c", func := "shelterbelt/shelterbeltlaw12.SplitWhole", spec := "splitWhole", unfollowed := true, recurses := true, apart := false }
def SplitWholeSaid : Prop := splitWholeRow.holds Try.pinned (OpenSpec.ofChange splitWholeSpec)

/-- ITS FALSE NEIGHBOUR: 'it returns false'. Refute it at one input. -/
def splitWholeWrong : ChangeSpec := { name := "splitWhole", fn := fun _ => fun
  | [d1, d2, d3, d4] => { results := [.lit (.bool false)], args := [d1, d2, d3, d4] }
  | _ => none }
def SplitWholeWrongFalsely : Prop := splitWholeRow.holds Try.pinned (OpenSpec.ofChange splitWholeWrong)

/-- 'shelterbeltlaw12.SplitStays': WHATEVER THE INPUT: true; the input reads as it did. -/
def splitStaysSpec : ChangeSpec := { name := "splitStays", fn := fun _ => fun
  | [d1, d2, d3, d4, d5] => { results := [.lit (.bool true)], args := [d1, d2, d3, d4, d5] }
  | _ => none }
def splitStaysRow : OpenClaim := { program := "ytohmcpblagcfeaa", sum := "d95750faf056d337e4d6de5e143c90647564ceb69ae5dd14dac4be3af543d21c", func := "shelterbelt/shelterbeltlaw12.SplitStays", spec := "splitStays", unfollowed := true, recurses := true, apart := false }
def SplitStaysSaid : Prop := splitStaysRow.holds Try.pinned (OpenSpec.ofChange splitStaysSpec)

/-- ITS FALSE NEIGHBOUR: 'it returns false'. Refute it at one input. -/
def splitStaysWrong : ChangeSpec := { name := "splitStays", fn := fun _ => fun
  | [d1, d2, d3, d4, d5] => { results := [.lit (.bool false)], args := [d1, d2, d3, d4, d5] }
  | _ => none }
def SplitStaysWrongFalsely : Prop := splitStaysRow.holds Try.pinned (OpenSpec.ofChange splitStaysWrong)

/-- 'shelterbeltlaw12.SplitChooses': WHATEVER THE INPUT: true; the input reads as it did. -/
def splitChoosesSpec : ChangeSpec := { name := "splitChooses", fn := fun _ => fun
  | [d1, d2, d3, d4] => { results := [.lit (.bool true)], args := [d1, d2, d3, d4] }
  | _ => none }
def splitChoosesRow : OpenClaim := { program := "ytohmcpblagcfeaa", sum := "d95750faf056d337e4d6de5e143c90647564ceb69ae5dd14dac4be3af543d21c", func := "shelterbelt/shelterbeltlaw12.SplitChooses", spec := "splitChooses", unfollowed := true, recurses := true, apart := false }
def SplitChoosesSaid : Prop := splitChoosesRow.holds Try.pinned (OpenSpec.ofChange splitChoosesSpec)

/-- ITS FALSE NEIGHBOUR: 'it returns false'. Refute it at one input. -/
def splitChoosesWrong : ChangeSpec := { name := "splitChooses", fn := fun _ => fun
  | [d1, d2, d3, d4] => { results := [.lit (.bool false)], args := [d1, d2, d3, d4] }
  | _ => none }
def SplitChoosesWrongFalsely : Prop := splitChoosesRow.holds Try.pinned (OpenSpec.ofChange splitChoosesWrong)

/-- 'shelterbeltlaw13.GrowSame': WHATEVER THE INPUT: true; the input reads as it did. -/
def growSameSpec : ChangeSpec := { name := "growSame", fn := fun _ => fun
  | [d1, d2, d3, d4] => { results := [.lit (.bool true)], args := [d1, d2, d3, d4] }
  | _ => none }
def growSameRow : OpenClaim := { program := "ytohmcpblagcfeaa", sum := "d95750faf056d337e4d6de5e143c90647564ceb69ae5dd14dac4be3af543d21c", func := "shelterbelt/shelterbeltlaw13.GrowSame", spec := "growSame", unfollowed := true, recurses := true, apart := false }
def GrowSameSaid : Prop := growSameRow.holds Try.pinned (OpenSpec.ofChange growSameSpec)

/-- ITS FALSE NEIGHBOUR: 'it returns false'. Refute it at one input. -/
def growSameWrong : ChangeSpec := { name := "growSame", fn := fun _ => fun
  | [d1, d2, d3, d4] => { results := [.lit (.bool false)], args := [d1, d2, d3, d4] }
  | _ => none }
def GrowSameWrongFalsely : Prop := growSameRow.holds Try.pinned (OpenSpec.ofChange growSameWrong)

/-- 'shelterbeltlaw13.GrowTree': WHATEVER THE INPUT: true; the input reads as it did. -/
def growTreeSpec : ChangeSpec := { name := "growTree", fn := fun _ => fun
  | [d1, d2, d3, d4] => { results := [.lit (.bool true)], args := [d1, d2, d3, d4] }
  | _ => none }
def growTreeRow : OpenClaim := { program := "ytohmcpblagcfeaa", sum := "d95750faf056d337e4d6de5e143c90647564ceb69ae5dd14dac4be3af543d21c", func := "shelterbelt/shelterbeltlaw13.GrowTree", spec := "growTree", unfollowed := true, recurses := true, apart := false }
def GrowTreeSaid : Prop := growTreeRow.holds Try.pinned (OpenSpec.ofChange growTreeSpec)

/-- ITS FALSE NEIGHBOUR: 'it returns false'. Refute it at one input. -/
def growTreeWrong : ChangeSpec := { name := "growTree", fn := fun _ => fun
  | [d1, d2, d3, d4] => { results := [.lit (.bool false)], args := [d1, d2, d3, d4] }
  | _ => none }
def GrowTreeWrongFalsely : Prop := growTreeRow.holds Try.pinned (OpenSpec.ofChange growTreeWrong)

/-- 'shelterbeltlaw13.GrowBounds': WHATEVER THE INPUT: true; the input reads as it did. -/
def growBoundsSpec : ChangeSpec := { name := "growBounds", fn := fun _ => fun
  | [d1, d2, d3, d4, d5, d6] => { results := [.lit (.bool true)], args := [d1, d2, d3, d4, d5, d6] }
  | _ => none }
def growBoundsRow : OpenClaim := { program := "ytohmcpblagcfeaa", sum := "d95750faf056d337e4d6de5e143c90647564ceb69ae5dd14dac4be3af543d21c", func := "shelterbelt/shelterbeltlaw13.GrowBounds", spec := "growBounds", unfollowed := true, recurses := true, apart := false }
def GrowBoundsSaid : Prop := growBoundsRow.holds Try.pinned (OpenSpec.ofChange growBoundsSpec)

/-- ITS FALSE NEIGHBOUR: 'it returns false'. Refute it at one input. -/
def growBoundsWrong : ChangeSpec := { name := "growBounds", fn := fun _ => fun
  | [d1, d2, d3, d4, d5, d6] => { results := [.lit (.bool false)], args := [d1, d2, d3, d4, d5, d6] }
  | _ => none }
def GrowBoundsWrongFalsely : Prop := growBoundsRow.holds Try.pinned (OpenSpec.ofChange growBoundsWrong)

/-- 'shelterbeltlaw13.GrowFew': WHATEVER THE INPUT: true; the input reads as it did. -/
def growFewSpec : ChangeSpec := { name := "growFew", fn := fun _ => fun
  | [d1, d2, d3, d4] => { results := [.lit (.bool true)], args := [d1, d2, d3, d4] }
  | _ => none }
def growFewRow : OpenClaim := { program := "ytohmcpblagcfeaa", sum := "d95750faf056d337e4d6de5e143c90647564ceb69ae5dd14dac4be3af543d21c", func := "shelterbelt/shelterbeltlaw13.GrowFew", spec := "growFew", unfollowed := true, recurses := true, apart := false }
def GrowFewSaid : Prop := growFewRow.holds Try.pinned (OpenSpec.ofChange growFewSpec)

/-- ITS FALSE NEIGHBOUR: 'it returns false'. Refute it at one input. -/
def growFewWrong : ChangeSpec := { name := "growFew", fn := fun _ => fun
  | [d1, d2, d3, d4] => { results := [.lit (.bool false)], args := [d1, d2, d3, d4] }
  | _ => none }
def GrowFewWrongFalsely : Prop := growFewRow.holds Try.pinned (OpenSpec.ofChange growFewWrong)

/-- 'shelterbeltlaw13.GrowStays': WHATEVER THE INPUT: true; the input reads as it did. -/
def growStaysSpec : ChangeSpec := { name := "growStays", fn := fun _ => fun
  | [d1, d2, d3, d4] => { results := [.lit (.bool true)], args := [d1, d2, d3, d4] }
  | _ => none }
def growStaysRow : OpenClaim := { program := "ytohmcpblagcfeaa", sum := "d95750faf056d337e4d6de5e143c90647564ceb69ae5dd14dac4be3af543d21c", func := "shelterbelt/shelterbeltlaw13.GrowStays", spec := "growStays", unfollowed := true, recurses := true, apart := false }
def GrowStaysSaid : Prop := growStaysRow.holds Try.pinned (OpenSpec.ofChange growStaysSpec)

/-- ITS FALSE NEIGHBOUR: 'it returns false'. Refute it at one input. -/
def growStaysWrong : ChangeSpec := { name := "growStays", fn := fun _ => fun
  | [d1, d2, d3, d4] => { results := [.lit (.bool false)], args := [d1, d2, d3, d4] }
  | _ => none }
def GrowStaysWrongFalsely : Prop := growStaysRow.holds Try.pinned (OpenSpec.ofChange growStaysWrong)

/- THE SECOND FORM. 'bulk': how many values and letters a reading holds, each counted each time it is reached (what is shared counts as often as it is met; a slice's spare places count too). A statement '..UptoSaid' is the law's where the arguments, and the package variables that the reading takes, are together of bulk at most 1048576: NARROWER than '..Said'. Prove '..Said' where nothing that the law and all that it calls make is longer than what came in: it says more and counts as full. Else prove '..UptoSaid'. A law counts once. -/
mutual
def uptoBulk {H : Type} : DataW H → Nat
  | .lit (.string bytes) => bytes.length + 1
  | .lit _ => 1
  | .nil => 1
  | .ptr d => uptoBulk d + 1
  | .slice elems spare => uptoBulkAll elems + uptoBulkAll spare + 1
  | .agg parts => uptoBulkAll parts + 1
  | .iface _ d => uptoBulk d + 1
  | .map entries => uptoBulkEntries entries + 1
  | .held _ => 1
def uptoBulkAll {H : Type} : List (DataW H) → Nat
  | [] => 0
  | d :: r => uptoBulk d + uptoBulkAll r
def uptoBulkEntries {H : Type} : List (Lit × DataW H) → Nat
  | [] => 0
  | x :: r => uptoBulkEntry x + uptoBulkEntries r
def uptoBulkEntry {H : Type} : Lit × DataW H → Nat
  | (.string bytes, d) => bytes.length + uptoBulk d + 1
  | (_, d) => uptoBulk d + 1
 end
def uptoSmall : (H : Type) → List (DataW H) → Bool := fun _ ds => decide (uptoBulkAll ds ≤ 1048576)
def OpenSpec.upto (s : _root_.Go.ChangeSpec) : _root_.Go.OpenSpec := { _root_.Go.OpenSpec.ofChange s with cond := some uptoSmall }

/-- 'shelterbeltlaw12.SplitParts', WHERE WHAT IT READS IS OF BULK AT MOST 1048576: true; the input reads as it did. -/
def splitPartsUptoRow : OpenClaim := { program := "ytohmcpblagcfeaa", sum := "d95750faf056d337e4d6de5e143c90647564ceb69ae5dd14dac4be3af543d21c", func := "shelterbelt/shelterbeltlaw12.SplitParts", spec := "splitParts", unfollowed := true, recurses := true, apart := false, narrowed := true }
def SplitPartsUptoSaid : Prop := splitPartsUptoRow.holds Try.pinned (OpenSpec.upto splitPartsSpec)

/-- 'shelterbeltlaw12.SplitSame', WHERE WHAT IT READS IS OF BULK AT MOST 1048576: true; the input reads as it did. -/
def splitSameUptoRow : OpenClaim := { program := "ytohmcpblagcfeaa", sum := "d95750faf056d337e4d6de5e143c90647564ceb69ae5dd14dac4be3af543d21c", func := "shelterbelt/shelterbeltlaw12.SplitSame", spec := "splitSame", unfollowed := true, recurses := true, apart := false, narrowed := true }
def SplitSameUptoSaid : Prop := splitSameUptoRow.holds Try.pinned (OpenSpec.upto splitSameSpec)

/-- 'shelterbeltlaw12.SplitWhole', WHERE WHAT IT READS IS OF BULK AT MOST 1048576: true; the input reads as it did. -/
def splitWholeUptoRow : OpenClaim := { program := "ytohmcpblagcfeaa", sum := "d95750faf056d337e4d6de5e143c90647564ceb69ae5dd14dac4be3af543d21c", func := "shelterbelt/shelterbeltlaw12.SplitWhole", spec := "splitWhole", unfollowed := true, recurses := true, apart := false, narrowed := true }
def SplitWholeUptoSaid : Prop := splitWholeUptoRow.holds Try.pinned (OpenSpec.upto splitWholeSpec)

/-- 'shelterbeltlaw12.SplitStays', WHERE WHAT IT READS IS OF BULK AT MOST 1048576: true; the input reads as it did. -/
def splitStaysUptoRow : OpenClaim := { program := "ytohmcpblagcfeaa", sum := "d95750faf056d337e4d6de5e143c90647564ceb69ae5dd14dac4be3af543d21c", func := "shelterbelt/shelterbeltlaw12.SplitStays", spec := "splitStays", unfollowed := true, recurses := true, apart := false, narrowed := true }
def SplitStaysUptoSaid : Prop := splitStaysUptoRow.holds Try.pinned (OpenSpec.upto splitStaysSpec)

/-- 'shelterbeltlaw12.SplitChooses', WHERE WHAT IT READS IS OF BULK AT MOST 1048576: true; the input reads as it did. -/
def splitChoosesUptoRow : OpenClaim := { program := "ytohmcpblagcfeaa", sum := "d95750faf056d337e4d6de5e143c90647564ceb69ae5dd14dac4be3af543d21c", func := "shelterbelt/shelterbeltlaw12.SplitChooses", spec := "splitChooses", unfollowed := true, recurses := true, apart := false, narrowed := true }
def SplitChoosesUptoSaid : Prop := splitChoosesUptoRow.holds Try.pinned (OpenSpec.upto splitChoosesSpec)

/-- 'shelterbeltlaw13.GrowSame', WHERE WHAT IT READS IS OF BULK AT MOST 1048576: true; the input reads as it did. -/
def growSameUptoRow : OpenClaim := { program := "ytohmcpblagcfeaa", sum := "d95750faf056d337e4d6de5e143c90647564ceb69ae5dd14dac4be3af543d21c", func := "shelterbelt/shelterbeltlaw13.GrowSame", spec := "growSame", unfollowed := true, recurses := true, apart := false, narrowed := true }
def GrowSameUptoSaid : Prop := growSameUptoRow.holds Try.pinned (OpenSpec.upto growSameSpec)

/-- 'shelterbeltlaw13.GrowTree', WHERE WHAT IT READS IS OF BULK AT MOST 1048576: true; the input reads as it did. -/
def growTreeUptoRow : OpenClaim := { program := "ytohmcpblagcfeaa", sum := "d95750faf056d337e4d6de5e143c90647564ceb69ae5dd14dac4be3af543d21c", func := "shelterbelt/shelterbeltlaw13.GrowTree", spec := "growTree", unfollowed := true, recurses := true, apart := false, narrowed := true }
def GrowTreeUptoSaid : Prop := growTreeUptoRow.holds Try.pinned (OpenSpec.upto growTreeSpec)

/-- 'shelterbeltlaw13.GrowBounds', WHERE WHAT IT READS IS OF BULK AT MOST 1048576: true; the input reads as it did. -/
def growBoundsUptoRow : OpenClaim := { program := "ytohmcpblagcfeaa", sum := "d95750faf056d337e4d6de5e143c90647564ceb69ae5dd14dac4be3af543d21c", func := "shelterbelt/shelterbeltlaw13.GrowBounds", spec := "growBounds", unfollowed := true, recurses := true, apart := false, narrowed := true }
def GrowBoundsUptoSaid : Prop := growBoundsUptoRow.holds Try.pinned (OpenSpec.upto growBoundsSpec)

/-- 'shelterbeltlaw13.GrowFew', WHERE WHAT IT READS IS OF BULK AT MOST 1048576: true; the input reads as it did. -/
def growFewUptoRow : OpenClaim := { program := "ytohmcpblagcfeaa", sum := "d95750faf056d337e4d6de5e143c90647564ceb69ae5dd14dac4be3af543d21c", func := "shelterbelt/shelterbeltlaw13.GrowFew", spec := "growFew", unfollowed := true, recurses := true, apart := false, narrowed := true }
def GrowFewUptoSaid : Prop := growFewUptoRow.holds Try.pinned (OpenSpec.upto growFewSpec)

/-- 'shelterbeltlaw13.GrowStays', WHERE WHAT IT READS IS OF BULK AT MOST 1048576: true; the input reads as it did. -/
def growStaysUptoRow : OpenClaim := { program := "ytohmcpblagcfeaa", sum := "d95750faf056d337e4d6de5e143c90647564ceb69ae5dd14dac4be3af543d21c", func := "shelterbelt/shelterbeltlaw13.GrowStays", spec := "growStays", unfollowed := true, recurses := true, apart := false, narrowed := true }
def GrowStaysUptoSaid : Prop := growStaysUptoRow.holds Try.pinned (OpenSpec.upto growStaysSpec)

end Rows
end Go.Proofs.Ytohmcpblagcfeaa
