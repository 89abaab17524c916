/-
  No cell of these rows narrows 'for every input' (looked for: loops, veiled, ifaces, maps, wideKeys, modest, calm, conditions, laid).
  DERIVED. THE GIVEN ROWS OF THIS SEAT. 14 by the template 'for every input the law returns true; each argument reads behind the call as it read before'; 0 by the template 'total and deterministic' (their statements: YtacgkoclammggaaTotals.lean).
  GIVEN WITH THE SEED: the statements are not yours to turn. If you find one false, say at which input.
  Laid BY PROGRAM, IN A SANDBOX (cutbox-rows.mjs): the forced cells as the released guide's own fill.sh prints them over the translation 79bb3ed5486ff560… (all of the seat's roots in one cut). By AI agents, Wed Nov 11 2026. No macro, syntax, notation, axiom, sorry.
-/
import Derived.Test.YtacgkoclammggaaChecked
import GoSem.Claim
import GoSem.ClaimJoined
import GoSem.ClaimMapViews
import Derived.JoinedTies
import Derived.KernelRfl
namespace Go.Proofs.Ytacgkoclammggaa
/- THE CELL 'sum', in the pinned program and in every row, IS THE sha256 OF THE DUMP (.gsa) THAT YtacgkoclammggaaProg.lean LOADS. Nothing in Lean hashes anything: it is a label: what it is worth is what the hold of that sum in a sandbox is worth. -/
noncomputable def Try.pinned : Pinned := { name := "ytacgkoclammggaa", sum := "79bb3ed5486ff560f94d54756c44169afd7e140ed5a07745fff1908854635fbb", checked := Try.checked }
namespace Rows
def none {H : Type} : Left H := { results := [], args := [] }

/-- 'shelterbeltlaw07.HeapPlays': WHATEVER THE INPUT: true; the input reads as it did. -/
def heapPlaysSpec : ChangeSpec := { name := "heapPlays", fn := fun _ => fun
  | [d1, d2] => { results := [.lit (.bool true)], args := [d1, d2] }
  | _ => none }
def heapPlaysRow : OpenClaim := { program := "ytacgkoclammggaa", sum := "79bb3ed5486ff560f94d54756c44169afd7e140ed5a07745fff1908854635fbb", func := "shelterbelt/shelterbeltlaw07.HeapPlays", spec := "heapPlays", unfollowed := true, recurses := true, apart := false }
def HeapPlaysSaid : Prop := heapPlaysRow.holds Try.pinned (OpenSpec.ofChange heapPlaysSpec)

/-- ITS FALSE NEIGHBOUR: 'it returns false'. Refute it at one input. -/
def heapPlaysWrong : ChangeSpec := { name := "heapPlays", fn := fun _ => fun
  | [d1, d2] => { results := [.lit (.bool false)], args := [d1, d2] }
  | _ => none }
def HeapPlaysWrongFalsely : Prop := heapPlaysRow.holds Try.pinned (OpenSpec.ofChange heapPlaysWrong)

/-- 'shelterbeltlaw07.HeapBuilt': WHATEVER THE INPUT: true; the input reads as it did. -/
def heapBuiltSpec : ChangeSpec := { name := "heapBuilt", fn := fun _ => fun
  | [d1, d2] => { results := [.lit (.bool true)], args := [d1, d2] }
  | _ => none }
def heapBuiltRow : OpenClaim := { program := "ytacgkoclammggaa", sum := "79bb3ed5486ff560f94d54756c44169afd7e140ed5a07745fff1908854635fbb", func := "shelterbelt/shelterbeltlaw07.HeapBuilt", spec := "heapBuilt", unfollowed := true, recurses := true, apart := false }
def HeapBuiltSaid : Prop := heapBuiltRow.holds Try.pinned (OpenSpec.ofChange heapBuiltSpec)

/-- ITS FALSE NEIGHBOUR: 'it returns false'. Refute it at one input. -/
def heapBuiltWrong : ChangeSpec := { name := "heapBuilt", fn := fun _ => fun
  | [d1, d2] => { results := [.lit (.bool false)], args := [d1, d2] }
  | _ => none }
def HeapBuiltWrongFalsely : Prop := heapBuiltRow.holds Try.pinned (OpenSpec.ofChange heapBuiltWrong)

/-- 'shelterbeltlaw07.HeapPeeks': WHATEVER THE INPUT: true; the input reads as it did. -/
def heapPeeksSpec : ChangeSpec := { name := "heapPeeks", fn := fun _ => fun
  | [d1, d2, d3] => { results := [.lit (.bool true)], args := [d1, d2, d3] }
  | _ => none }
def heapPeeksRow : OpenClaim := { program := "ytacgkoclammggaa", sum := "79bb3ed5486ff560f94d54756c44169afd7e140ed5a07745fff1908854635fbb", func := "shelterbelt/shelterbeltlaw07.HeapPeeks", spec := "heapPeeks", unfollowed := true, recurses := true, apart := false }
def HeapPeeksSaid : Prop := heapPeeksRow.holds Try.pinned (OpenSpec.ofChange heapPeeksSpec)

/-- ITS FALSE NEIGHBOUR: 'it returns false'. Refute it at one input. -/
def heapPeeksWrong : ChangeSpec := { name := "heapPeeks", fn := fun _ => fun
  | [d1, d2, d3] => { results := [.lit (.bool false)], args := [d1, d2, d3] }
  | _ => none }
def HeapPeeksWrongFalsely : Prop := heapPeeksRow.holds Try.pinned (OpenSpec.ofChange heapPeeksWrong)

/-- 'shelterbeltlaw04.OrderTotal': WHATEVER THE INPUT: true; the input reads as it did. -/
def orderTotalSpec : ChangeSpec := { name := "orderTotal", fn := fun _ => fun
  | [d1, d2, d3] => { results := [.lit (.bool true)], args := [d1, d2, d3] }
  | _ => none }
def orderTotalRow : OpenClaim := { program := "ytacgkoclammggaa", sum := "79bb3ed5486ff560f94d54756c44169afd7e140ed5a07745fff1908854635fbb", func := "shelterbelt/shelterbeltlaw04.OrderTotal", spec := "orderTotal", unfollowed := true, recurses := true, apart := false }
def OrderTotalSaid : Prop := orderTotalRow.holds Try.pinned (OpenSpec.ofChange orderTotalSpec)

/-- ITS FALSE NEIGHBOUR: 'it returns false'. Refute it at one input. -/
def orderTotalWrong : ChangeSpec := { name := "orderTotal", fn := fun _ => fun
  | [d1, d2, d3] => { results := [.lit (.bool false)], args := [d1, d2, d3] }
  | _ => none }
def OrderTotalWrongFalsely : Prop := orderTotalRow.holds Try.pinned (OpenSpec.ofChange orderTotalWrong)

/-- 'shelterbeltlaw07.HeapDrains': WHATEVER THE INPUT: true; the input reads as it did. -/
def heapDrainsSpec : ChangeSpec := { name := "heapDrains", fn := fun _ => fun
  | [d1, d2] => { results := [.lit (.bool true)], args := [d1, d2] }
  | _ => none }
def heapDrainsRow : OpenClaim := { program := "ytacgkoclammggaa", sum := "79bb3ed5486ff560f94d54756c44169afd7e140ed5a07745fff1908854635fbb", func := "shelterbelt/shelterbeltlaw07.HeapDrains", spec := "heapDrains", unfollowed := true, recurses := true, apart := false }
def HeapDrainsSaid : Prop := heapDrainsRow.holds Try.pinned (OpenSpec.ofChange heapDrainsSpec)

/-- ITS FALSE NEIGHBOUR: 'it returns false'. Refute it at one input. -/
def heapDrainsWrong : ChangeSpec := { name := "heapDrains", fn := fun _ => fun
  | [d1, d2] => { results := [.lit (.bool false)], args := [d1, d2] }
  | _ => none }
def HeapDrainsWrongFalsely : Prop := heapDrainsRow.holds Try.pinned (OpenSpec.ofChange heapDrainsWrong)

/-- 'shelterbeltlaw07.HeapTasks': WHATEVER THE INPUT: true; the input reads as it did. -/
def heapTasksSpec : ChangeSpec := { name := "heapTasks", fn := fun _ => fun
  | [d] => { results := [.lit (.bool true)], args := [d] }
  | _ => none }
def heapTasksRow : OpenClaim := { program := "ytacgkoclammggaa", sum := "79bb3ed5486ff560f94d54756c44169afd7e140ed5a07745fff1908854635fbb", func := "shelterbelt/shelterbeltlaw07.HeapTasks", spec := "heapTasks", unfollowed := true, recurses := true, apart := false }
def HeapTasksSaid : Prop := heapTasksRow.holds Try.pinned (OpenSpec.ofChange heapTasksSpec)

/-- ITS FALSE NEIGHBOUR: 'it returns false'. Refute it at one input. -/
def heapTasksWrong : ChangeSpec := { name := "heapTasks", fn := fun _ => fun
  | [d] => { results := [.lit (.bool false)], args := [d] }
  | _ => none }
def HeapTasksWrongFalsely : Prop := heapTasksRow.holds Try.pinned (OpenSpec.ofChange heapTasksWrong)

/-- 'shelterbeltlaw08.TopkParts': WHATEVER THE INPUT: true; the input reads as it did. -/
def topkPartsSpec : ChangeSpec := { name := "topkParts", fn := fun _ => fun
  | [d1, d2, d3] => { results := [.lit (.bool true)], args := [d1, d2, d3] }
  | _ => none }
def topkPartsRow : OpenClaim := { program := "ytacgkoclammggaa", sum := "79bb3ed5486ff560f94d54756c44169afd7e140ed5a07745fff1908854635fbb", func := "shelterbelt/shelterbeltlaw08.TopkParts", spec := "topkParts", unfollowed := true, recurses := true, apart := false }
def TopkPartsSaid : Prop := topkPartsRow.holds Try.pinned (OpenSpec.ofChange topkPartsSpec)

/-- ITS FALSE NEIGHBOUR: 'it returns false'. Refute it at one input. -/
def topkPartsWrong : ChangeSpec := { name := "topkParts", fn := fun _ => fun
  | [d1, d2, d3] => { results := [.lit (.bool false)], args := [d1, d2, d3] }
  | _ => none }
def TopkPartsWrongFalsely : Prop := topkPartsRow.holds Try.pinned (OpenSpec.ofChange topkPartsWrong)

/-- 'shelterbeltlaw08.TopkAgain': WHATEVER THE INPUT: true; the input reads as it did. -/
def topkAgainSpec : ChangeSpec := { name := "topkAgain", fn := fun _ => fun
  | [d1, d2] => { results := [.lit (.bool true)], args := [d1, d2] }
  | _ => none }
def topkAgainRow : OpenClaim := { program := "ytacgkoclammggaa", sum := "79bb3ed5486ff560f94d54756c44169afd7e140ed5a07745fff1908854635fbb", func := "shelterbelt/shelterbeltlaw08.TopkAgain", spec := "topkAgain", unfollowed := true, recurses := true, apart := false }
def TopkAgainSaid : Prop := topkAgainRow.holds Try.pinned (OpenSpec.ofChange topkAgainSpec)

/-- ITS FALSE NEIGHBOUR: 'it returns false'. Refute it at one input. -/
def topkAgainWrong : ChangeSpec := { name := "topkAgain", fn := fun _ => fun
  | [d1, d2] => { results := [.lit (.bool false)], args := [d1, d2] }
  | _ => none }
def TopkAgainWrongFalsely : Prop := topkAgainRow.holds Try.pinned (OpenSpec.ofChange topkAgainWrong)

/-- 'shelterbeltlaw08.TopkOffers': WHATEVER THE INPUT: true; the input reads as it did. -/
def topkOffersSpec : ChangeSpec := { name := "topkOffers", fn := fun _ => fun
  | [d1, d2] => { results := [.lit (.bool true)], args := [d1, d2] }
  | _ => none }
def topkOffersRow : OpenClaim := { program := "ytacgkoclammggaa", sum := "79bb3ed5486ff560f94d54756c44169afd7e140ed5a07745fff1908854635fbb", func := "shelterbelt/shelterbeltlaw08.TopkOffers", spec := "topkOffers", unfollowed := true, recurses := true, apart := false }
def TopkOffersSaid : Prop := topkOffersRow.holds Try.pinned (OpenSpec.ofChange topkOffersSpec)

/-- ITS FALSE NEIGHBOUR: 'it returns false'. Refute it at one input. -/
def topkOffersWrong : ChangeSpec := { name := "topkOffers", fn := fun _ => fun
  | [d1, d2] => { results := [.lit (.bool false)], args := [d1, d2] }
  | _ => none }
def TopkOffersWrongFalsely : Prop := topkOffersRow.holds Try.pinned (OpenSpec.ofChange topkOffersWrong)

/-- 'shelterbeltlaw08.TopkLast': WHATEVER THE INPUT: true; the input reads as it did. -/
def topkLastSpec : ChangeSpec := { name := "topkLast", fn := fun _ => fun
  | [d1, d2] => { results := [.lit (.bool true)], args := [d1, d2] }
  | _ => none }
def topkLastRow : OpenClaim := { program := "ytacgkoclammggaa", sum := "79bb3ed5486ff560f94d54756c44169afd7e140ed5a07745fff1908854635fbb", func := "shelterbelt/shelterbeltlaw08.TopkLast", spec := "topkLast", unfollowed := true, recurses := true, apart := false }
def TopkLastSaid : Prop := topkLastRow.holds Try.pinned (OpenSpec.ofChange topkLastSpec)

/-- ITS FALSE NEIGHBOUR: 'it returns false'. Refute it at one input. -/
def topkLastWrong : ChangeSpec := { name := "topkLast", fn := fun _ => fun
  | [d1, d2] => { results := [.lit (.bool false)], args := [d1, d2] }
  | _ => none }
def TopkLastWrongFalsely : Prop := topkLastRow.holds Try.pinned (OpenSpec.ofChange topkLastWrong)

/-- 'shelterbeltlaw04.OrderTells': WHATEVER THE INPUT: true; the input reads as it did. -/
def orderTellsSpec : ChangeSpec := { name := "orderTells", fn := fun _ => fun
  | [d1, d2, d3, d4, d5] => { results := [.lit (.bool true)], args := [d1, d2, d3, d4, d5] }
  | _ => none }
def orderTellsRow : OpenClaim := { program := "ytacgkoclammggaa", sum := "79bb3ed5486ff560f94d54756c44169afd7e140ed5a07745fff1908854635fbb", func := "shelterbelt/shelterbeltlaw04.OrderTells", spec := "orderTells", unfollowed := true, recurses := true, apart := false }
def OrderTellsSaid : Prop := orderTellsRow.holds Try.pinned (OpenSpec.ofChange orderTellsSpec)

/-- ITS FALSE NEIGHBOUR: 'it returns false'. Refute it at one input. -/
def orderTellsWrong : ChangeSpec := { name := "orderTells", fn := fun _ => fun
  | [d1, d2, d3, d4, d5] => { results := [.lit (.bool false)], args := [d1, d2, d3, d4, d5] }
  | _ => none }
def OrderTellsWrongFalsely : Prop := orderTellsRow.holds Try.pinned (OpenSpec.ofChange orderTellsWrong)

/-- 'shelterbeltlaw04.OrderStands': WHATEVER THE INPUT: true; the input reads as it did. -/
def orderStandsSpec : ChangeSpec := { name := "orderStands", fn := fun _ => fun
  | [d1, d2] => { results := [.lit (.bool true)], args := [d1, d2] }
  | _ => none }
def orderStandsRow : OpenClaim := { program := "ytacgkoclammggaa", sum := "79bb3ed5486ff560f94d54756c44169afd7e140ed5a07745fff1908854635fbb", func := "shelterbelt/shelterbeltlaw04.OrderStands", spec := "orderStands", unfollowed := true, recurses := true, apart := false }
def OrderStandsSaid : Prop := orderStandsRow.holds Try.pinned (OpenSpec.ofChange orderStandsSpec)

/-- ITS FALSE NEIGHBOUR: 'it returns false'. Refute it at one input. -/
def orderStandsWrong : ChangeSpec := { name := "orderStands", fn := fun _ => fun
  | [d1, d2] => { results := [.lit (.bool false)], args := [d1, d2] }
  | _ => none }
def OrderStandsWrongFalsely : Prop := orderStandsRow.holds Try.pinned (OpenSpec.ofChange orderStandsWrong)

/-- 'shelterbeltlaw04.OrderMerges': WHATEVER THE INPUT: true; the input reads as it did. -/
def orderMergesSpec : ChangeSpec := { name := "orderMerges", fn := fun _ => fun
  | [d1, d2, d3] => { results := [.lit (.bool true)], args := [d1, d2, d3] }
  | _ => none }
def orderMergesRow : OpenClaim := { program := "ytacgkoclammggaa", sum := "79bb3ed5486ff560f94d54756c44169afd7e140ed5a07745fff1908854635fbb", func := "shelterbelt/shelterbeltlaw04.OrderMerges", spec := "orderMerges", unfollowed := true, recurses := true, apart := false }
def OrderMergesSaid : Prop := orderMergesRow.holds Try.pinned (OpenSpec.ofChange orderMergesSpec)

/-- ITS FALSE NEIGHBOUR: 'it returns false'. Refute it at one input. -/
def orderMergesWrong : ChangeSpec := { name := "orderMerges", fn := fun _ => fun
  | [d1, d2, d3] => { results := [.lit (.bool false)], args := [d1, d2, d3] }
  | _ => none }
def OrderMergesWrongFalsely : Prop := orderMergesRow.holds Try.pinned (OpenSpec.ofChange orderMergesWrong)

/-- 'shelterbeltlaw08.TopkBegins': WHATEVER THE INPUT: true; the input reads as it did. -/
def topkBeginsSpec : ChangeSpec := { name := "topkBegins", fn := fun _ => fun
  | [d1, d2, d3] => { results := [.lit (.bool true)], args := [d1, d2, d3] }
  | _ => none }
def topkBeginsRow : OpenClaim := { program := "ytacgkoclammggaa", sum := "79bb3ed5486ff560f94d54756c44169afd7e140ed5a07745fff1908854635fbb", func := "shelterbelt/shelterbeltlaw08.TopkBegins", spec := "topkBegins", unfollowed := true, recurses := true, apart := false }
def TopkBeginsSaid : Prop := topkBeginsRow.holds Try.pinned (OpenSpec.ofChange topkBeginsSpec)

/-- ITS FALSE NEIGHBOUR: 'it returns false'. Refute it at one input. -/
def topkBeginsWrong : ChangeSpec := { name := "topkBegins", fn := fun _ => fun
  | [d1, d2, d3] => { results := [.lit (.bool false)], args := [d1, d2, d3] }
  | _ => none }
def TopkBeginsWrongFalsely : Prop := topkBeginsRow.holds Try.pinned (OpenSpec.ofChange topkBeginsWrong)

/- THE SECOND FORM. 'bulk': how many values and letters a reading holds, each counted each time it is reached (what is shared counts as often as it is met; a slice's spare places count too). A statement '..UptoSaid' is the law's where the arguments, and the package variables that the reading takes, are together of bulk at most 1048576: NARROWER than '..Said'. Prove '..Said' where nothing that the law and all that it calls make is longer than what came in: it says more and counts as full. Else prove '..UptoSaid'. A law counts once. -/
mutual
def uptoBulk {H : Type} : DataW H → Nat
  | .lit (.string bytes) => bytes.length + 1
  | .lit _ => 1
  | .nil => 1
  | .ptr d => uptoBulk d + 1
  | .slice elems spare => uptoBulkAll elems + uptoBulkAll spare + 1
  | .agg parts => uptoBulkAll parts + 1
  | .iface _ d => uptoBulk d + 1
  | .map entries => uptoBulkEntries entries + 1
  | .held _ => 1
def uptoBulkAll {H : Type} : List (DataW H) → Nat
  | [] => 0
  | d :: r => uptoBulk d + uptoBulkAll r
def uptoBulkEntries {H : Type} : List (Lit × DataW H) → Nat
  | [] => 0
  | x :: r => uptoBulkEntry x + uptoBulkEntries r
def uptoBulkEntry {H : Type} : Lit × DataW H → Nat
  | (.string bytes, d) => bytes.length + uptoBulk d + 1
  | (_, d) => uptoBulk d + 1
 end
def uptoSmall : (H : Type) → List (DataW H) → Bool := fun _ ds => decide (uptoBulkAll ds ≤ 1048576)
def OpenSpec.upto (s : _root_.Go.ChangeSpec) : _root_.Go.OpenSpec := { _root_.Go.OpenSpec.ofChange s with cond := some uptoSmall }

/-- 'shelterbeltlaw07.HeapPlays', WHERE WHAT IT READS IS OF BULK AT MOST 1048576: true; the input reads as it did. -/
def heapPlaysUptoRow : OpenClaim := { program := "ytacgkoclammggaa", sum := "79bb3ed5486ff560f94d54756c44169afd7e140ed5a07745fff1908854635fbb", func := "shelterbelt/shelterbeltlaw07.HeapPlays", spec := "heapPlays", unfollowed := true, recurses := true, apart := false, narrowed := true }
def HeapPlaysUptoSaid : Prop := heapPlaysUptoRow.holds Try.pinned (OpenSpec.upto heapPlaysSpec)

/-- 'shelterbeltlaw07.HeapBuilt', WHERE WHAT IT READS IS OF BULK AT MOST 1048576: true; the input reads as it did. -/
def heapBuiltUptoRow : OpenClaim := { program := "ytacgkoclammggaa", sum := "79bb3ed5486ff560f94d54756c44169afd7e140ed5a07745fff1908854635fbb", func := "shelterbelt/shelterbeltlaw07.HeapBuilt", spec := "heapBuilt", unfollowed := true, recurses := true, apart := false, narrowed := true }
def HeapBuiltUptoSaid : Prop := heapBuiltUptoRow.holds Try.pinned (OpenSpec.upto heapBuiltSpec)

/-- 'shelterbeltlaw07.HeapPeeks', WHERE WHAT IT READS IS OF BULK AT MOST 1048576: true; the input reads as it did. -/
def heapPeeksUptoRow : OpenClaim := { program := "ytacgkoclammggaa", sum := "79bb3ed5486ff560f94d54756c44169afd7e140ed5a07745fff1908854635fbb", func := "shelterbelt/shelterbeltlaw07.HeapPeeks", spec := "heapPeeks", unfollowed := true, recurses := true, apart := false, narrowed := true }
def HeapPeeksUptoSaid : Prop := heapPeeksUptoRow.holds Try.pinned (OpenSpec.upto heapPeeksSpec)

/-- 'shelterbeltlaw04.OrderTotal', WHERE WHAT IT READS IS OF BULK AT MOST 1048576: true; the input reads as it did. -/
def orderTotalUptoRow : OpenClaim := { program := "ytacgkoclammggaa", sum := "79bb3ed5486ff560f94d54756c44169afd7e140ed5a07745fff1908854635fbb", func := "shelterbelt/shelterbeltlaw04.OrderTotal", spec := "orderTotal", unfollowed := true, recurses := true, apart := false, narrowed := true }
def OrderTotalUptoSaid : Prop := orderTotalUptoRow.holds Try.pinned (OpenSpec.upto orderTotalSpec)

/-- 'shelterbeltlaw07.HeapDrains', WHERE WHAT IT READS IS OF BULK AT MOST 1048576: true; the input reads as it did. -/
def heapDrainsUptoRow : OpenClaim := { program := "ytacgkoclammggaa", sum := "79bb3ed5486ff560f94d54756c44169afd7e140ed5a07745fff1908854635fbb", func := "shelterbelt/shelterbeltlaw07.HeapDrains", spec := "heapDrains", unfollowed := true, recurses := true, apart := false, narrowed := true }
def HeapDrainsUptoSaid : Prop := heapDrainsUptoRow.holds Try.pinned (OpenSpec.upto heapDrainsSpec)

/-- 'shelterbeltlaw07.HeapTasks', WHERE WHAT IT READS IS OF BULK AT MOST 1048576: true; the input reads as it did. -/
def heapTasksUptoRow : OpenClaim := { program := "ytacgkoclammggaa", sum := "79bb3ed5486ff560f94d54756c44169afd7e140ed5a07745fff1908854635fbb", func := "shelterbelt/shelterbeltlaw07.HeapTasks", spec := "heapTasks", unfollowed := true, recurses := true, apart := false, narrowed := true }
def HeapTasksUptoSaid : Prop := heapTasksUptoRow.holds Try.pinned (OpenSpec.upto heapTasksSpec)

/-- 'shelterbeltlaw08.TopkParts', WHERE WHAT IT READS IS OF BULK AT MOST 1048576: true; the input reads as it did. -/
def topkPartsUptoRow : OpenClaim := { program := "ytacgkoclammggaa", sum := "79bb3ed5486ff560f94d54756c44169afd7e140ed5a07745fff1908854635fbb", func := "shelterbelt/shelterbeltlaw08.TopkParts", spec := "topkParts", unfollowed := true, recurses := true, apart := false, narrowed := true }
def TopkPartsUptoSaid : Prop := topkPartsUptoRow.holds Try.pinned (OpenSpec.upto topkPartsSpec)

/-- 'shelterbeltlaw08.TopkAgain', WHERE WHAT IT READS IS OF BULK AT MOST 1048576: true; the input reads as it did. -/
def topkAgainUptoRow : OpenClaim := { program := "ytacgkoclammggaa", sum := "79bb3ed5486ff560f94d54756c44169afd7e140ed5a07745fff1908854635fbb", func := "shelterbelt/shelterbeltlaw08.TopkAgain", spec := "topkAgain", unfollowed := true, recurses := true, apart := false, narrowed := true }
def TopkAgainUptoSaid : Prop := topkAgainUptoRow.holds Try.pinned (OpenSpec.upto topkAgainSpec)

/-- 'shelterbeltlaw08.TopkOffers', WHERE WHAT IT READS IS OF BULK AT MOST 1048576: true; the input reads as it did. -/
def topkOffersUptoRow : OpenClaim := { program := "ytacgkoclammggaa", sum := "79bb3ed5486ff560f94d54756c44169afd7e140ed5a07745fff1908854635fbb", func := "shelterbelt/shelterbeltlaw08.TopkOffers", spec := "topkOffers", unfollowed := true, recurses := true, apart := false, narrowed := true }
def TopkOffersUptoSaid : Prop := topkOffersUptoRow.holds Try.pinned (OpenSpec.upto topkOffersSpec)

/-- 'shelterbeltlaw08.TopkLast', WHERE WHAT IT READS IS OF BULK AT MOST 1048576: true; the input reads as it did. -/
def topkLastUptoRow : OpenClaim := { program := "ytacgkoclammggaa", sum := "79bb3ed5486ff560f94d54756c44169afd7e140ed5a07745fff1908854635fbb", func := "shelterbelt/shelterbeltlaw08.TopkLast", spec := "topkLast", unfollowed := true, recurses := true, apart := false, narrowed := true }
def TopkLastUptoSaid : Prop := topkLastUptoRow.holds Try.pinned (OpenSpec.upto topkLastSpec)

/-- 'shelterbeltlaw04.OrderTells', WHERE WHAT IT READS IS OF BULK AT MOST 1048576: true; the input reads as it did. -/
def orderTellsUptoRow : OpenClaim := { program := "ytacgkoclammggaa", sum := "79bb3ed5486ff560f94d54756c44169afd7e140ed5a07745fff1908854635fbb", func := "shelterbelt/shelterbeltlaw04.OrderTells", spec := "orderTells", unfollowed := true, recurses := true, apart := false, narrowed := true }
def OrderTellsUptoSaid : Prop := orderTellsUptoRow.holds Try.pinned (OpenSpec.upto orderTellsSpec)

/-- 'shelterbeltlaw04.OrderStands', WHERE WHAT IT READS IS OF BULK AT MOST 1048576: true; the input reads as it did. -/
def orderStandsUptoRow : OpenClaim := { program := "ytacgkoclammggaa", sum := "79bb3ed5486ff560f94d54756c44169afd7e140ed5a07745fff1908854635fbb", func := "shelterbelt/shelterbeltlaw04.OrderStands", spec := "orderStands", unfollowed := true, recurses := true, apart := false, narrowed := true }
def OrderStandsUptoSaid : Prop := orderStandsUptoRow.holds Try.pinned (OpenSpec.upto orderStandsSpec)

/-- 'shelterbeltlaw04.OrderMerges', WHERE WHAT IT READS IS OF BULK AT MOST 1048576: true; the input reads as it did. -/
def orderMergesUptoRow : OpenClaim := { program := "ytacgkoclammggaa", sum := "79bb3ed5486ff560f94d54756c44169afd7e140ed5a07745fff1908854635fbb", func := "shelterbelt/shelterbeltlaw04.OrderMerges", spec := "orderMerges", unfollowed := true, recurses := true, apart := false, narrowed := true }
def OrderMergesUptoSaid : Prop := orderMergesUptoRow.holds Try.pinned (OpenSpec.upto orderMergesSpec)

/-- 'shelterbeltlaw08.TopkBegins', WHERE WHAT IT READS IS OF BULK AT MOST 1048576: true; the input reads as it did. -/
def topkBeginsUptoRow : OpenClaim := { program := "ytacgkoclammggaa", sum := "79bb3ed5486ff560f94d54756c44169afd7e140ed5a07745fff1908854635fbb", func := "shelterbelt/shelterbeltlaw08.TopkBegins", spec := "topkBegins", unfollowed := true, recurses := true, apart := false, narrowed := true }
def TopkBeginsUptoSaid : Prop := topkBeginsUptoRow.holds Try.pinned (OpenSpec.upto topkBeginsSpec)

end Rows
end Go.Proofs.Ytacgkoclammggaa
