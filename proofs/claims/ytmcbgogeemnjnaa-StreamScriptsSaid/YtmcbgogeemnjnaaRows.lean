/-
  No cell of these rows narrows 'for every input' (looked for: loops, veiled, ifaces, maps, wideKeys, modest, calm, conditions, laid).
  DERIVED. THE GIVEN ROWS OF THIS SEAT. 9 by the template 'for every input the law returns true; each argument reads behind the call as it read before'; 0 by the template 'total and deterministic' (their statements: YtmcbgogeemnjnaaTotals.lean).
  GIVEN WITH THE SEED: the statements are not yours to turn. If you find one false, say at which input.
  Laid BY PROGRAM, IN A SANDBOX (cutbox-rows.mjs): the forced cells as the released guide's own fill.sh prints them over the translation 2b3f0ecb3e49b54f… (all of the seat's roots in one cut). By AI agents, Wed Nov 11 2026. No macro, syntax, notation, axiom, sorry.
-/
import Derived.Test.YtmcbgogeemnjnaaChecked
import GoSem.Claim
import GoSem.ClaimJoined
import GoSem.ClaimMapViews
import Derived.JoinedTies
import Derived.KernelRfl
namespace Go.Proofs.Ytmcbgogeemnjnaa
/- THE CELL 'sum', in the pinned program and in every row, IS THE sha256 OF THE DUMP (.gsa) THAT YtmcbgogeemnjnaaProg.lean LOADS. Nothing in Lean hashes anything: it is a label: what it is worth is what the hold of that sum in a sandbox is worth. -/
noncomputable def Try.pinned : Pinned := { name := "ytmcbgogeemnjnaa", sum := "2b3f0ecb3e49b54f92766dc09c43cf00cf6558eec5e232a9deffbf1754c7b314", checked := Try.checked }
namespace Rows
def none {H : Type} : Left H := { results := [], args := [] }

/-- 'shelterbeltlaw05.RngRows': WHATEVER THE INPUT: true; the input reads as it did. -/
def rngRowsSpec : ChangeSpec := { name := "rngRows", fn := fun _ => fun
  | [d1, d2, d3, d4, d5] => { results := [.lit (.bool true)], args := [d1, d2, d3, d4, d5] }
  | _ => none }
def rngRowsRow : OpenClaim := { program := "ytmcbgogeemnjnaa", sum := "2b3f0ecb3e49b54f92766dc09c43cf00cf6558eec5e232a9deffbf1754c7b314", func := "shelterbelt/shelterbeltlaw05.RngRows", spec := "rngRows", unfollowed := true, recurses := true, apart := false }
def RngRowsSaid : Prop := rngRowsRow.holds Try.pinned (OpenSpec.ofChange rngRowsSpec)

/-- ITS FALSE NEIGHBOUR: 'it returns false'. Refute it at one input. -/
def rngRowsWrong : ChangeSpec := { name := "rngRows", fn := fun _ => fun
  | [d1, d2, d3, d4, d5] => { results := [.lit (.bool false)], args := [d1, d2, d3, d4, d5] }
  | _ => none }
def RngRowsWrongFalsely : Prop := rngRowsRow.holds Try.pinned (OpenSpec.ofChange rngRowsWrong)

/-- 'shelterbeltlaw05.RngEach': WHATEVER THE INPUT: true; the input reads as it did. -/
def rngEachSpec : ChangeSpec := { name := "rngEach", fn := fun _ => fun
  | [d1, d2, d3] => { results := [.lit (.bool true)], args := [d1, d2, d3] }
  | _ => none }
def rngEachRow : OpenClaim := { program := "ytmcbgogeemnjnaa", sum := "2b3f0ecb3e49b54f92766dc09c43cf00cf6558eec5e232a9deffbf1754c7b314", func := "shelterbelt/shelterbeltlaw05.RngEach", spec := "rngEach", unfollowed := true, recurses := true, apart := false }
def RngEachSaid : Prop := rngEachRow.holds Try.pinned (OpenSpec.ofChange rngEachSpec)

/-- ITS FALSE NEIGHBOUR: 'it returns false'. Refute it at one input. -/
def rngEachWrong : ChangeSpec := { name := "rngEach", fn := fun _ => fun
  | [d1, d2, d3] => { results := [.lit (.bool false)], args := [d1, d2, d3] }
  | _ => none }
def RngEachWrongFalsely : Prop := rngEachRow.holds Try.pinned (OpenSpec.ofChange rngEachWrong)

/-- 'shelterbeltlaw05.RngSame': WHATEVER THE INPUT: true; the input reads as it did. -/
def rngSameSpec : ChangeSpec := { name := "rngSame", fn := fun _ => fun
  | [d1, d2, d3, d4, d5] => { results := [.lit (.bool true)], args := [d1, d2, d3, d4, d5] }
  | _ => none }
def rngSameRow : OpenClaim := { program := "ytmcbgogeemnjnaa", sum := "2b3f0ecb3e49b54f92766dc09c43cf00cf6558eec5e232a9deffbf1754c7b314", func := "shelterbelt/shelterbeltlaw05.RngSame", spec := "rngSame", unfollowed := true, recurses := true, apart := false }
def RngSameSaid : Prop := rngSameRow.holds Try.pinned (OpenSpec.ofChange rngSameSpec)

/-- ITS FALSE NEIGHBOUR: 'it returns false'. Refute it at one input. -/
def rngSameWrong : ChangeSpec := { name := "rngSame", fn := fun _ => fun
  | [d1, d2, d3, d4, d5] => { results := [.lit (.bool false)], args := [d1, d2, d3, d4, d5] }
  | _ => none }
def RngSameWrongFalsely : Prop := rngSameRow.holds Try.pinned (OpenSpec.ofChange rngSameWrong)

/-- 'shelterbeltlaw05.RngTells': WHATEVER THE INPUT: true; the input reads as it did. -/
def rngTellsSpec : ChangeSpec := { name := "rngTells", fn := fun _ => fun
  | [d1, d2, d3, d4] => { results := [.lit (.bool true)], args := [d1, d2, d3, d4] }
  | _ => none }
def rngTellsRow : OpenClaim := { program := "ytmcbgogeemnjnaa", sum := "2b3f0ecb3e49b54f92766dc09c43cf00cf6558eec5e232a9deffbf1754c7b314", func := "shelterbelt/shelterbeltlaw05.RngTells", spec := "rngTells", unfollowed := true, recurses := true, apart := false }
def RngTellsSaid : Prop := rngTellsRow.holds Try.pinned (OpenSpec.ofChange rngTellsSpec)

/-- ITS FALSE NEIGHBOUR: 'it returns false'. Refute it at one input. -/
def rngTellsWrong : ChangeSpec := { name := "rngTells", fn := fun _ => fun
  | [d1, d2, d3, d4] => { results := [.lit (.bool false)], args := [d1, d2, d3, d4] }
  | _ => none }
def RngTellsWrongFalsely : Prop := rngTellsRow.holds Try.pinned (OpenSpec.ofChange rngTellsWrong)

/-- 'shelterbeltlaw05.RngPairs': WHATEVER THE INPUT: true; the input reads as it did. -/
def rngPairsSpec : ChangeSpec := { name := "rngPairs", fn := fun _ => fun
  | [d1, d2, d3, d4] => { results := [.lit (.bool true)], args := [d1, d2, d3, d4] }
  | _ => none }
def rngPairsRow : OpenClaim := { program := "ytmcbgogeemnjnaa", sum := "2b3f0ecb3e49b54f92766dc09c43cf00cf6558eec5e232a9deffbf1754c7b314", func := "shelterbelt/shelterbeltlaw05.RngPairs", spec := "rngPairs", unfollowed := true, recurses := true, apart := false }
def RngPairsSaid : Prop := rngPairsRow.holds Try.pinned (OpenSpec.ofChange rngPairsSpec)

/-- ITS FALSE NEIGHBOUR: 'it returns false'. Refute it at one input. -/
def rngPairsWrong : ChangeSpec := { name := "rngPairs", fn := fun _ => fun
  | [d1, d2, d3, d4] => { results := [.lit (.bool false)], args := [d1, d2, d3, d4] }
  | _ => none }
def RngPairsWrongFalsely : Prop := rngPairsRow.holds Try.pinned (OpenSpec.ofChange rngPairsWrong)

/-- 'shelterbeltlaw06.StreamTells': WHATEVER THE INPUT: true; the input reads as it did. -/
def streamTellsSpec : ChangeSpec := { name := "streamTells", fn := fun _ => fun
  | [d1, d2, d3, d4, d5] => { results := [.lit (.bool true)], args := [d1, d2, d3, d4, d5] }
  | _ => none }
def streamTellsRow : OpenClaim := { program := "ytmcbgogeemnjnaa", sum := "2b3f0ecb3e49b54f92766dc09c43cf00cf6558eec5e232a9deffbf1754c7b314", func := "shelterbelt/shelterbeltlaw06.StreamTells", spec := "streamTells", unfollowed := true, recurses := true, apart := false }
def StreamTellsSaid : Prop := streamTellsRow.holds Try.pinned (OpenSpec.ofChange streamTellsSpec)

/-- ITS FALSE NEIGHBOUR: 'it returns false'. Refute it at one input. -/
def streamTellsWrong : ChangeSpec := { name := "streamTells", fn := fun _ => fun
  | [d1, d2, d3, d4, d5] => { results := [.lit (.bool false)], args := [d1, d2, d3, d4, d5] }
  | _ => none }
def StreamTellsWrongFalsely : Prop := streamTellsRow.holds Try.pinned (OpenSpec.ofChange streamTellsWrong)

/-- 'shelterbeltlaw06.StreamApart': WHATEVER THE INPUT: true; the input reads as it did. -/
def streamApartSpec : ChangeSpec := { name := "streamApart", fn := fun _ => fun
  | [d1, d2, d3, d4, d5] => { results := [.lit (.bool true)], args := [d1, d2, d3, d4, d5] }
  | _ => none }
def streamApartRow : OpenClaim := { program := "ytmcbgogeemnjnaa", sum := "2b3f0ecb3e49b54f92766dc09c43cf00cf6558eec5e232a9deffbf1754c7b314", func := "shelterbelt/shelterbeltlaw06.StreamApart", spec := "streamApart", unfollowed := true, recurses := true, apart := false }
def StreamApartSaid : Prop := streamApartRow.holds Try.pinned (OpenSpec.ofChange streamApartSpec)

/-- ITS FALSE NEIGHBOUR: 'it returns false'. Refute it at one input. -/
def streamApartWrong : ChangeSpec := { name := "streamApart", fn := fun _ => fun
  | [d1, d2, d3, d4, d5] => { results := [.lit (.bool false)], args := [d1, d2, d3, d4, d5] }
  | _ => none }
def StreamApartWrongFalsely : Prop := streamApartRow.holds Try.pinned (OpenSpec.ofChange streamApartWrong)

/-- 'shelterbeltlaw06.StreamAll': WHATEVER THE INPUT: true; the input reads as it did. -/
def streamAllSpec : ChangeSpec := { name := "streamAll", fn := fun _ => fun
  | [d1, d2, d3] => { results := [.lit (.bool true)], args := [d1, d2, d3] }
  | _ => none }
def streamAllRow : OpenClaim := { program := "ytmcbgogeemnjnaa", sum := "2b3f0ecb3e49b54f92766dc09c43cf00cf6558eec5e232a9deffbf1754c7b314", func := "shelterbelt/shelterbeltlaw06.StreamAll", spec := "streamAll", unfollowed := true, recurses := true, apart := false }
def StreamAllSaid : Prop := streamAllRow.holds Try.pinned (OpenSpec.ofChange streamAllSpec)

/-- ITS FALSE NEIGHBOUR: 'it returns false'. Refute it at one input. -/
def streamAllWrong : ChangeSpec := { name := "streamAll", fn := fun _ => fun
  | [d1, d2, d3] => { results := [.lit (.bool false)], args := [d1, d2, d3] }
  | _ => none }
def StreamAllWrongFalsely : Prop := streamAllRow.holds Try.pinned (OpenSpec.ofChange streamAllWrong)

/-- 'shelterbeltlaw06.StreamScripts': WHATEVER THE INPUT: true; the input reads as it did. -/
def streamScriptsSpec : ChangeSpec := { name := "streamScripts", fn := fun _ => fun
  | [d1, d2] => { results := [.lit (.bool true)], args := [d1, d2] }
  | _ => none }
def streamScriptsRow : OpenClaim := { program := "ytmcbgogeemnjnaa", sum := "2b3f0ecb3e49b54f92766dc09c43cf00cf6558eec5e232a9deffbf1754c7b314", func := "shelterbelt/shelterbeltlaw06.StreamScripts", spec := "streamScripts", unfollowed := true, recurses := true, apart := false }
def StreamScriptsSaid : Prop := streamScriptsRow.holds Try.pinned (OpenSpec.ofChange streamScriptsSpec)

/-- ITS FALSE NEIGHBOUR: 'it returns false'. Refute it at one input. -/
def streamScriptsWrong : ChangeSpec := { name := "streamScripts", fn := fun _ => fun
  | [d1, d2] => { results := [.lit (.bool false)], args := [d1, d2] }
  | _ => none }
def StreamScriptsWrongFalsely : Prop := streamScriptsRow.holds Try.pinned (OpenSpec.ofChange streamScriptsWrong)

/- THE SECOND FORM. 'bulk': how many values and letters a reading holds, each counted each time it is reached (what is shared counts as often as it is met; a slice's spare places count too). A statement '..UptoSaid' is the law's where the arguments, and the package variables that the reading takes, are together of bulk at most 1048576: NARROWER than '..Said'. Prove '..Said' where nothing that the law and all that it calls make is longer than what came in: it says more and counts as full. Else prove '..UptoSaid'. A law counts once. -/
mutual
def uptoBulk {H : Type} : DataW H → Nat
  | .lit (.string bytes) => bytes.length + 1
  | .lit _ => 1
  | .nil => 1
  | .ptr d => uptoBulk d + 1
  | .slice elems spare => uptoBulkAll elems + uptoBulkAll spare + 1
  | .agg parts => uptoBulkAll parts + 1
  | .iface _ d => uptoBulk d + 1
  | .map entries => uptoBulkEntries entries + 1
  | .held _ => 1
def uptoBulkAll {H : Type} : List (DataW H) → Nat
  | [] => 0
  | d :: r => uptoBulk d + uptoBulkAll r
def uptoBulkEntries {H : Type} : List (Lit × DataW H) → Nat
  | [] => 0
  | x :: r => uptoBulkEntry x + uptoBulkEntries r
def uptoBulkEntry {H : Type} : Lit × DataW H → Nat
  | (.string bytes, d) => bytes.length + uptoBulk d + 1
  | (_, d) => uptoBulk d + 1
 end
def uptoSmall : (H : Type) → List (DataW H) → Bool := fun _ ds => decide (uptoBulkAll ds ≤ 1048576)
def OpenSpec.upto (s : _root_.Go.ChangeSpec) : _root_.Go.OpenSpec := { _root_.Go.OpenSpec.ofChange s with cond := some uptoSmall }

/-- 'shelterbeltlaw05.RngRows', WHERE WHAT IT READS IS OF BULK AT MOST 1048576: true; the input reads as it did. -/
def rngRowsUptoRow : OpenClaim := { program := "ytmcbgogeemnjnaa", sum := "2b3f0ecb3e49b54f92766dc09c43cf00cf6558eec5e232a9deffbf1754c7b314", func := "shelterbelt/shelterbeltlaw05.RngRows", spec := "rngRows", unfollowed := true, recurses := true, apart := false, narrowed := true }
def RngRowsUptoSaid : Prop := rngRowsUptoRow.holds Try.pinned (OpenSpec.upto rngRowsSpec)

/-- 'shelterbeltlaw05.RngEach', WHERE WHAT IT READS IS OF BULK AT MOST 1048576: true; the input reads as it did. -/
def rngEachUptoRow : OpenClaim := { program := "ytmcbgogeemnjnaa", sum := "2b3f0ecb3e49b54f92766dc09c43cf00cf6558eec5e232a9deffbf1754c7b314", func := "shelterbelt/shelterbeltlaw05.RngEach", spec := "rngEach", unfollowed := true, recurses := true, apart := false, narrowed := true }
def RngEachUptoSaid : Prop := rngEachUptoRow.holds Try.pinned (OpenSpec.upto rngEachSpec)

/-- 'shelterbeltlaw05.RngSame', WHERE WHAT IT READS IS OF BULK AT MOST 1048576: true; the input reads as it did. -/
def rngSameUptoRow : OpenClaim := { program := "ytmcbgogeemnjnaa", sum := "2b3f0ecb3e49b54f92766dc09c43cf00cf6558eec5e232a9deffbf1754c7b314", func := "shelterbelt/shelterbeltlaw05.RngSame", spec := "rngSame", unfollowed := true, recurses := true, apart := false, narrowed := true }
def RngSameUptoSaid : Prop := rngSameUptoRow.holds Try.pinned (OpenSpec.upto rngSameSpec)

/-- 'shelterbeltlaw05.RngTells', WHERE WHAT IT READS IS OF BULK AT MOST 1048576: true; the input reads as it did. -/
def rngTellsUptoRow : OpenClaim := { program := "ytmcbgogeemnjnaa", sum := "2b3f0ecb3e49b54f92766dc09c43cf00cf6558eec5e232a9deffbf1754c7b314", func := "shelterbelt/shelterbeltlaw05.RngTells", spec := "rngTells", unfollowed := true, recurses := true, apart := false, narrowed := true }
def RngTellsUptoSaid : Prop := rngTellsUptoRow.holds Try.pinned (OpenSpec.upto rngTellsSpec)

/-- 'shelterbeltlaw05.RngPairs', WHERE WHAT IT READS IS OF BULK AT MOST 1048576: true; the input reads as it did. -/
def rngPairsUptoRow : OpenClaim := { program := "ytmcbgogeemnjnaa", sum := "2b3f0ecb3e49b54f92766dc09c43cf00cf6558eec5e232a9deffbf1754c7b314", func := "shelterbelt/shelterbeltlaw05.RngPairs", spec := "rngPairs", unfollowed := true, recurses := true, apart := false, narrowed := true }
def RngPairsUptoSaid : Prop := rngPairsUptoRow.holds Try.pinned (OpenSpec.upto rngPairsSpec)

/-- 'shelterbeltlaw06.StreamTells', WHERE WHAT IT READS IS OF BULK AT MOST 1048576: true; the input reads as it did. -/
def streamTellsUptoRow : OpenClaim := { program := "ytmcbgogeemnjnaa", sum := "2b3f0ecb3e49b54f92766dc09c43cf00cf6558eec5e232a9deffbf1754c7b314", func := "shelterbelt/shelterbeltlaw06.StreamTells", spec := "streamTells", unfollowed := true, recurses := true, apart := false, narrowed := true }
def StreamTellsUptoSaid : Prop := streamTellsUptoRow.holds Try.pinned (OpenSpec.upto streamTellsSpec)

/-- 'shelterbeltlaw06.StreamApart', WHERE WHAT IT READS IS OF BULK AT MOST 1048576: true; the input reads as it did. -/
def streamApartUptoRow : OpenClaim := { program := "ytmcbgogeemnjnaa", sum := "2b3f0ecb3e49b54f92766dc09c43cf00cf6558eec5e232a9deffbf1754c7b314", func := "shelterbelt/shelterbeltlaw06.StreamApart", spec := "streamApart", unfollowed := true, recurses := true, apart := false, narrowed := true }
def StreamApartUptoSaid : Prop := streamApartUptoRow.holds Try.pinned (OpenSpec.upto streamApartSpec)

/-- 'shelterbeltlaw06.StreamAll', WHERE WHAT IT READS IS OF BULK AT MOST 1048576: true; the input reads as it did. -/
def streamAllUptoRow : OpenClaim := { program := "ytmcbgogeemnjnaa", sum := "2b3f0ecb3e49b54f92766dc09c43cf00cf6558eec5e232a9deffbf1754c7b314", func := "shelterbelt/shelterbeltlaw06.StreamAll", spec := "streamAll", unfollowed := true, recurses := true, apart := false, narrowed := true }
def StreamAllUptoSaid : Prop := streamAllUptoRow.holds Try.pinned (OpenSpec.upto streamAllSpec)

/-- 'shelterbeltlaw06.StreamScripts', WHERE WHAT IT READS IS OF BULK AT MOST 1048576: true; the input reads as it did. -/
def streamScriptsUptoRow : OpenClaim := { program := "ytmcbgogeemnjnaa", sum := "2b3f0ecb3e49b54f92766dc09c43cf00cf6558eec5e232a9deffbf1754c7b314", func := "shelterbelt/shelterbeltlaw06.StreamScripts", spec := "streamScripts", unfollowed := true, recurses := true, apart := false, narrowed := true }
def StreamScriptsUptoSaid : Prop := streamScriptsUptoRow.holds Try.pinned (OpenSpec.upto streamScriptsSpec)

end Rows
end Go.Proofs.Ytmcbgogeemnjnaa
