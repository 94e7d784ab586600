/-
  No cell of these rows narrows 'for every input' (looked for: loops, veiled, ifaces, maps, wideKeys, modest, calm, conditions, laid).
  DERIVED. THE GIVEN ROWS OF THIS SEAT. 17 by the template 'for every input the law returns true; each argument reads behind the call as it read before'; 0 by the template 'total and deterministic' (their statements: YtdkkanpbcifkfaaTotals.lean).
  GIVEN WITH THE SEED: the statements are not yours to turn. If you find one false, say at which input.
  Laid BY PROGRAM, IN A SANDBOX (cutbox-rows.mjs): the forced cells as the released guide's own fill.sh prints them over the translation 63e69347a20570d5… (all of the seat's roots in one cut). By AI agents, Wed Nov 11 2026. No macro, syntax, notation, axiom, sorry.
-/
import Derived.Test.YtdkkanpbcifkfaaChecked
import GoSem.Claim
import GoSem.ClaimJoined
import GoSem.ClaimMapViews
import Derived.JoinedTies
import Derived.KernelRfl
namespace Go.Proofs.Ytdkkanpbcifkfaa
/- THE CELL 'sum', in the pinned program and in every row, IS THE sha256 OF THE DUMP (.gsa) THAT YtdkkanpbcifkfaaProg.lean LOADS. Nothing in Lean hashes anything: it is a label: what it is worth is what the hold of that sum in a sandbox is worth. -/
noncomputable def Try.pinned : Pinned := { name := "ytdkkanpbcifkfaa", sum := "63e69347a20570d51cc4b430b0a261139a50a0cf302fc09c5ce07fc80e00baa0", checked := Try.checked }
namespace Rows
def none {H : Type} : Left H := { results := [], args := [] }

/-- 'wellspringlaw04.CompReads': WHATEVER THE INPUT: true; the input reads as it did. -/
def compReadsSpec : ChangeSpec := { name := "compReads", fn := fun _ => fun
  | [d1, d2] => { results := [.lit (.bool true)], args := [d1, d2] }
  | _ => none }
def compReadsRow : OpenClaim := { program := "ytdkkanpbcifkfaa", sum := "63e69347a20570d51cc4b430b0a261139a50a0cf302fc09c5ce07fc80e00baa0", func := "wellspring/wellspringlaw04.CompReads", spec := "compReads", inPlace := ["internal/abi.NoEscape"], plainKeys := false, apart := false }
def CompReadsSaid : Prop := compReadsRow.holds Try.pinned (OpenSpec.ofChange compReadsSpec)

/-- ITS FALSE NEIGHBOUR: 'it returns false'. Refute it at one input. -/
def compReadsWrong : ChangeSpec := { name := "compReads", fn := fun _ => fun
  | [d1, d2] => { results := [.lit (.bool false)], args := [d1, d2] }
  | _ => none }
def CompReadsWrongFalsely : Prop := compReadsRow.holds Try.pinned (OpenSpec.ofChange compReadsWrong)

/-- 'wellspringlaw04.CompWrites': WHATEVER THE INPUT: true; the input reads as it did. -/
def compWritesSpec : ChangeSpec := { name := "compWrites", fn := fun _ => fun
  | [d1, d2, d3] => { results := [.lit (.bool true)], args := [d1, d2, d3] }
  | _ => none }
def compWritesRow : OpenClaim := { program := "ytdkkanpbcifkfaa", sum := "63e69347a20570d51cc4b430b0a261139a50a0cf302fc09c5ce07fc80e00baa0", func := "wellspring/wellspringlaw04.CompWrites", spec := "compWrites", inPlace := ["internal/abi.NoEscape"], plainKeys := false, apart := false }
def CompWritesSaid : Prop := compWritesRow.holds Try.pinned (OpenSpec.ofChange compWritesSpec)

/-- ITS FALSE NEIGHBOUR: 'it returns false'. Refute it at one input. -/
def compWritesWrong : ChangeSpec := { name := "compWrites", fn := fun _ => fun
  | [d1, d2, d3] => { results := [.lit (.bool false)], args := [d1, d2, d3] }
  | _ => none }
def CompWritesWrongFalsely : Prop := compWritesRow.holds Try.pinned (OpenSpec.ofChange compWritesWrong)

/-- 'wellspringlaw04.CompBack': WHATEVER THE INPUT: true; the input reads as it did. -/
def compBackSpec : ChangeSpec := { name := "compBack", fn := fun _ => fun
  | [d1, d2, d3] => { results := [.lit (.bool true)], args := [d1, d2, d3] }
  | _ => none }
def compBackRow : OpenClaim := { program := "ytdkkanpbcifkfaa", sum := "63e69347a20570d51cc4b430b0a261139a50a0cf302fc09c5ce07fc80e00baa0", func := "wellspring/wellspringlaw04.CompBack", spec := "compBack", inPlace := ["internal/abi.NoEscape"], plainKeys := false, apart := false }
def CompBackSaid : Prop := compBackRow.holds Try.pinned (OpenSpec.ofChange compBackSpec)

/-- ITS FALSE NEIGHBOUR: 'it returns false'. Refute it at one input. -/
def compBackWrong : ChangeSpec := { name := "compBack", fn := fun _ => fun
  | [d1, d2, d3] => { results := [.lit (.bool false)], args := [d1, d2, d3] }
  | _ => none }
def CompBackWrongFalsely : Prop := compBackRow.holds Try.pinned (OpenSpec.ofChange compBackWrong)

/-- 'wellspringlaw04.CompNames': WHATEVER THE INPUT: true; the input reads as it did. -/
def compNamesSpec : ChangeSpec := { name := "compNames", fn := fun _ => fun
  | [d1, d2] => { results := [.lit (.bool true)], args := [d1, d2] }
  | _ => none }
def compNamesRow : OpenClaim := { program := "ytdkkanpbcifkfaa", sum := "63e69347a20570d51cc4b430b0a261139a50a0cf302fc09c5ce07fc80e00baa0", func := "wellspring/wellspringlaw04.CompNames", spec := "compNames", inPlace := ["internal/abi.NoEscape"], plainKeys := false, apart := false }
def CompNamesSaid : Prop := compNamesRow.holds Try.pinned (OpenSpec.ofChange compNamesSpec)

/-- ITS FALSE NEIGHBOUR: 'it returns false'. Refute it at one input. -/
def compNamesWrong : ChangeSpec := { name := "compNames", fn := fun _ => fun
  | [d1, d2] => { results := [.lit (.bool false)], args := [d1, d2] }
  | _ => none }
def CompNamesWrongFalsely : Prop := compNamesRow.holds Try.pinned (OpenSpec.ofChange compNamesWrong)

/-- 'wellspringlaw04.CompChained': WHATEVER THE INPUT: true; the input reads as it did. -/
def compChainedSpec : ChangeSpec := { name := "compChained", fn := fun _ => fun
  | [d1, d2] => { results := [.lit (.bool true)], args := [d1, d2] }
  | _ => none }
def compChainedRow : OpenClaim := { program := "ytdkkanpbcifkfaa", sum := "63e69347a20570d51cc4b430b0a261139a50a0cf302fc09c5ce07fc80e00baa0", func := "wellspring/wellspringlaw04.CompChained", spec := "compChained", inPlace := ["internal/abi.NoEscape"], plainKeys := false, apart := false }
def CompChainedSaid : Prop := compChainedRow.holds Try.pinned (OpenSpec.ofChange compChainedSpec)

/-- ITS FALSE NEIGHBOUR: 'it returns false'. Refute it at one input. -/
def compChainedWrong : ChangeSpec := { name := "compChained", fn := fun _ => fun
  | [d1, d2] => { results := [.lit (.bool false)], args := [d1, d2] }
  | _ => none }
def CompChainedWrongFalsely : Prop := compChainedRow.holds Try.pinned (OpenSpec.ofChange compChainedWrong)

/-- 'wellspringlaw04.CompPrefix': WHATEVER THE INPUT: true; the input reads as it did. -/
def compPrefixSpec : ChangeSpec := { name := "compPrefix", fn := fun _ => fun
  | [d1, d2, d3] => { results := [.lit (.bool true)], args := [d1, d2, d3] }
  | _ => none }
def compPrefixRow : OpenClaim := { program := "ytdkkanpbcifkfaa", sum := "63e69347a20570d51cc4b430b0a261139a50a0cf302fc09c5ce07fc80e00baa0", func := "wellspring/wellspringlaw04.CompPrefix", spec := "compPrefix", inPlace := ["internal/abi.NoEscape"], plainKeys := false, apart := false }
def CompPrefixSaid : Prop := compPrefixRow.holds Try.pinned (OpenSpec.ofChange compPrefixSpec)

/-- ITS FALSE NEIGHBOUR: 'it returns false'. Refute it at one input. -/
def compPrefixWrong : ChangeSpec := { name := "compPrefix", fn := fun _ => fun
  | [d1, d2, d3] => { results := [.lit (.bool false)], args := [d1, d2, d3] }
  | _ => none }
def CompPrefixWrongFalsely : Prop := compPrefixRow.holds Try.pinned (OpenSpec.ofChange compPrefixWrong)

/-- 'wellspringlaw05.DataExpands': WHATEVER THE INPUT: true; the input reads as it did. -/
def dataExpandsSpec : ChangeSpec := { name := "dataExpands", fn := fun _ => fun
  | [d1, d2, d3] => { results := [.lit (.bool true)], args := [d1, d2, d3] }
  | _ => none }
def dataExpandsRow : OpenClaim := { program := "ytdkkanpbcifkfaa", sum := "63e69347a20570d51cc4b430b0a261139a50a0cf302fc09c5ce07fc80e00baa0", func := "wellspring/wellspringlaw05.DataExpands", spec := "dataExpands", inPlace := ["internal/abi.NoEscape", "internal/bytealg.MakeNoZero"], plainKeys := false, apart := false }
def DataExpandsSaid : Prop := dataExpandsRow.holds Try.pinned (OpenSpec.ofChange dataExpandsSpec)

/-- ITS FALSE NEIGHBOUR: 'it returns false'. Refute it at one input. -/
def dataExpandsWrong : ChangeSpec := { name := "dataExpands", fn := fun _ => fun
  | [d1, d2, d3] => { results := [.lit (.bool false)], args := [d1, d2, d3] }
  | _ => none }
def DataExpandsWrongFalsely : Prop := dataExpandsRow.holds Try.pinned (OpenSpec.ofChange dataExpandsWrong)

/-- 'wellspringlaw05.DataTells': WHATEVER THE INPUT: true; the input reads as it did. -/
def dataTellsSpec : ChangeSpec := { name := "dataTells", fn := fun _ => fun
  | [d1, d2] => { results := [.lit (.bool true)], args := [d1, d2] }
  | _ => none }
def dataTellsRow : OpenClaim := { program := "ytdkkanpbcifkfaa", sum := "63e69347a20570d51cc4b430b0a261139a50a0cf302fc09c5ce07fc80e00baa0", func := "wellspring/wellspringlaw05.DataTells", spec := "dataTells", inPlace := ["internal/abi.NoEscape", "internal/bytealg.MakeNoZero"], plainKeys := false, apart := false }
def DataTellsSaid : Prop := dataTellsRow.holds Try.pinned (OpenSpec.ofChange dataTellsSpec)

/-- ITS FALSE NEIGHBOUR: 'it returns false'. Refute it at one input. -/
def dataTellsWrong : ChangeSpec := { name := "dataTells", fn := fun _ => fun
  | [d1, d2] => { results := [.lit (.bool false)], args := [d1, d2] }
  | _ => none }
def DataTellsWrongFalsely : Prop := dataTellsRow.holds Try.pinned (OpenSpec.ofChange dataTellsWrong)

/-- 'wellspringlaw05.DataBack': WHATEVER THE INPUT: true; the input reads as it did. -/
def dataBackSpec : ChangeSpec := { name := "dataBack", fn := fun _ => fun
  | [d1, d2, d3] => { results := [.lit (.bool true)], args := [d1, d2, d3] }
  | _ => none }
def dataBackRow : OpenClaim := { program := "ytdkkanpbcifkfaa", sum := "63e69347a20570d51cc4b430b0a261139a50a0cf302fc09c5ce07fc80e00baa0", func := "wellspring/wellspringlaw05.DataBack", spec := "dataBack", inPlace := ["internal/abi.NoEscape", "internal/bytealg.MakeNoZero"], plainKeys := false, apart := false }
def DataBackSaid : Prop := dataBackRow.holds Try.pinned (OpenSpec.ofChange dataBackSpec)

/-- ITS FALSE NEIGHBOUR: 'it returns false'. Refute it at one input. -/
def dataBackWrong : ChangeSpec := { name := "dataBack", fn := fun _ => fun
  | [d1, d2, d3] => { results := [.lit (.bool false)], args := [d1, d2, d3] }
  | _ => none }
def DataBackWrongFalsely : Prop := dataBackRow.holds Try.pinned (OpenSpec.ofChange dataBackWrong)

/-- 'wellspringlaw05.DataPointers': WHATEVER THE INPUT: true; the input reads as it did. -/
def dataPointersSpec : ChangeSpec := { name := "dataPointers", fn := fun _ => fun
  | [d1, d2] => { results := [.lit (.bool true)], args := [d1, d2] }
  | _ => none }
def dataPointersRow : OpenClaim := { program := "ytdkkanpbcifkfaa", sum := "63e69347a20570d51cc4b430b0a261139a50a0cf302fc09c5ce07fc80e00baa0", func := "wellspring/wellspringlaw05.DataPointers", spec := "dataPointers", inPlace := ["internal/abi.NoEscape", "internal/bytealg.MakeNoZero"], plainKeys := false, apart := false }
def DataPointersSaid : Prop := dataPointersRow.holds Try.pinned (OpenSpec.ofChange dataPointersSpec)

/-- ITS FALSE NEIGHBOUR: 'it returns false'. Refute it at one input. -/
def dataPointersWrong : ChangeSpec := { name := "dataPointers", fn := fun _ => fun
  | [d1, d2] => { results := [.lit (.bool false)], args := [d1, d2] }
  | _ => none }
def DataPointersWrongFalsely : Prop := dataPointersRow.holds Try.pinned (OpenSpec.ofChange dataPointersWrong)

/-- 'wellspringlaw05.DataKinds': WHATEVER THE INPUT: true; the input reads as it did. -/
def dataKindsSpec : ChangeSpec := { name := "dataKinds", fn := fun _ => fun
  | [d1, d2] => { results := [.lit (.bool true)], args := [d1, d2] }
  | _ => none }
def dataKindsRow : OpenClaim := { program := "ytdkkanpbcifkfaa", sum := "63e69347a20570d51cc4b430b0a261139a50a0cf302fc09c5ce07fc80e00baa0", func := "wellspring/wellspringlaw05.DataKinds", spec := "dataKinds", inPlace := ["internal/abi.NoEscape", "internal/bytealg.MakeNoZero"], plainKeys := false, apart := false }
def DataKindsSaid : Prop := dataKindsRow.holds Try.pinned (OpenSpec.ofChange dataKindsSpec)

/-- ITS FALSE NEIGHBOUR: 'it returns false'. Refute it at one input. -/
def dataKindsWrong : ChangeSpec := { name := "dataKinds", fn := fun _ => fun
  | [d1, d2] => { results := [.lit (.bool false)], args := [d1, d2] }
  | _ => none }
def DataKindsWrongFalsely : Prop := dataKindsRow.holds Try.pinned (OpenSpec.ofChange dataKindsWrong)

/-- 'wellspringlaw10.GroupFrom': WHATEVER THE INPUT: true; the input reads as it did. -/
def groupFromSpec : ChangeSpec := { name := "groupFrom", fn := fun _ => fun
  | [d] => { results := [.lit (.bool true)], args := [d] }
  | _ => none }
def groupFromRow : OpenClaim := { program := "ytdkkanpbcifkfaa", sum := "63e69347a20570d51cc4b430b0a261139a50a0cf302fc09c5ce07fc80e00baa0", func := "wellspring/wellspringlaw10.GroupFrom", spec := "groupFrom", inPlace := ["internal/abi.NoEscape", "internal/bytealg.MakeNoZero"], plainKeys := false, apart := false }
def GroupFromSaid : Prop := groupFromRow.holds Try.pinned (OpenSpec.ofChange groupFromSpec)

/-- ITS FALSE NEIGHBOUR: 'it returns false'. Refute it at one input. -/
def groupFromWrong : ChangeSpec := { name := "groupFrom", fn := fun _ => fun
  | [d] => { results := [.lit (.bool false)], args := [d] }
  | _ => none }
def GroupFromWrongFalsely : Prop := groupFromRow.holds Try.pinned (OpenSpec.ofChange groupFromWrong)

/-- 'wellspringlaw10.GroupTells': WHATEVER THE INPUT: true; the input reads as it did. -/
def groupTellsSpec : ChangeSpec := { name := "groupTells", fn := fun _ => fun
  | [d1, d2, d3] => { results := [.lit (.bool true)], args := [d1, d2, d3] }
  | _ => none }
def groupTellsRow : OpenClaim := { program := "ytdkkanpbcifkfaa", sum := "63e69347a20570d51cc4b430b0a261139a50a0cf302fc09c5ce07fc80e00baa0", func := "wellspring/wellspringlaw10.GroupTells", spec := "groupTells", inPlace := ["internal/abi.NoEscape", "internal/bytealg.MakeNoZero"], plainKeys := false, apart := false }
def GroupTellsSaid : Prop := groupTellsRow.holds Try.pinned (OpenSpec.ofChange groupTellsSpec)

/-- ITS FALSE NEIGHBOUR: 'it returns false'. Refute it at one input. -/
def groupTellsWrong : ChangeSpec := { name := "groupTells", fn := fun _ => fun
  | [d1, d2, d3] => { results := [.lit (.bool false)], args := [d1, d2, d3] }
  | _ => none }
def GroupTellsWrongFalsely : Prop := groupTellsRow.holds Try.pinned (OpenSpec.ofChange groupTellsWrong)

/-- 'wellspringlaw10.GroupBack': WHATEVER THE INPUT: true; the input reads as it did. -/
def groupBackSpec : ChangeSpec := { name := "groupBack", fn := fun _ => fun
  | [d1, d2] => { results := [.lit (.bool true)], args := [d1, d2] }
  | _ => none }
def groupBackRow : OpenClaim := { program := "ytdkkanpbcifkfaa", sum := "63e69347a20570d51cc4b430b0a261139a50a0cf302fc09c5ce07fc80e00baa0", func := "wellspring/wellspringlaw10.GroupBack", spec := "groupBack", inPlace := ["internal/abi.NoEscape", "internal/bytealg.MakeNoZero"], plainKeys := false, apart := false }
def GroupBackSaid : Prop := groupBackRow.holds Try.pinned (OpenSpec.ofChange groupBackSpec)

/-- ITS FALSE NEIGHBOUR: 'it returns false'. Refute it at one input. -/
def groupBackWrong : ChangeSpec := { name := "groupBack", fn := fun _ => fun
  | [d1, d2] => { results := [.lit (.bool false)], args := [d1, d2] }
  | _ => none }
def GroupBackWrongFalsely : Prop := groupBackRow.holds Try.pinned (OpenSpec.ofChange groupBackWrong)

/-- 'wellspringlaw10.GroupAll': WHATEVER THE INPUT: true; the input reads as it did. -/
def groupAllSpec : ChangeSpec := { name := "groupAll", fn := fun _ => fun
  | [d] => { results := [.lit (.bool true)], args := [d] }
  | _ => none }
def groupAllRow : OpenClaim := { program := "ytdkkanpbcifkfaa", sum := "63e69347a20570d51cc4b430b0a261139a50a0cf302fc09c5ce07fc80e00baa0", func := "wellspring/wellspringlaw10.GroupAll", spec := "groupAll", inPlace := ["internal/abi.NoEscape", "internal/bytealg.MakeNoZero"], plainKeys := false, apart := false }
def GroupAllSaid : Prop := groupAllRow.holds Try.pinned (OpenSpec.ofChange groupAllSpec)

/-- ITS FALSE NEIGHBOUR: 'it returns false'. Refute it at one input. -/
def groupAllWrong : ChangeSpec := { name := "groupAll", fn := fun _ => fun
  | [d] => { results := [.lit (.bool false)], args := [d] }
  | _ => none }
def GroupAllWrongFalsely : Prop := groupAllRow.holds Try.pinned (OpenSpec.ofChange groupAllWrong)

/-- 'wellspringlaw10.GroupTurns': WHATEVER THE INPUT: true; the input reads as it did. -/
def groupTurnsSpec : ChangeSpec := { name := "groupTurns", fn := fun _ => fun
  | [d1, d2] => { results := [.lit (.bool true)], args := [d1, d2] }
  | _ => none }
def groupTurnsRow : OpenClaim := { program := "ytdkkanpbcifkfaa", sum := "63e69347a20570d51cc4b430b0a261139a50a0cf302fc09c5ce07fc80e00baa0", func := "wellspring/wellspringlaw10.GroupTurns", spec := "groupTurns", inPlace := ["internal/abi.NoEscape", "internal/bytealg.MakeNoZero"], plainKeys := false, apart := false }
def GroupTurnsSaid : Prop := groupTurnsRow.holds Try.pinned (OpenSpec.ofChange groupTurnsSpec)

/-- ITS FALSE NEIGHBOUR: 'it returns false'. Refute it at one input. -/
def groupTurnsWrong : ChangeSpec := { name := "groupTurns", fn := fun _ => fun
  | [d1, d2] => { results := [.lit (.bool false)], args := [d1, d2] }
  | _ => none }
def GroupTurnsWrongFalsely : Prop := groupTurnsRow.holds Try.pinned (OpenSpec.ofChange groupTurnsWrong)

/-- 'wellspringlaw10.GroupLetters': WHATEVER THE INPUT: true; the input reads as it did. -/
def groupLettersSpec : ChangeSpec := { name := "groupLetters", fn := fun _ => fun
  | [d] => { results := [.lit (.bool true)], args := [d] }
  | _ => none }
def groupLettersRow : OpenClaim := { program := "ytdkkanpbcifkfaa", sum := "63e69347a20570d51cc4b430b0a261139a50a0cf302fc09c5ce07fc80e00baa0", func := "wellspring/wellspringlaw10.GroupLetters", spec := "groupLetters", inPlace := ["internal/abi.NoEscape", "internal/bytealg.MakeNoZero"], plainKeys := false, apart := false }
def GroupLettersSaid : Prop := groupLettersRow.holds Try.pinned (OpenSpec.ofChange groupLettersSpec)

/-- ITS FALSE NEIGHBOUR: 'it returns false'. Refute it at one input. -/
def groupLettersWrong : ChangeSpec := { name := "groupLetters", fn := fun _ => fun
  | [d] => { results := [.lit (.bool false)], args := [d] }
  | _ => none }
def GroupLettersWrongFalsely : Prop := groupLettersRow.holds Try.pinned (OpenSpec.ofChange groupLettersWrong)

/- THE SECOND FORM. 'bulk': how many values and letters a reading holds, each counted each time it is reached (what is shared counts as often as it is met; a slice's spare places count too). A statement '..UptoSaid' is the law's where the arguments, and the package variables that the reading takes, are together of bulk at most 1048576: NARROWER than '..Said'. Prove '..Said' where nothing that the law and all that it calls make is longer than what came in: it says more and counts as full. Else prove '..UptoSaid'. A law counts once. -/
mutual
def uptoBulk {H : Type} : DataW H → Nat
  | .lit (.string bytes) => bytes.length + 1
  | .lit _ => 1
  | .nil => 1
  | .ptr d => uptoBulk d + 1
  | .slice elems spare => uptoBulkAll elems + uptoBulkAll spare + 1
  | .agg parts => uptoBulkAll parts + 1
  | .iface _ d => uptoBulk d + 1
  | .map entries => uptoBulkEntries entries + 1
  | .held _ => 1
def uptoBulkAll {H : Type} : List (DataW H) → Nat
  | [] => 0
  | d :: r => uptoBulk d + uptoBulkAll r
def uptoBulkEntries {H : Type} : List (Lit × DataW H) → Nat
  | [] => 0
  | x :: r => uptoBulkEntry x + uptoBulkEntries r
def uptoBulkEntry {H : Type} : Lit × DataW H → Nat
  | (.string bytes, d) => bytes.length + uptoBulk d + 1
  | (_, d) => uptoBulk d + 1
 end
def uptoSmall : (H : Type) → List (DataW H) → Bool := fun _ ds => decide (uptoBulkAll ds ≤ 1048576)
def OpenSpec.upto (s : _root_.Go.ChangeSpec) : _root_.Go.OpenSpec := { _root_.Go.OpenSpec.ofChange s with cond := some uptoSmall }

/-- 'wellspringlaw04.CompReads', WHERE WHAT IT READS IS OF BULK AT MOST 1048576: true; the input reads as it did. -/
def compReadsUptoRow : OpenClaim := { program := "ytdkkanpbcifkfaa", sum := "63e69347a20570d51cc4b430b0a261139a50a0cf302fc09c5ce07fc80e00baa0", func := "wellspring/wellspringlaw04.CompReads", spec := "compReads", inPlace := ["internal/abi.NoEscape"], plainKeys := false, apart := false, narrowed := true }
def CompReadsUptoSaid : Prop := compReadsUptoRow.holds Try.pinned (OpenSpec.upto compReadsSpec)

/-- 'wellspringlaw04.CompWrites', WHERE WHAT IT READS IS OF BULK AT MOST 1048576: true; the input reads as it did. -/
def compWritesUptoRow : OpenClaim := { program := "ytdkkanpbcifkfaa", sum := "63e69347a20570d51cc4b430b0a261139a50a0cf302fc09c5ce07fc80e00baa0", func := "wellspring/wellspringlaw04.CompWrites", spec := "compWrites", inPlace := ["internal/abi.NoEscape"], plainKeys := false, apart := false, narrowed := true }
def CompWritesUptoSaid : Prop := compWritesUptoRow.holds Try.pinned (OpenSpec.upto compWritesSpec)

/-- 'wellspringlaw04.CompBack', WHERE WHAT IT READS IS OF BULK AT MOST 1048576: true; the input reads as it did. -/
def compBackUptoRow : OpenClaim := { program := "ytdkkanpbcifkfaa", sum := "63e69347a20570d51cc4b430b0a261139a50a0cf302fc09c5ce07fc80e00baa0", func := "wellspring/wellspringlaw04.CompBack", spec := "compBack", inPlace := ["internal/abi.NoEscape"], plainKeys := false, apart := false, narrowed := true }
def CompBackUptoSaid : Prop := compBackUptoRow.holds Try.pinned (OpenSpec.upto compBackSpec)

/-- 'wellspringlaw04.CompNames', WHERE WHAT IT READS IS OF BULK AT MOST 1048576: true; the input reads as it did. -/
def compNamesUptoRow : OpenClaim := { program := "ytdkkanpbcifkfaa", sum := "63e69347a20570d51cc4b430b0a261139a50a0cf302fc09c5ce07fc80e00baa0", func := "wellspring/wellspringlaw04.CompNames", spec := "compNames", inPlace := ["internal/abi.NoEscape"], plainKeys := false, apart := false, narrowed := true }
def CompNamesUptoSaid : Prop := compNamesUptoRow.holds Try.pinned (OpenSpec.upto compNamesSpec)

/-- 'wellspringlaw04.CompChained', WHERE WHAT IT READS IS OF BULK AT MOST 1048576: true; the input reads as it did. -/
def compChainedUptoRow : OpenClaim := { program := "ytdkkanpbcifkfaa", sum := "63e69347a20570d51cc4b430b0a261139a50a0cf302fc09c5ce07fc80e00baa0", func := "wellspring/wellspringlaw04.CompChained", spec := "compChained", inPlace := ["internal/abi.NoEscape"], plainKeys := false, apart := false, narrowed := true }
def CompChainedUptoSaid : Prop := compChainedUptoRow.holds Try.pinned (OpenSpec.upto compChainedSpec)

/-- 'wellspringlaw04.CompPrefix', WHERE WHAT IT READS IS OF BULK AT MOST 1048576: true; the input reads as it did. -/
def compPrefixUptoRow : OpenClaim := { program := "ytdkkanpbcifkfaa", sum := "63e69347a20570d51cc4b430b0a261139a50a0cf302fc09c5ce07fc80e00baa0", func := "wellspring/wellspringlaw04.CompPrefix", spec := "compPrefix", inPlace := ["internal/abi.NoEscape"], plainKeys := false, apart := false, narrowed := true }
def CompPrefixUptoSaid : Prop := compPrefixUptoRow.holds Try.pinned (OpenSpec.upto compPrefixSpec)

/-- 'wellspringlaw05.DataExpands', WHERE WHAT IT READS IS OF BULK AT MOST 1048576: true; the input reads as it did. -/
def dataExpandsUptoRow : OpenClaim := { program := "ytdkkanpbcifkfaa", sum := "63e69347a20570d51cc4b430b0a261139a50a0cf302fc09c5ce07fc80e00baa0", func := "wellspring/wellspringlaw05.DataExpands", spec := "dataExpands", inPlace := ["internal/abi.NoEscape", "internal/bytealg.MakeNoZero"], plainKeys := false, apart := false, narrowed := true }
def DataExpandsUptoSaid : Prop := dataExpandsUptoRow.holds Try.pinned (OpenSpec.upto dataExpandsSpec)

/-- 'wellspringlaw05.DataTells', WHERE WHAT IT READS IS OF BULK AT MOST 1048576: true; the input reads as it did. -/
def dataTellsUptoRow : OpenClaim := { program := "ytdkkanpbcifkfaa", sum := "63e69347a20570d51cc4b430b0a261139a50a0cf302fc09c5ce07fc80e00baa0", func := "wellspring/wellspringlaw05.DataTells", spec := "dataTells", inPlace := ["internal/abi.NoEscape", "internal/bytealg.MakeNoZero"], plainKeys := false, apart := false, narrowed := true }
def DataTellsUptoSaid : Prop := dataTellsUptoRow.holds Try.pinned (OpenSpec.upto dataTellsSpec)

/-- 'wellspringlaw05.DataBack', WHERE WHAT IT READS IS OF BULK AT MOST 1048576: true; the input reads as it did. -/
def dataBackUptoRow : OpenClaim := { program := "ytdkkanpbcifkfaa", sum := "63e69347a20570d51cc4b430b0a261139a50a0cf302fc09c5ce07fc80e00baa0", func := "wellspring/wellspringlaw05.DataBack", spec := "dataBack", inPlace := ["internal/abi.NoEscape", "internal/bytealg.MakeNoZero"], plainKeys := false, apart := false, narrowed := true }
def DataBackUptoSaid : Prop := dataBackUptoRow.holds Try.pinned (OpenSpec.upto dataBackSpec)

/-- 'wellspringlaw05.DataPointers', WHERE WHAT IT READS IS OF BULK AT MOST 1048576: true; the input reads as it did. -/
def dataPointersUptoRow : OpenClaim := { program := "ytdkkanpbcifkfaa", sum := "63e69347a20570d51cc4b430b0a261139a50a0cf302fc09c5ce07fc80e00baa0", func := "wellspring/wellspringlaw05.DataPointers", spec := "dataPointers", inPlace := ["internal/abi.NoEscape", "internal/bytealg.MakeNoZero"], plainKeys := false, apart := false, narrowed := true }
def DataPointersUptoSaid : Prop := dataPointersUptoRow.holds Try.pinned (OpenSpec.upto dataPointersSpec)

/-- 'wellspringlaw05.DataKinds', WHERE WHAT IT READS IS OF BULK AT MOST 1048576: true; the input reads as it did. -/
def dataKindsUptoRow : OpenClaim := { program := "ytdkkanpbcifkfaa", sum := "63e69347a20570d51cc4b430b0a261139a50a0cf302fc09c5ce07fc80e00baa0", func := "wellspring/wellspringlaw05.DataKinds", spec := "dataKinds", inPlace := ["internal/abi.NoEscape", "internal/bytealg.MakeNoZero"], plainKeys := false, apart := false, narrowed := true }
def DataKindsUptoSaid : Prop := dataKindsUptoRow.holds Try.pinned (OpenSpec.upto dataKindsSpec)

/-- 'wellspringlaw10.GroupFrom', WHERE WHAT IT READS IS OF BULK AT MOST 1048576: true; the input reads as it did. -/
def groupFromUptoRow : OpenClaim := { program := "ytdkkanpbcifkfaa", sum := "63e69347a20570d51cc4b430b0a261139a50a0cf302fc09c5ce07fc80e00baa0", func := "wellspring/wellspringlaw10.GroupFrom", spec := "groupFrom", inPlace := ["internal/abi.NoEscape", "internal/bytealg.MakeNoZero"], plainKeys := false, apart := false, narrowed := true }
def GroupFromUptoSaid : Prop := groupFromUptoRow.holds Try.pinned (OpenSpec.upto groupFromSpec)

/-- 'wellspringlaw10.GroupTells', WHERE WHAT IT READS IS OF BULK AT MOST 1048576: true; the input reads as it did. -/
def groupTellsUptoRow : OpenClaim := { program := "ytdkkanpbcifkfaa", sum := "63e69347a20570d51cc4b430b0a261139a50a0cf302fc09c5ce07fc80e00baa0", func := "wellspring/wellspringlaw10.GroupTells", spec := "groupTells", inPlace := ["internal/abi.NoEscape", "internal/bytealg.MakeNoZero"], plainKeys := false, apart := false, narrowed := true }
def GroupTellsUptoSaid : Prop := groupTellsUptoRow.holds Try.pinned (OpenSpec.upto groupTellsSpec)

/-- 'wellspringlaw10.GroupBack', WHERE WHAT IT READS IS OF BULK AT MOST 1048576: true; the input reads as it did. -/
def groupBackUptoRow : OpenClaim := { program := "ytdkkanpbcifkfaa", sum := "63e69347a20570d51cc4b430b0a261139a50a0cf302fc09c5ce07fc80e00baa0", func := "wellspring/wellspringlaw10.GroupBack", spec := "groupBack", inPlace := ["internal/abi.NoEscape", "internal/bytealg.MakeNoZero"], plainKeys := false, apart := false, narrowed := true }
def GroupBackUptoSaid : Prop := groupBackUptoRow.holds Try.pinned (OpenSpec.upto groupBackSpec)

/-- 'wellspringlaw10.GroupAll', WHERE WHAT IT READS IS OF BULK AT MOST 1048576: true; the input reads as it did. -/
def groupAllUptoRow : OpenClaim := { program := "ytdkkanpbcifkfaa", sum := "63e69347a20570d51cc4b430b0a261139a50a0cf302fc09c5ce07fc80e00baa0", func := "wellspring/wellspringlaw10.GroupAll", spec := "groupAll", inPlace := ["internal/abi.NoEscape", "internal/bytealg.MakeNoZero"], plainKeys := false, apart := false, narrowed := true }
def GroupAllUptoSaid : Prop := groupAllUptoRow.holds Try.pinned (OpenSpec.upto groupAllSpec)

/-- 'wellspringlaw10.GroupTurns', WHERE WHAT IT READS IS OF BULK AT MOST 1048576: true; the input reads as it did. -/
def groupTurnsUptoRow : OpenClaim := { program := "ytdkkanpbcifkfaa", sum := "63e69347a20570d51cc4b430b0a261139a50a0cf302fc09c5ce07fc80e00baa0", func := "wellspring/wellspringlaw10.GroupTurns", spec := "groupTurns", inPlace := ["internal/abi.NoEscape", "internal/bytealg.MakeNoZero"], plainKeys := false, apart := false, narrowed := true }
def GroupTurnsUptoSaid : Prop := groupTurnsUptoRow.holds Try.pinned (OpenSpec.upto groupTurnsSpec)

/-- 'wellspringlaw10.GroupLetters', WHERE WHAT IT READS IS OF BULK AT MOST 1048576: true; the input reads as it did. -/
def groupLettersUptoRow : OpenClaim := { program := "ytdkkanpbcifkfaa", sum := "63e69347a20570d51cc4b430b0a261139a50a0cf302fc09c5ce07fc80e00baa0", func := "wellspring/wellspringlaw10.GroupLetters", spec := "groupLetters", inPlace := ["internal/abi.NoEscape", "internal/bytealg.MakeNoZero"], plainKeys := false, apart := false, narrowed := true }
def GroupLettersUptoSaid : Prop := groupLettersUptoRow.holds Try.pinned (OpenSpec.upto groupLettersSpec)

end Rows
end Go.Proofs.Ytdkkanpbcifkfaa
