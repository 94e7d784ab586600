/-
  No cell of these rows narrows 'for every input' (looked for: loops, veiled, ifaces, maps, wideKeys, modest, calm, conditions, laid).
  DERIVED. THE GIVEN ROWS OF THIS SEAT. 12 by the template 'for every input the law returns true; each argument reads behind the call as it read before'; 0 by the template 'total and deterministic' (their statements: YtmmnlfenaedjoaaTotals.lean).
  GIVEN WITH THE SEED: the statements are not yours to turn. If you find one false, say at which input.
  Laid BY PROGRAM, IN A SANDBOX (cutbox-rows.mjs): the forced cells as the released guide's own fill.sh prints them over the translation 2b022ab9601b477d… (all of the seat's roots in one cut). By AI agents, Wed Nov 11 2026. No macro, syntax, notation, axiom, sorry.
-/
import Derived.Test.YtmmnlfenaedjoaaChecked
import GoSem.Claim
import GoSem.ClaimJoined
import GoSem.ClaimMapViews
import Derived.JoinedTies
import Derived.KernelRfl
namespace Go.Proofs.Ytmmnlfenaedjoaa
/- THE CELL 'sum', in the pinned program and in every row, IS THE sha256 OF THE DUMP (.gsa) THAT YtmmnlfenaedjoaaProg.lean LOADS. Nothing in Lean hashes anything: it is a label: what it is worth is what the hold of that sum in a sandbox is worth. -/
noncomputable def Try.pinned : Pinned := { name := "ytmmnlfenaedjoaa", sum := "2b022ab9601b477d1e8d8147a905636d742cc27b576b8cc75b4e847016d46a00", checked := Try.checked }
namespace Rows
def none {H : Type} : Left H := { results := [], args := [] }

/-- 'wellspringlaw01.OctetTells': WHATEVER THE INPUT: true; the input reads as it did. -/
def octetTellsSpec : ChangeSpec := { name := "octetTells", fn := fun _ => fun
  | [d1, d2, d3] => { results := [.lit (.bool true)], args := [d1, d2, d3] }
  | _ => none }
def octetTellsRow : OpenClaim := { program := "ytmmnlfenaedjoaa", sum := "2b022ab9601b477d1e8d8147a905636d742cc27b576b8cc75b4e847016d46a00", func := "wellspring/wellspringlaw01.OctetTells", spec := "octetTells", apart := false }
def OctetTellsSaid : Prop := octetTellsRow.holds Try.pinned (OpenSpec.ofChange octetTellsSpec)

/-- ITS FALSE NEIGHBOUR: 'it returns false'. Refute it at one input. -/
def octetTellsWrong : ChangeSpec := { name := "octetTells", fn := fun _ => fun
  | [d1, d2, d3] => { results := [.lit (.bool false)], args := [d1, d2, d3] }
  | _ => none }
def OctetTellsWrongFalsely : Prop := octetTellsRow.holds Try.pinned (OpenSpec.ofChange octetTellsWrong)

/-- 'wellspringlaw01.OctetBack': WHATEVER THE INPUT: true; the input reads as it did. -/
def octetBackSpec : ChangeSpec := { name := "octetBack", fn := fun _ => fun
  | [d1, d2, d3] => { results := [.lit (.bool true)], args := [d1, d2, d3] }
  | _ => none }
def octetBackRow : OpenClaim := { program := "ytmmnlfenaedjoaa", sum := "2b022ab9601b477d1e8d8147a905636d742cc27b576b8cc75b4e847016d46a00", func := "wellspring/wellspringlaw01.OctetBack", spec := "octetBack", apart := false }
def OctetBackSaid : Prop := octetBackRow.holds Try.pinned (OpenSpec.ofChange octetBackSpec)

/-- ITS FALSE NEIGHBOUR: 'it returns false'. Refute it at one input. -/
def octetBackWrong : ChangeSpec := { name := "octetBack", fn := fun _ => fun
  | [d1, d2, d3] => { results := [.lit (.bool false)], args := [d1, d2, d3] }
  | _ => none }
def OctetBackWrongFalsely : Prop := octetBackRow.holds Try.pinned (OpenSpec.ofChange octetBackWrong)

/-- 'wellspringlaw01.OctetLays': WHATEVER THE INPUT: true; the input reads as it did. -/
def octetLaysSpec : ChangeSpec := { name := "octetLays", fn := fun _ => fun
  | [d1, d2, d3] => { results := [.lit (.bool true)], args := [d1, d2, d3] }
  | _ => none }
def octetLaysRow : OpenClaim := { program := "ytmmnlfenaedjoaa", sum := "2b022ab9601b477d1e8d8147a905636d742cc27b576b8cc75b4e847016d46a00", func := "wellspring/wellspringlaw01.OctetLays", spec := "octetLays", apart := false }
def OctetLaysSaid : Prop := octetLaysRow.holds Try.pinned (OpenSpec.ofChange octetLaysSpec)

/-- ITS FALSE NEIGHBOUR: 'it returns false'. Refute it at one input. -/
def octetLaysWrong : ChangeSpec := { name := "octetLays", fn := fun _ => fun
  | [d1, d2, d3] => { results := [.lit (.bool false)], args := [d1, d2, d3] }
  | _ => none }
def OctetLaysWrongFalsely : Prop := octetLaysRow.holds Try.pinned (OpenSpec.ofChange octetLaysWrong)

/-- 'wellspringlaw01.OctetOrder': WHATEVER THE INPUT: true; the input reads as it did. -/
def octetOrderSpec : ChangeSpec := { name := "octetOrder", fn := fun _ => fun
  | [d1, d2, d3] => { results := [.lit (.bool true)], args := [d1, d2, d3] }
  | _ => none }
def octetOrderRow : OpenClaim := { program := "ytmmnlfenaedjoaa", sum := "2b022ab9601b477d1e8d8147a905636d742cc27b576b8cc75b4e847016d46a00", func := "wellspring/wellspringlaw01.OctetOrder", spec := "octetOrder", apart := false }
def OctetOrderSaid : Prop := octetOrderRow.holds Try.pinned (OpenSpec.ofChange octetOrderSpec)

/-- ITS FALSE NEIGHBOUR: 'it returns false'. Refute it at one input. -/
def octetOrderWrong : ChangeSpec := { name := "octetOrder", fn := fun _ => fun
  | [d1, d2, d3] => { results := [.lit (.bool false)], args := [d1, d2, d3] }
  | _ => none }
def OctetOrderWrongFalsely : Prop := octetOrderRow.holds Try.pinned (OpenSpec.ofChange octetOrderWrong)

/-- 'wellspringlaw01.OctetTakes': WHATEVER THE INPUT: true; the input reads as it did. -/
def octetTakesSpec : ChangeSpec := { name := "octetTakes", fn := fun _ => fun
  | [d1, d2, d3] => { results := [.lit (.bool true)], args := [d1, d2, d3] }
  | _ => none }
def octetTakesRow : OpenClaim := { program := "ytmmnlfenaedjoaa", sum := "2b022ab9601b477d1e8d8147a905636d742cc27b576b8cc75b4e847016d46a00", func := "wellspring/wellspringlaw01.OctetTakes", spec := "octetTakes", apart := false }
def OctetTakesSaid : Prop := octetTakesRow.holds Try.pinned (OpenSpec.ofChange octetTakesSpec)

/-- ITS FALSE NEIGHBOUR: 'it returns false'. Refute it at one input. -/
def octetTakesWrong : ChangeSpec := { name := "octetTakes", fn := fun _ => fun
  | [d1, d2, d3] => { results := [.lit (.bool false)], args := [d1, d2, d3] }
  | _ => none }
def OctetTakesWrongFalsely : Prop := octetTakesRow.holds Try.pinned (OpenSpec.ofChange octetTakesWrong)

/-- 'wellspringlaw01.OctetSizes': WHATEVER THE INPUT: true; the input reads as it did. -/
def octetSizesSpec : ChangeSpec := { name := "octetSizes", fn := fun _ => fun
  | [d] => { results := [.lit (.bool true)], args := [d] }
  | _ => none }
def octetSizesRow : OpenClaim := { program := "ytmmnlfenaedjoaa", sum := "2b022ab9601b477d1e8d8147a905636d742cc27b576b8cc75b4e847016d46a00", func := "wellspring/wellspringlaw01.OctetSizes", spec := "octetSizes", apart := false }
def OctetSizesSaid : Prop := octetSizesRow.holds Try.pinned (OpenSpec.ofChange octetSizesSpec)

/-- ITS FALSE NEIGHBOUR: 'it returns false'. Refute it at one input. -/
def octetSizesWrong : ChangeSpec := { name := "octetSizes", fn := fun _ => fun
  | [d] => { results := [.lit (.bool false)], args := [d] }
  | _ => none }
def OctetSizesWrongFalsely : Prop := octetSizesRow.holds Try.pinned (OpenSpec.ofChange octetSizesWrong)

/-- 'wellspringlaw04.CompReads': WHATEVER THE INPUT: true; the input reads as it did. -/
def compReadsSpec : ChangeSpec := { name := "compReads", fn := fun _ => fun
  | [d1, d2] => { results := [.lit (.bool true)], args := [d1, d2] }
  | _ => none }
def compReadsRow : OpenClaim := { program := "ytmmnlfenaedjoaa", sum := "2b022ab9601b477d1e8d8147a905636d742cc27b576b8cc75b4e847016d46a00", func := "wellspring/wellspringlaw04.CompReads", spec := "compReads", inPlace := ["internal/abi.NoEscape"], apart := false }
def CompReadsSaid : Prop := compReadsRow.holds Try.pinned (OpenSpec.ofChange compReadsSpec)

/-- ITS FALSE NEIGHBOUR: 'it returns false'. Refute it at one input. -/
def compReadsWrong : ChangeSpec := { name := "compReads", fn := fun _ => fun
  | [d1, d2] => { results := [.lit (.bool false)], args := [d1, d2] }
  | _ => none }
def CompReadsWrongFalsely : Prop := compReadsRow.holds Try.pinned (OpenSpec.ofChange compReadsWrong)

/-- 'wellspringlaw04.CompWrites': WHATEVER THE INPUT: true; the input reads as it did. -/
def compWritesSpec : ChangeSpec := { name := "compWrites", fn := fun _ => fun
  | [d1, d2, d3] => { results := [.lit (.bool true)], args := [d1, d2, d3] }
  | _ => none }
def compWritesRow : OpenClaim := { program := "ytmmnlfenaedjoaa", sum := "2b022ab9601b477d1e8d8147a905636d742cc27b576b8cc75b4e847016d46a00", func := "wellspring/wellspringlaw04.CompWrites", spec := "compWrites", inPlace := ["internal/abi.NoEscape"], apart := false }
def CompWritesSaid : Prop := compWritesRow.holds Try.pinned (OpenSpec.ofChange compWritesSpec)

/-- ITS FALSE NEIGHBOUR: 'it returns false'. Refute it at one input. -/
def compWritesWrong : ChangeSpec := { name := "compWrites", fn := fun _ => fun
  | [d1, d2, d3] => { results := [.lit (.bool false)], args := [d1, d2, d3] }
  | _ => none }
def CompWritesWrongFalsely : Prop := compWritesRow.holds Try.pinned (OpenSpec.ofChange compWritesWrong)

/-- 'wellspringlaw04.CompBack': WHATEVER THE INPUT: true; the input reads as it did. -/
def compBackSpec : ChangeSpec := { name := "compBack", fn := fun _ => fun
  | [d1, d2, d3] => { results := [.lit (.bool true)], args := [d1, d2, d3] }
  | _ => none }
def compBackRow : OpenClaim := { program := "ytmmnlfenaedjoaa", sum := "2b022ab9601b477d1e8d8147a905636d742cc27b576b8cc75b4e847016d46a00", func := "wellspring/wellspringlaw04.CompBack", spec := "compBack", inPlace := ["internal/abi.NoEscape"], apart := false }
def CompBackSaid : Prop := compBackRow.holds Try.pinned (OpenSpec.ofChange compBackSpec)

/-- ITS FALSE NEIGHBOUR: 'it returns false'. Refute it at one input. -/
def compBackWrong : ChangeSpec := { name := "compBack", fn := fun _ => fun
  | [d1, d2, d3] => { results := [.lit (.bool false)], args := [d1, d2, d3] }
  | _ => none }
def CompBackWrongFalsely : Prop := compBackRow.holds Try.pinned (OpenSpec.ofChange compBackWrong)

/-- 'wellspringlaw04.CompNames': WHATEVER THE INPUT: true; the input reads as it did. -/
def compNamesSpec : ChangeSpec := { name := "compNames", fn := fun _ => fun
  | [d1, d2] => { results := [.lit (.bool true)], args := [d1, d2] }
  | _ => none }
def compNamesRow : OpenClaim := { program := "ytmmnlfenaedjoaa", sum := "2b022ab9601b477d1e8d8147a905636d742cc27b576b8cc75b4e847016d46a00", func := "wellspring/wellspringlaw04.CompNames", spec := "compNames", inPlace := ["internal/abi.NoEscape"], apart := false }
def CompNamesSaid : Prop := compNamesRow.holds Try.pinned (OpenSpec.ofChange compNamesSpec)

/-- ITS FALSE NEIGHBOUR: 'it returns false'. Refute it at one input. -/
def compNamesWrong : ChangeSpec := { name := "compNames", fn := fun _ => fun
  | [d1, d2] => { results := [.lit (.bool false)], args := [d1, d2] }
  | _ => none }
def CompNamesWrongFalsely : Prop := compNamesRow.holds Try.pinned (OpenSpec.ofChange compNamesWrong)

/-- 'wellspringlaw04.CompChained': WHATEVER THE INPUT: true; the input reads as it did. -/
def compChainedSpec : ChangeSpec := { name := "compChained", fn := fun _ => fun
  | [d1, d2] => { results := [.lit (.bool true)], args := [d1, d2] }
  | _ => none }
def compChainedRow : OpenClaim := { program := "ytmmnlfenaedjoaa", sum := "2b022ab9601b477d1e8d8147a905636d742cc27b576b8cc75b4e847016d46a00", func := "wellspring/wellspringlaw04.CompChained", spec := "compChained", inPlace := ["internal/abi.NoEscape"], apart := false }
def CompChainedSaid : Prop := compChainedRow.holds Try.pinned (OpenSpec.ofChange compChainedSpec)

/-- ITS FALSE NEIGHBOUR: 'it returns false'. Refute it at one input. -/
def compChainedWrong : ChangeSpec := { name := "compChained", fn := fun _ => fun
  | [d1, d2] => { results := [.lit (.bool false)], args := [d1, d2] }
  | _ => none }
def CompChainedWrongFalsely : Prop := compChainedRow.holds Try.pinned (OpenSpec.ofChange compChainedWrong)

/-- 'wellspringlaw04.CompPrefix': WHATEVER THE INPUT: true; the input reads as it did. -/
def compPrefixSpec : ChangeSpec := { name := "compPrefix", fn := fun _ => fun
  | [d1, d2, d3] => { results := [.lit (.bool true)], args := [d1, d2, d3] }
  | _ => none }
def compPrefixRow : OpenClaim := { program := "ytmmnlfenaedjoaa", sum := "2b022ab9601b477d1e8d8147a905636d742cc27b576b8cc75b4e847016d46a00", func := "wellspring/wellspringlaw04.CompPrefix", spec := "compPrefix", inPlace := ["internal/abi.NoEscape"], apart := false }
def CompPrefixSaid : Prop := compPrefixRow.holds Try.pinned (OpenSpec.ofChange compPrefixSpec)

/-- ITS FALSE NEIGHBOUR: 'it returns false'. Refute it at one input. -/
def compPrefixWrong : ChangeSpec := { name := "compPrefix", fn := fun _ => fun
  | [d1, d2, d3] => { results := [.lit (.bool false)], args := [d1, d2, d3] }
  | _ => none }
def CompPrefixWrongFalsely : Prop := compPrefixRow.holds Try.pinned (OpenSpec.ofChange compPrefixWrong)

/- THE SECOND FORM. 'bulk': how many values and letters a reading holds, each counted each time it is reached (what is shared counts as often as it is met; a slice's spare places count too). A statement '..UptoSaid' is the law's where the arguments, and the package variables that the reading takes, are together of bulk at most 1048576: NARROWER than '..Said'. Prove '..Said' where nothing that the law and all that it calls make is longer than what came in: it says more and counts as full. Else prove '..UptoSaid'. A law counts once. -/
mutual
def uptoBulk {H : Type} : DataW H → Nat
  | .lit (.string bytes) => bytes.length + 1
  | .lit _ => 1
  | .nil => 1
  | .ptr d => uptoBulk d + 1
  | .slice elems spare => uptoBulkAll elems + uptoBulkAll spare + 1
  | .agg parts => uptoBulkAll parts + 1
  | .iface _ d => uptoBulk d + 1
  | .map entries => uptoBulkEntries entries + 1
  | .held _ => 1
def uptoBulkAll {H : Type} : List (DataW H) → Nat
  | [] => 0
  | d :: r => uptoBulk d + uptoBulkAll r
def uptoBulkEntries {H : Type} : List (Lit × DataW H) → Nat
  | [] => 0
  | x :: r => uptoBulkEntry x + uptoBulkEntries r
def uptoBulkEntry {H : Type} : Lit × DataW H → Nat
  | (.string bytes, d) => bytes.length + uptoBulk d + 1
  | (_, d) => uptoBulk d + 1
 end
def uptoSmall : (H : Type) → List (DataW H) → Bool := fun _ ds => decide (uptoBulkAll ds ≤ 1048576)
def OpenSpec.upto (s : _root_.Go.ChangeSpec) : _root_.Go.OpenSpec := { _root_.Go.OpenSpec.ofChange s with cond := some uptoSmall }

/-- 'wellspringlaw01.OctetTells', WHERE WHAT IT READS IS OF BULK AT MOST 1048576: true; the input reads as it did. -/
def octetTellsUptoRow : OpenClaim := { program := "ytmmnlfenaedjoaa", sum := "2b022ab9601b477d1e8d8147a905636d742cc27b576b8cc75b4e847016d46a00", func := "wellspring/wellspringlaw01.OctetTells", spec := "octetTells", apart := false, narrowed := true }
def OctetTellsUptoSaid : Prop := octetTellsUptoRow.holds Try.pinned (OpenSpec.upto octetTellsSpec)

/-- 'wellspringlaw01.OctetBack', WHERE WHAT IT READS IS OF BULK AT MOST 1048576: true; the input reads as it did. -/
def octetBackUptoRow : OpenClaim := { program := "ytmmnlfenaedjoaa", sum := "2b022ab9601b477d1e8d8147a905636d742cc27b576b8cc75b4e847016d46a00", func := "wellspring/wellspringlaw01.OctetBack", spec := "octetBack", apart := false, narrowed := true }
def OctetBackUptoSaid : Prop := octetBackUptoRow.holds Try.pinned (OpenSpec.upto octetBackSpec)

/-- 'wellspringlaw01.OctetLays', WHERE WHAT IT READS IS OF BULK AT MOST 1048576: true; the input reads as it did. -/
def octetLaysUptoRow : OpenClaim := { program := "ytmmnlfenaedjoaa", sum := "2b022ab9601b477d1e8d8147a905636d742cc27b576b8cc75b4e847016d46a00", func := "wellspring/wellspringlaw01.OctetLays", spec := "octetLays", apart := false, narrowed := true }
def OctetLaysUptoSaid : Prop := octetLaysUptoRow.holds Try.pinned (OpenSpec.upto octetLaysSpec)

/-- 'wellspringlaw01.OctetOrder', WHERE WHAT IT READS IS OF BULK AT MOST 1048576: true; the input reads as it did. -/
def octetOrderUptoRow : OpenClaim := { program := "ytmmnlfenaedjoaa", sum := "2b022ab9601b477d1e8d8147a905636d742cc27b576b8cc75b4e847016d46a00", func := "wellspring/wellspringlaw01.OctetOrder", spec := "octetOrder", apart := false, narrowed := true }
def OctetOrderUptoSaid : Prop := octetOrderUptoRow.holds Try.pinned (OpenSpec.upto octetOrderSpec)

/-- 'wellspringlaw01.OctetTakes', WHERE WHAT IT READS IS OF BULK AT MOST 1048576: true; the input reads as it did. -/
def octetTakesUptoRow : OpenClaim := { program := "ytmmnlfenaedjoaa", sum := "2b022ab9601b477d1e8d8147a905636d742cc27b576b8cc75b4e847016d46a00", func := "wellspring/wellspringlaw01.OctetTakes", spec := "octetTakes", apart := false, narrowed := true }
def OctetTakesUptoSaid : Prop := octetTakesUptoRow.holds Try.pinned (OpenSpec.upto octetTakesSpec)

/-- 'wellspringlaw01.OctetSizes', WHERE WHAT IT READS IS OF BULK AT MOST 1048576: true; the input reads as it did. -/
def octetSizesUptoRow : OpenClaim := { program := "ytmmnlfenaedjoaa", sum := "2b022ab9601b477d1e8d8147a905636d742cc27b576b8cc75b4e847016d46a00", func := "wellspring/wellspringlaw01.OctetSizes", spec := "octetSizes", apart := false, narrowed := true }
def OctetSizesUptoSaid : Prop := octetSizesUptoRow.holds Try.pinned (OpenSpec.upto octetSizesSpec)

/-- 'wellspringlaw04.CompReads', WHERE WHAT IT READS IS OF BULK AT MOST 1048576: true; the input reads as it did. -/
def compReadsUptoRow : OpenClaim := { program := "ytmmnlfenaedjoaa", sum := "2b022ab9601b477d1e8d8147a905636d742cc27b576b8cc75b4e847016d46a00", func := "wellspring/wellspringlaw04.CompReads", spec := "compReads", inPlace := ["internal/abi.NoEscape"], apart := false, narrowed := true }
def CompReadsUptoSaid : Prop := compReadsUptoRow.holds Try.pinned (OpenSpec.upto compReadsSpec)

/-- 'wellspringlaw04.CompWrites', WHERE WHAT IT READS IS OF BULK AT MOST 1048576: true; the input reads as it did. -/
def compWritesUptoRow : OpenClaim := { program := "ytmmnlfenaedjoaa", sum := "2b022ab9601b477d1e8d8147a905636d742cc27b576b8cc75b4e847016d46a00", func := "wellspring/wellspringlaw04.CompWrites", spec := "compWrites", inPlace := ["internal/abi.NoEscape"], apart := false, narrowed := true }
def CompWritesUptoSaid : Prop := compWritesUptoRow.holds Try.pinned (OpenSpec.upto compWritesSpec)

/-- 'wellspringlaw04.CompBack', WHERE WHAT IT READS IS OF BULK AT MOST 1048576: true; the input reads as it did. -/
def compBackUptoRow : OpenClaim := { program := "ytmmnlfenaedjoaa", sum := "2b022ab9601b477d1e8d8147a905636d742cc27b576b8cc75b4e847016d46a00", func := "wellspring/wellspringlaw04.CompBack", spec := "compBack", inPlace := ["internal/abi.NoEscape"], apart := false, narrowed := true }
def CompBackUptoSaid : Prop := compBackUptoRow.holds Try.pinned (OpenSpec.upto compBackSpec)

/-- 'wellspringlaw04.CompNames', WHERE WHAT IT READS IS OF BULK AT MOST 1048576: true; the input reads as it did. -/
def compNamesUptoRow : OpenClaim := { program := "ytmmnlfenaedjoaa", sum := "2b022ab9601b477d1e8d8147a905636d742cc27b576b8cc75b4e847016d46a00", func := "wellspring/wellspringlaw04.CompNames", spec := "compNames", inPlace := ["internal/abi.NoEscape"], apart := false, narrowed := true }
def CompNamesUptoSaid : Prop := compNamesUptoRow.holds Try.pinned (OpenSpec.upto compNamesSpec)

/-- 'wellspringlaw04.CompChained', WHERE WHAT IT READS IS OF BULK AT MOST 1048576: true; the input reads as it did. -/
def compChainedUptoRow : OpenClaim := { program := "ytmmnlfenaedjoaa", sum := "2b022ab9601b477d1e8d8147a905636d742cc27b576b8cc75b4e847016d46a00", func := "wellspring/wellspringlaw04.CompChained", spec := "compChained", inPlace := ["internal/abi.NoEscape"], apart := false, narrowed := true }
def CompChainedUptoSaid : Prop := compChainedUptoRow.holds Try.pinned (OpenSpec.upto compChainedSpec)

/-- 'wellspringlaw04.CompPrefix', WHERE WHAT IT READS IS OF BULK AT MOST 1048576: true; the input reads as it did. -/
def compPrefixUptoRow : OpenClaim := { program := "ytmmnlfenaedjoaa", sum := "2b022ab9601b477d1e8d8147a905636d742cc27b576b8cc75b4e847016d46a00", func := "wellspring/wellspringlaw04.CompPrefix", spec := "compPrefix", inPlace := ["internal/abi.NoEscape"], apart := false, narrowed := true }
def CompPrefixUptoSaid : Prop := compPrefixUptoRow.holds Try.pinned (OpenSpec.upto compPrefixSpec)

end Rows
end Go.Proofs.Ytmmnlfenaedjoaa
