/-
  No cell of these rows narrows 'for every input' (looked for: loops, veiled, ifaces, maps, wideKeys, modest, calm, conditions, laid).
  DERIVED. THE GIVEN ROWS OF THIS SEAT. 5 by the template 'for every input the law returns true; each argument reads behind the call as it read before'; 0 by the template 'total and deterministic' (their statements: YtfokaoeinpnagaaTotals.lean).
  GIVEN WITH THE SEED: the statements are not yours to turn. If you find one false, say at which input.
  Laid BY PROGRAM, IN A SANDBOX (cutbox-rows.mjs): the forced cells as the released guide's own fill.sh prints them over the translation 4fec99d5f7387382… (all of the seat's roots in one cut). By AI agents, Wed Nov 11 2026. No macro, syntax, notation, axiom, sorry.
-/
import Derived.Test.YtfokaoeinpnagaaChecked
import GoSem.Claim
import GoSem.ClaimJoined
import GoSem.ClaimMapViews
import Derived.JoinedTies
import Derived.KernelRfl
namespace Go.Proofs.Ytfokaoeinpnagaa
/- THE CELL 'sum', in the pinned program and in every row, IS THE sha256 OF THE DUMP (.gsa) THAT YtfokaoeinpnagaaProg.lean LOADS. Nothing in Lean hashes anything: it is a label: what it is worth is what the hold of that sum in a sandbox is worth. -/
noncomputable def Try.pinned : Pinned := { name := "ytfokaoeinpnagaa", sum := "4fec99d5f7387382586cab2742fd885380aee53381537df2cb97e23593d2579c", checked := Try.checked }
namespace Rows
def none {H : Type} : Left H := { results := [], args := [] }

/-- 'wellspringlaw16.ChainTells': WHATEVER THE INPUT: true; the input reads as it did. -/
def chainTellsSpec : ChangeSpec := { name := "chainTells", fn := fun _ => fun
  | [d1, d2] => { results := [.lit (.bool true)], args := [d1, d2] }
  | _ => none }
def chainTellsRow : OpenClaim := { program := "ytfokaoeinpnagaa", sum := "4fec99d5f7387382586cab2742fd885380aee53381537df2cb97e23593d2579c", func := "wellspring/wellspringlaw16.ChainTells", spec := "chainTells", inPlace := ["internal/abi.NoEscape", "internal/bytealg.MakeNoZero"], unfollowed := true, recurses := true, plainKeys := false, apart := false }
def ChainTellsSaid : Prop := chainTellsRow.holds Try.pinned (OpenSpec.ofChange chainTellsSpec)

/-- ITS FALSE NEIGHBOUR: 'it returns false'. Refute it at one input. -/
def chainTellsWrong : ChangeSpec := { name := "chainTells", fn := fun _ => fun
  | [d1, d2] => { results := [.lit (.bool false)], args := [d1, d2] }
  | _ => none }
def ChainTellsWrongFalsely : Prop := chainTellsRow.holds Try.pinned (OpenSpec.ofChange chainTellsWrong)

/-- 'wellspringlaw16.ChainAges': WHATEVER THE INPUT: true; the input reads as it did. -/
def chainAgesSpec : ChangeSpec := { name := "chainAges", fn := fun _ => fun
  | [d1, d2, d3] => { results := [.lit (.bool true)], args := [d1, d2, d3] }
  | _ => none }
def chainAgesRow : OpenClaim := { program := "ytfokaoeinpnagaa", sum := "4fec99d5f7387382586cab2742fd885380aee53381537df2cb97e23593d2579c", func := "wellspring/wellspringlaw16.ChainAges", spec := "chainAges", inPlace := ["internal/abi.NoEscape", "internal/bytealg.MakeNoZero"], unfollowed := true, recurses := true, plainKeys := false, apart := false }
def ChainAgesSaid : Prop := chainAgesRow.holds Try.pinned (OpenSpec.ofChange chainAgesSpec)

/-- ITS FALSE NEIGHBOUR: 'it returns false'. Refute it at one input. -/
def chainAgesWrong : ChangeSpec := { name := "chainAges", fn := fun _ => fun
  | [d1, d2, d3] => { results := [.lit (.bool false)], args := [d1, d2, d3] }
  | _ => none }
def ChainAgesWrongFalsely : Prop := chainAgesRow.holds Try.pinned (OpenSpec.ofChange chainAgesWrong)

/-- 'wellspringlaw16.ChainAlias': WHATEVER THE INPUT: true; the input reads as it did. -/
def chainAliasSpec : ChangeSpec := { name := "chainAlias", fn := fun _ => fun
  | [d1, d2, d3] => { results := [.lit (.bool true)], args := [d1, d2, d3] }
  | _ => none }
def chainAliasRow : OpenClaim := { program := "ytfokaoeinpnagaa", sum := "4fec99d5f7387382586cab2742fd885380aee53381537df2cb97e23593d2579c", func := "wellspring/wellspringlaw16.ChainAlias", spec := "chainAlias", inPlace := ["internal/abi.NoEscape", "internal/bytealg.MakeNoZero"], unfollowed := true, recurses := true, plainKeys := false, apart := false }
def ChainAliasSaid : Prop := chainAliasRow.holds Try.pinned (OpenSpec.ofChange chainAliasSpec)

/-- ITS FALSE NEIGHBOUR: 'it returns false'. Refute it at one input. -/
def chainAliasWrong : ChangeSpec := { name := "chainAlias", fn := fun _ => fun
  | [d1, d2, d3] => { results := [.lit (.bool false)], args := [d1, d2, d3] }
  | _ => none }
def ChainAliasWrongFalsely : Prop := chainAliasRow.holds Try.pinned (OpenSpec.ofChange chainAliasWrong)

/-- 'wellspringlaw16.ChainLinks': WHATEVER THE INPUT: true; the input reads as it did. -/
def chainLinksSpec : ChangeSpec := { name := "chainLinks", fn := fun _ => fun
  | [d1, d2, d3] => { results := [.lit (.bool true)], args := [d1, d2, d3] }
  | _ => none }
def chainLinksRow : OpenClaim := { program := "ytfokaoeinpnagaa", sum := "4fec99d5f7387382586cab2742fd885380aee53381537df2cb97e23593d2579c", func := "wellspring/wellspringlaw16.ChainLinks", spec := "chainLinks", inPlace := ["internal/abi.NoEscape", "internal/bytealg.MakeNoZero"], unfollowed := true, recurses := true, plainKeys := false, apart := false }
def ChainLinksSaid : Prop := chainLinksRow.holds Try.pinned (OpenSpec.ofChange chainLinksSpec)

/-- ITS FALSE NEIGHBOUR: 'it returns false'. Refute it at one input. -/
def chainLinksWrong : ChangeSpec := { name := "chainLinks", fn := fun _ => fun
  | [d1, d2, d3] => { results := [.lit (.bool false)], args := [d1, d2, d3] }
  | _ => none }
def ChainLinksWrongFalsely : Prop := chainLinksRow.holds Try.pinned (OpenSpec.ofChange chainLinksWrong)

/-- 'wellspringlaw22.SeekRoots': WHATEVER THE INPUT: true; the input reads as it did. -/
def seekRootsSpec : ChangeSpec := { name := "seekRoots", fn := fun _ => fun
  | [d1, d2, d3] => { results := [.lit (.bool true)], args := [d1, d2, d3] }
  | _ => none }
def seekRootsRow : OpenClaim := { program := "ytfokaoeinpnagaa", sum := "4fec99d5f7387382586cab2742fd885380aee53381537df2cb97e23593d2579c", func := "wellspring/wellspringlaw22.SeekRoots", spec := "seekRoots", inPlace := ["internal/abi.NoEscape", "internal/bytealg.MakeNoZero"], unfollowed := true, recurses := true, plainKeys := false, apart := false }
def SeekRootsSaid : Prop := seekRootsRow.holds Try.pinned (OpenSpec.ofChange seekRootsSpec)

/-- ITS FALSE NEIGHBOUR: 'it returns false'. Refute it at one input. -/
def seekRootsWrong : ChangeSpec := { name := "seekRoots", fn := fun _ => fun
  | [d1, d2, d3] => { results := [.lit (.bool false)], args := [d1, d2, d3] }
  | _ => none }
def SeekRootsWrongFalsely : Prop := seekRootsRow.holds Try.pinned (OpenSpec.ofChange seekRootsWrong)

/- THE SECOND FORM. 'bulk': how many values and letters a reading holds, each counted each time it is reached (what is shared counts as often as it is met; a slice's spare places count too). A statement '..UptoSaid' is the law's where the arguments, and the package variables that the reading takes, are together of bulk at most 1048576: NARROWER than '..Said'. Prove '..Said' where nothing that the law and all that it calls make is longer than what came in: it says more and counts as full. Else prove '..UptoSaid'. A law counts once. -/
mutual
def uptoBulk {H : Type} : DataW H → Nat
  | .lit (.string bytes) => bytes.length + 1
  | .lit _ => 1
  | .nil => 1
  | .ptr d => uptoBulk d + 1
  | .slice elems spare => uptoBulkAll elems + uptoBulkAll spare + 1
  | .agg parts => uptoBulkAll parts + 1
  | .iface _ d => uptoBulk d + 1
  | .map entries => uptoBulkEntries entries + 1
  | .held _ => 1
def uptoBulkAll {H : Type} : List (DataW H) → Nat
  | [] => 0
  | d :: r => uptoBulk d + uptoBulkAll r
def uptoBulkEntries {H : Type} : List (Lit × DataW H) → Nat
  | [] => 0
  | x :: r => uptoBulkEntry x + uptoBulkEntries r
def uptoBulkEntry {H : Type} : Lit × DataW H → Nat
  | (.string bytes, d) => bytes.length + uptoBulk d + 1
  | (_, d) => uptoBulk d + 1
 end
def uptoSmall : (H : Type) → List (DataW H) → Bool := fun _ ds => decide (uptoBulkAll ds ≤ 1048576)
def OpenSpec.upto (s : _root_.Go.ChangeSpec) : _root_.Go.OpenSpec := { _root_.Go.OpenSpec.ofChange s with cond := some uptoSmall }

/-- 'wellspringlaw16.ChainTells', WHERE WHAT IT READS IS OF BULK AT MOST 1048576: true; the input reads as it did. -/
def chainTellsUptoRow : OpenClaim := { program := "ytfokaoeinpnagaa", sum := "4fec99d5f7387382586cab2742fd885380aee53381537df2cb97e23593d2579c", func := "wellspring/wellspringlaw16.ChainTells", spec := "chainTells", inPlace := ["internal/abi.NoEscape", "internal/bytealg.MakeNoZero"], unfollowed := true, recurses := true, plainKeys := false, apart := false, narrowed := true }
def ChainTellsUptoSaid : Prop := chainTellsUptoRow.holds Try.pinned (OpenSpec.upto chainTellsSpec)

/-- 'wellspringlaw16.ChainAges', WHERE WHAT IT READS IS OF BULK AT MOST 1048576: true; the input reads as it did. -/
def chainAgesUptoRow : OpenClaim := { program := "ytfokaoeinpnagaa", sum := "4fec99d5f7387382586cab2742fd885380aee53381537df2cb97e23593d2579c", func := "wellspring/wellspringlaw16.ChainAges", spec := "chainAges", inPlace := ["internal/abi.NoEscape", "internal/bytealg.MakeNoZero"], unfollowed := true, recurses := true, plainKeys := false, apart := false, narrowed := true }
def ChainAgesUptoSaid : Prop := chainAgesUptoRow.holds Try.pinned (OpenSpec.upto chainAgesSpec)

/-- 'wellspringlaw16.ChainAlias', WHERE WHAT IT READS IS OF BULK AT MOST 1048576: true; the input reads as it did. -/
def chainAliasUptoRow : OpenClaim := { program := "ytfokaoeinpnagaa", sum := "4fec99d5f7387382586cab2742fd885380aee53381537df2cb97e23593d2579c", func := "wellspring/wellspringlaw16.ChainAlias", spec := "chainAlias", inPlace := ["internal/abi.NoEscape", "internal/bytealg.MakeNoZero"], unfollowed := true, recurses := true, plainKeys := false, apart := false, narrowed := true }
def ChainAliasUptoSaid : Prop := chainAliasUptoRow.holds Try.pinned (OpenSpec.upto chainAliasSpec)

/-- 'wellspringlaw16.ChainLinks', WHERE WHAT IT READS IS OF BULK AT MOST 1048576: true; the input reads as it did. -/
def chainLinksUptoRow : OpenClaim := { program := "ytfokaoeinpnagaa", sum := "4fec99d5f7387382586cab2742fd885380aee53381537df2cb97e23593d2579c", func := "wellspring/wellspringlaw16.ChainLinks", spec := "chainLinks", inPlace := ["internal/abi.NoEscape", "internal/bytealg.MakeNoZero"], unfollowed := true, recurses := true, plainKeys := false, apart := false, narrowed := true }
def ChainLinksUptoSaid : Prop := chainLinksUptoRow.holds Try.pinned (OpenSpec.upto chainLinksSpec)

/-- 'wellspringlaw22.SeekRoots', WHERE WHAT IT READS IS OF BULK AT MOST 1048576: true; the input reads as it did. -/
def seekRootsUptoRow : OpenClaim := { program := "ytfokaoeinpnagaa", sum := "4fec99d5f7387382586cab2742fd885380aee53381537df2cb97e23593d2579c", func := "wellspring/wellspringlaw22.SeekRoots", spec := "seekRoots", inPlace := ["internal/abi.NoEscape", "internal/bytealg.MakeNoZero"], unfollowed := true, recurses := true, plainKeys := false, apart := false, narrowed := true }
def SeekRootsUptoSaid : Prop := seekRootsUptoRow.holds Try.pinned (OpenSpec.upto seekRootsSpec)

end Rows
end Go.Proofs.Ytfokaoeinpnagaa
