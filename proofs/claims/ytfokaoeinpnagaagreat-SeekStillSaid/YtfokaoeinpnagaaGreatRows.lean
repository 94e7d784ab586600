/-
  No cell of these rows narrows 'for every input' (looked for: loops, veiled, ifaces, maps, wideKeys, modest, calm, conditions, laid).
  DERIVED. THE GIVEN ROWS OF THIS SEAT. 7 by the template 'for every input the law returns true; each argument reads behind the call as it read before'; 0 by the template 'total and deterministic' (their statements: YtfokaoeinpnagaaGreatTotals.lean).
  GIVEN WITH THE SEED: the statements are not yours to turn. If you find one false, say at which input.
  Laid BY PROGRAM, IN A SANDBOX (cutbox-rows.mjs): the forced cells as the released guide's own fill.sh prints them over the translation f59ad135de0a2eac… (all of the seat's roots in one cut). By AI agents, Wed Nov 11 2026. No macro, syntax, notation, axiom, sorry.
-/
import Derived.Test.YtfokaoeinpnagaaGreatChecked
import GoSem.Claim
import GoSem.ClaimJoined
import GoSem.ClaimMapViews
import Derived.JoinedTies
import Derived.KernelRfl
namespace Go.Proofs.YtfokaoeinpnagaaGreat
/- THE CELL 'sum', in the pinned program and in every row, IS THE sha256 OF THE DUMP (.gsa) THAT YtfokaoeinpnagaaGreatProg.lean LOADS. Nothing in Lean hashes anything: it is a label: what it is worth is what the hold of that sum in a sandbox is worth. -/
noncomputable def Tryz.pinned : Pinned := { name := "ytfokaoeinpnagaagreat", sum := "f59ad135de0a2eac4a77b28094ef3e3b21dd79d2ecd2dec395bb07e0b1345b8b", checked := Tryz.checked }
namespace Rows
def none {H : Type} : Left H := { results := [], args := [] }

/-- 'wellspringlaw16.ChainFollows': WHATEVER THE INPUT: true; the input reads as it did. -/
def chainFollowsSpec : ChangeSpec := { name := "chainFollows", fn := fun _ => fun
  | [d1, d2, d3] => { results := [.lit (.bool true)], args := [d1, d2, d3] }
  | _ => none }
def chainFollowsRow : OpenClaim := { program := "ytfokaoeinpnagaagreat", sum := "f59ad135de0a2eac4a77b28094ef3e3b21dd79d2ecd2dec395bb07e0b1345b8b", func := "wellspring/wellspringlaw16.ChainFollows", spec := "chainFollows", inPlace := ["internal/abi.NoEscape", "internal/bytealg.MakeNoZero"], unfollowed := true, recurses := true, plainKeys := false, apart := false }
def ChainFollowsSaid : Prop := chainFollowsRow.holds Tryz.pinned (OpenSpec.ofChange chainFollowsSpec)

/-- ITS FALSE NEIGHBOUR: 'it returns false'. Refute it at one input. -/
def chainFollowsWrong : ChangeSpec := { name := "chainFollows", fn := fun _ => fun
  | [d1, d2, d3] => { results := [.lit (.bool false)], args := [d1, d2, d3] }
  | _ => none }
def ChainFollowsWrongFalsely : Prop := chainFollowsRow.holds Tryz.pinned (OpenSpec.ofChange chainFollowsWrong)

/-- 'wellspringlaw22.SeekNext': WHATEVER THE INPUT: true; the input reads as it did. -/
def seekNextSpec : ChangeSpec := { name := "seekNext", fn := fun _ => fun
  | [d1, d2, d3] => { results := [.lit (.bool true)], args := [d1, d2, d3] }
  | _ => none }
def seekNextRow : OpenClaim := { program := "ytfokaoeinpnagaagreat", sum := "f59ad135de0a2eac4a77b28094ef3e3b21dd79d2ecd2dec395bb07e0b1345b8b", func := "wellspring/wellspringlaw22.SeekNext", spec := "seekNext", inPlace := ["internal/abi.NoEscape", "internal/bytealg.MakeNoZero"], unfollowed := true, recurses := true, plainKeys := false, apart := false }
def SeekNextSaid : Prop := seekNextRow.holds Tryz.pinned (OpenSpec.ofChange seekNextSpec)

/-- ITS FALSE NEIGHBOUR: 'it returns false'. Refute it at one input. -/
def seekNextWrong : ChangeSpec := { name := "seekNext", fn := fun _ => fun
  | [d1, d2, d3] => { results := [.lit (.bool false)], args := [d1, d2, d3] }
  | _ => none }
def SeekNextWrongFalsely : Prop := seekNextRow.holds Tryz.pinned (OpenSpec.ofChange seekNextWrong)

/-- 'wellspringlaw22.SeekCuts': WHATEVER THE INPUT: true; the input reads as it did. -/
def seekCutsSpec : ChangeSpec := { name := "seekCuts", fn := fun _ => fun
  | [d1, d2] => { results := [.lit (.bool true)], args := [d1, d2] }
  | _ => none }
def seekCutsRow : OpenClaim := { program := "ytfokaoeinpnagaagreat", sum := "f59ad135de0a2eac4a77b28094ef3e3b21dd79d2ecd2dec395bb07e0b1345b8b", func := "wellspring/wellspringlaw22.SeekCuts", spec := "seekCuts", inPlace := ["internal/abi.NoEscape", "internal/bytealg.MakeNoZero"], unfollowed := true, recurses := true, plainKeys := false, apart := false }
def SeekCutsSaid : Prop := seekCutsRow.holds Tryz.pinned (OpenSpec.ofChange seekCutsSpec)

/-- ITS FALSE NEIGHBOUR: 'it returns false'. Refute it at one input. -/
def seekCutsWrong : ChangeSpec := { name := "seekCuts", fn := fun _ => fun
  | [d1, d2] => { results := [.lit (.bool false)], args := [d1, d2] }
  | _ => none }
def SeekCutsWrongFalsely : Prop := seekCutsRow.holds Tryz.pinned (OpenSpec.ofChange seekCutsWrong)

/-- 'wellspringlaw22.SeekSends': WHATEVER THE INPUT: true; the input reads as it did. -/
def seekSendsSpec : ChangeSpec := { name := "seekSends", fn := fun _ => fun
  | [d1, d2] => { results := [.lit (.bool true)], args := [d1, d2] }
  | _ => none }
def seekSendsRow : OpenClaim := { program := "ytfokaoeinpnagaagreat", sum := "f59ad135de0a2eac4a77b28094ef3e3b21dd79d2ecd2dec395bb07e0b1345b8b", func := "wellspring/wellspringlaw22.SeekSends", spec := "seekSends", inPlace := ["internal/abi.NoEscape", "internal/bytealg.MakeNoZero"], unfollowed := true, recurses := true, plainKeys := false, apart := false }
def SeekSendsSaid : Prop := seekSendsRow.holds Tryz.pinned (OpenSpec.ofChange seekSendsSpec)

/-- ITS FALSE NEIGHBOUR: 'it returns false'. Refute it at one input. -/
def seekSendsWrong : ChangeSpec := { name := "seekSends", fn := fun _ => fun
  | [d1, d2] => { results := [.lit (.bool false)], args := [d1, d2] }
  | _ => none }
def SeekSendsWrongFalsely : Prop := seekSendsRow.holds Tryz.pinned (OpenSpec.ofChange seekSendsWrong)

/-- 'wellspringlaw22.SeekDone': WHATEVER THE INPUT: true; the input reads as it did. -/
def seekDoneSpec : ChangeSpec := { name := "seekDone", fn := fun _ => fun
  | [d1, d2] => { results := [.lit (.bool true)], args := [d1, d2] }
  | _ => none }
def seekDoneRow : OpenClaim := { program := "ytfokaoeinpnagaagreat", sum := "f59ad135de0a2eac4a77b28094ef3e3b21dd79d2ecd2dec395bb07e0b1345b8b", func := "wellspring/wellspringlaw22.SeekDone", spec := "seekDone", inPlace := ["internal/abi.NoEscape", "internal/bytealg.MakeNoZero"], unfollowed := true, recurses := true, plainKeys := false, apart := false }
def SeekDoneSaid : Prop := seekDoneRow.holds Tryz.pinned (OpenSpec.ofChange seekDoneSpec)

/-- ITS FALSE NEIGHBOUR: 'it returns false'. Refute it at one input. -/
def seekDoneWrong : ChangeSpec := { name := "seekDone", fn := fun _ => fun
  | [d1, d2] => { results := [.lit (.bool false)], args := [d1, d2] }
  | _ => none }
def SeekDoneWrongFalsely : Prop := seekDoneRow.holds Tryz.pinned (OpenSpec.ofChange seekDoneWrong)

/-- 'wellspringlaw22.SeekZones': WHATEVER THE INPUT: true; the input reads as it did. -/
def seekZonesSpec : ChangeSpec := { name := "seekZones", fn := fun _ => fun
  | [d1, d2] => { results := [.lit (.bool true)], args := [d1, d2] }
  | _ => none }
def seekZonesRow : OpenClaim := { program := "ytfokaoeinpnagaagreat", sum := "f59ad135de0a2eac4a77b28094ef3e3b21dd79d2ecd2dec395bb07e0b1345b8b", func := "wellspring/wellspringlaw22.SeekZones", spec := "seekZones", inPlace := ["internal/abi.NoEscape", "internal/bytealg.MakeNoZero"], unfollowed := true, recurses := true, plainKeys := false, apart := false }
def SeekZonesSaid : Prop := seekZonesRow.holds Tryz.pinned (OpenSpec.ofChange seekZonesSpec)

/-- ITS FALSE NEIGHBOUR: 'it returns false'. Refute it at one input. -/
def seekZonesWrong : ChangeSpec := { name := "seekZones", fn := fun _ => fun
  | [d1, d2] => { results := [.lit (.bool false)], args := [d1, d2] }
  | _ => none }
def SeekZonesWrongFalsely : Prop := seekZonesRow.holds Tryz.pinned (OpenSpec.ofChange seekZonesWrong)

/-- 'wellspringlaw22.SeekStill': WHATEVER THE INPUT: true; the input reads as it did. -/
def seekStillSpec : ChangeSpec := { name := "seekStill", fn := fun _ => fun
  | [d1, d2] => { results := [.lit (.bool true)], args := [d1, d2] }
  | _ => none }
def seekStillRow : OpenClaim := { program := "ytfokaoeinpnagaagreat", sum := "f59ad135de0a2eac4a77b28094ef3e3b21dd79d2ecd2dec395bb07e0b1345b8b", func := "wellspring/wellspringlaw22.SeekStill", spec := "seekStill", inPlace := ["internal/abi.NoEscape", "internal/bytealg.MakeNoZero"], unfollowed := true, recurses := true, plainKeys := false, apart := false }
def SeekStillSaid : Prop := seekStillRow.holds Tryz.pinned (OpenSpec.ofChange seekStillSpec)

/-- ITS FALSE NEIGHBOUR: 'it returns false'. Refute it at one input. -/
def seekStillWrong : ChangeSpec := { name := "seekStill", fn := fun _ => fun
  | [d1, d2] => { results := [.lit (.bool false)], args := [d1, d2] }
  | _ => none }
def SeekStillWrongFalsely : Prop := seekStillRow.holds Tryz.pinned (OpenSpec.ofChange seekStillWrong)

/- THE SECOND FORM. 'bulk': how many values and letters a reading holds, each counted each time it is reached (what is shared counts as often as it is met; a slice's spare places count too). A statement '..UptoSaid' is the law's where the arguments, and the package variables that the reading takes, are together of bulk at most 1048576: NARROWER than '..Said'. Prove '..Said' where nothing that the law and all that it calls make is longer than what came in: it says more and counts as full. Else prove '..UptoSaid'. A law counts once. -/
mutual
def uptoBulk {H : Type} : DataW H → Nat
  | .lit (.string bytes) => bytes.length + 1
  | .lit _ => 1
  | .nil => 1
  | .ptr d => uptoBulk d + 1
  | .slice elems spare => uptoBulkAll elems + uptoBulkAll spare + 1
  | .agg parts => uptoBulkAll parts + 1
  | .iface _ d => uptoBulk d + 1
  | .map entries => uptoBulkEntries entries + 1
  | .held _ => 1
def uptoBulkAll {H : Type} : List (DataW H) → Nat
  | [] => 0
  | d :: r => uptoBulk d + uptoBulkAll r
def uptoBulkEntries {H : Type} : List (Lit × DataW H) → Nat
  | [] => 0
  | x :: r => uptoBulkEntry x + uptoBulkEntries r
def uptoBulkEntry {H : Type} : Lit × DataW H → Nat
  | (.string bytes, d) => bytes.length + uptoBulk d + 1
  | (_, d) => uptoBulk d + 1
 end
def uptoSmall : (H : Type) → List (DataW H) → Bool := fun _ ds => decide (uptoBulkAll ds ≤ 1048576)
def OpenSpec.upto (s : _root_.Go.ChangeSpec) : _root_.Go.OpenSpec := { _root_.Go.OpenSpec.ofChange s with cond := some uptoSmall }

/-- 'wellspringlaw16.ChainFollows', WHERE WHAT IT READS IS OF BULK AT MOST 1048576: true; the input reads as it did. -/
def chainFollowsUptoRow : OpenClaim := { program := "ytfokaoeinpnagaagreat", sum := "f59ad135de0a2eac4a77b28094ef3e3b21dd79d2ecd2dec395bb07e0b1345b8b", func := "wellspring/wellspringlaw16.ChainFollows", spec := "chainFollows", inPlace := ["internal/abi.NoEscape", "internal/bytealg.MakeNoZero"], unfollowed := true, recurses := true, plainKeys := false, apart := false, narrowed := true }
def ChainFollowsUptoSaid : Prop := chainFollowsUptoRow.holds Tryz.pinned (OpenSpec.upto chainFollowsSpec)

/-- 'wellspringlaw22.SeekNext', WHERE WHAT IT READS IS OF BULK AT MOST 1048576: true; the input reads as it did. -/
def seekNextUptoRow : OpenClaim := { program := "ytfokaoeinpnagaagreat", sum := "f59ad135de0a2eac4a77b28094ef3e3b21dd79d2ecd2dec395bb07e0b1345b8b", func := "wellspring/wellspringlaw22.SeekNext", spec := "seekNext", inPlace := ["internal/abi.NoEscape", "internal/bytealg.MakeNoZero"], unfollowed := true, recurses := true, plainKeys := false, apart := false, narrowed := true }
def SeekNextUptoSaid : Prop := seekNextUptoRow.holds Tryz.pinned (OpenSpec.upto seekNextSpec)

/-- 'wellspringlaw22.SeekCuts', WHERE WHAT IT READS IS OF BULK AT MOST 1048576: true; the input reads as it did. -/
def seekCutsUptoRow : OpenClaim := { program := "ytfokaoeinpnagaagreat", sum := "f59ad135de0a2eac4a77b28094ef3e3b21dd79d2ecd2dec395bb07e0b1345b8b", func := "wellspring/wellspringlaw22.SeekCuts", spec := "seekCuts", inPlace := ["internal/abi.NoEscape", "internal/bytealg.MakeNoZero"], unfollowed := true, recurses := true, plainKeys := false, apart := false, narrowed := true }
def SeekCutsUptoSaid : Prop := seekCutsUptoRow.holds Tryz.pinned (OpenSpec.upto seekCutsSpec)

/-- 'wellspringlaw22.SeekSends', WHERE WHAT IT READS IS OF BULK AT MOST 1048576: true; the input reads as it did. -/
def seekSendsUptoRow : OpenClaim := { program := "ytfokaoeinpnagaagreat", sum := "f59ad135de0a2eac4a77b28094ef3e3b21dd79d2ecd2dec395bb07e0b1345b8b", func := "wellspring/wellspringlaw22.SeekSends", spec := "seekSends", inPlace := ["internal/abi.NoEscape", "internal/bytealg.MakeNoZero"], unfollowed := true, recurses := true, plainKeys := false, apart := false, narrowed := true }
def SeekSendsUptoSaid : Prop := seekSendsUptoRow.holds Tryz.pinned (OpenSpec.upto seekSendsSpec)

/-- 'wellspringlaw22.SeekDone', WHERE WHAT IT READS IS OF BULK AT MOST 1048576: true; the input reads as it did. -/
def seekDoneUptoRow : OpenClaim := { program := "ytfokaoeinpnagaagreat", sum := "f59ad135de0a2eac4a77b28094ef3e3b21dd79d2ecd2dec395bb07e0b1345b8b", func := "wellspring/wellspringlaw22.SeekDone", spec := "seekDone", inPlace := ["internal/abi.NoEscape", "internal/bytealg.MakeNoZero"], unfollowed := true, recurses := true, plainKeys := false, apart := false, narrowed := true }
def SeekDoneUptoSaid : Prop := seekDoneUptoRow.holds Tryz.pinned (OpenSpec.upto seekDoneSpec)

/-- 'wellspringlaw22.SeekZones', WHERE WHAT IT READS IS OF BULK AT MOST 1048576: true; the input reads as it did. -/
def seekZonesUptoRow : OpenClaim := { program := "ytfokaoeinpnagaagreat", sum := "f59ad135de0a2eac4a77b28094ef3e3b21dd79d2ecd2dec395bb07e0b1345b8b", func := "wellspring/wellspringlaw22.SeekZones", spec := "seekZones", inPlace := ["internal/abi.NoEscape", "internal/bytealg.MakeNoZero"], unfollowed := true, recurses := true, plainKeys := false, apart := false, narrowed := true }
def SeekZonesUptoSaid : Prop := seekZonesUptoRow.holds Tryz.pinned (OpenSpec.upto seekZonesSpec)

/-- 'wellspringlaw22.SeekStill', WHERE WHAT IT READS IS OF BULK AT MOST 1048576: true; the input reads as it did. -/
def seekStillUptoRow : OpenClaim := { program := "ytfokaoeinpnagaagreat", sum := "f59ad135de0a2eac4a77b28094ef3e3b21dd79d2ecd2dec395bb07e0b1345b8b", func := "wellspring/wellspringlaw22.SeekStill", spec := "seekStill", inPlace := ["internal/abi.NoEscape", "internal/bytealg.MakeNoZero"], unfollowed := true, recurses := true, plainKeys := false, apart := false, narrowed := true }
def SeekStillUptoSaid : Prop := seekStillUptoRow.holds Tryz.pinned (OpenSpec.upto seekStillSpec)

end Rows
end Go.Proofs.YtfokaoeinpnagaaGreat
