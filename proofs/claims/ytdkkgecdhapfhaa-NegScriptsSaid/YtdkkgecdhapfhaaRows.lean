/-
  No cell of these rows narrows 'for every input' (looked for: loops, veiled, ifaces, maps, wideKeys, modest, calm, conditions, laid).
  DERIVED. THE GIVEN ROWS OF THIS SEAT. 11 by the template 'for every input the law returns true; each argument reads behind the call as it read before'; 0 by the template 'total and deterministic' (their statements: YtdkkgecdhapfhaaTotals.lean).
  GIVEN WITH THE SEED: the statements are not yours to turn. If you find one false, say at which input.
  Laid BY PROGRAM, IN A SANDBOX (cutbox-rows.mjs): the forced cells as the released guide's own fill.sh prints them over the translation 97751d4804da7911… (all of the seat's roots in one cut). By AI agents, Wed Nov 11 2026. No macro, syntax, notation, axiom, sorry.
-/
import Derived.Test.YtdkkgecdhapfhaaChecked
import GoSem.Claim
import GoSem.ClaimJoined
import GoSem.ClaimMapViews
import Derived.JoinedTies
import Derived.KernelRfl
namespace Go.Proofs.Ytdkkgecdhapfhaa
/- THE CELL 'sum', in the pinned program and in every row, IS THE sha256 OF THE DUMP (.gsa) THAT YtdkkgecdhapfhaaProg.lean LOADS. Nothing in Lean hashes anything: it is a label: what it is worth is what the hold of that sum in a sandbox is worth. -/
noncomputable def Try.pinned : Pinned := { name := "ytdkkgecdhapfhaa", sum := "97751d4804da7911b9e2e87b4355a40e012fb0ef4289f385d4a91220968b62f7", checked := Try.checked }
namespace Rows
def none {H : Type} : Left H := { results := [], args := [] }

/-- 'wellspringlaw14.StoreScripts': WHATEVER THE INPUT: true; the input reads as it did. -/
def storeScriptsSpec : ChangeSpec := { name := "storeScripts", fn := fun _ => fun
  | [d1, d2] => { results := [.lit (.bool true)], args := [d1, d2] }
  | _ => none }
def storeScriptsRow : OpenClaim := { program := "ytdkkgecdhapfhaa", sum := "97751d4804da7911b9e2e87b4355a40e012fb0ef4289f385d4a91220968b62f7", func := "wellspring/wellspringlaw14.StoreScripts", spec := "storeScripts", inPlace := ["internal/abi.NoEscape", "internal/bytealg.MakeNoZero"], unfollowed := true, recurses := true, plainKeys := false, apart := false }
def StoreScriptsSaid : Prop := storeScriptsRow.holds Try.pinned (OpenSpec.ofChange storeScriptsSpec)

/-- ITS FALSE NEIGHBOUR: 'it returns false'. Refute it at one input. -/
def storeScriptsWrong : ChangeSpec := { name := "storeScripts", fn := fun _ => fun
  | [d1, d2] => { results := [.lit (.bool false)], args := [d1, d2] }
  | _ => none }
def StoreScriptsWrongFalsely : Prop := storeScriptsRow.holds Try.pinned (OpenSpec.ofChange storeScriptsWrong)

/-- 'wellspringlaw14.StoreBounds': WHATEVER THE INPUT: true; the input reads as it did. -/
def storeBoundsSpec : ChangeSpec := { name := "storeBounds", fn := fun _ => fun
  | [d1, d2] => { results := [.lit (.bool true)], args := [d1, d2] }
  | _ => none }
def storeBoundsRow : OpenClaim := { program := "ytdkkgecdhapfhaa", sum := "97751d4804da7911b9e2e87b4355a40e012fb0ef4289f385d4a91220968b62f7", func := "wellspring/wellspringlaw14.StoreBounds", spec := "storeBounds", inPlace := ["internal/abi.NoEscape", "internal/bytealg.MakeNoZero"], unfollowed := true, recurses := true, plainKeys := false, apart := false }
def StoreBoundsSaid : Prop := storeBoundsRow.holds Try.pinned (OpenSpec.ofChange storeBoundsSpec)

/-- ITS FALSE NEIGHBOUR: 'it returns false'. Refute it at one input. -/
def storeBoundsWrong : ChangeSpec := { name := "storeBounds", fn := fun _ => fun
  | [d1, d2] => { results := [.lit (.bool false)], args := [d1, d2] }
  | _ => none }
def StoreBoundsWrongFalsely : Prop := storeBoundsRow.holds Try.pinned (OpenSpec.ofChange storeBoundsWrong)

/-- 'wellspringlaw14.StoreRanks': WHATEVER THE INPUT: true; the input reads as it did. -/
def storeRanksSpec : ChangeSpec := { name := "storeRanks", fn := fun _ => fun
  | [d1, d2] => { results := [.lit (.bool true)], args := [d1, d2] }
  | _ => none }
def storeRanksRow : OpenClaim := { program := "ytdkkgecdhapfhaa", sum := "97751d4804da7911b9e2e87b4355a40e012fb0ef4289f385d4a91220968b62f7", func := "wellspring/wellspringlaw14.StoreRanks", spec := "storeRanks", inPlace := ["internal/abi.NoEscape", "internal/bytealg.MakeNoZero"], unfollowed := true, recurses := true, plainKeys := false, apart := false }
def StoreRanksSaid : Prop := storeRanksRow.holds Try.pinned (OpenSpec.ofChange storeRanksSpec)

/-- ITS FALSE NEIGHBOUR: 'it returns false'. Refute it at one input. -/
def storeRanksWrong : ChangeSpec := { name := "storeRanks", fn := fun _ => fun
  | [d1, d2] => { results := [.lit (.bool false)], args := [d1, d2] }
  | _ => none }
def StoreRanksWrongFalsely : Prop := storeRanksRow.holds Try.pinned (OpenSpec.ofChange storeRanksWrong)

/-- 'wellspringlaw14.StoreNil': WHATEVER THE INPUT: true; the input reads as it did. -/
def storeNilSpec : ChangeSpec := { name := "storeNil", fn := fun _ => fun
  | [d] => { results := [.lit (.bool true)], args := [d] }
  | _ => none }
def storeNilRow : OpenClaim := { program := "ytdkkgecdhapfhaa", sum := "97751d4804da7911b9e2e87b4355a40e012fb0ef4289f385d4a91220968b62f7", func := "wellspring/wellspringlaw14.StoreNil", spec := "storeNil", inPlace := ["internal/abi.NoEscape", "internal/bytealg.MakeNoZero"], unfollowed := true, recurses := true, plainKeys := false, apart := false }
def StoreNilSaid : Prop := storeNilRow.holds Try.pinned (OpenSpec.ofChange storeNilSpec)

/-- ITS FALSE NEIGHBOUR: 'it returns false'. Refute it at one input. -/
def storeNilWrong : ChangeSpec := { name := "storeNil", fn := fun _ => fun
  | [d] => { results := [.lit (.bool false)], args := [d] }
  | _ => none }
def StoreNilWrongFalsely : Prop := storeNilRow.holds Try.pinned (OpenSpec.ofChange storeNilWrong)

/-- 'wellspringlaw14.StoreOld': WHATEVER THE INPUT: true; the input reads as it did. -/
def storeOldSpec : ChangeSpec := { name := "storeOld", fn := fun _ => fun
  | [d1, d2, d3] => { results := [.lit (.bool true)], args := [d1, d2, d3] }
  | _ => none }
def storeOldRow : OpenClaim := { program := "ytdkkgecdhapfhaa", sum := "97751d4804da7911b9e2e87b4355a40e012fb0ef4289f385d4a91220968b62f7", func := "wellspring/wellspringlaw14.StoreOld", spec := "storeOld", inPlace := ["internal/abi.NoEscape", "internal/bytealg.MakeNoZero"], unfollowed := true, recurses := true, plainKeys := false, apart := false }
def StoreOldSaid : Prop := storeOldRow.holds Try.pinned (OpenSpec.ofChange storeOldSpec)

/-- ITS FALSE NEIGHBOUR: 'it returns false'. Refute it at one input. -/
def storeOldWrong : ChangeSpec := { name := "storeOld", fn := fun _ => fun
  | [d1, d2, d3] => { results := [.lit (.bool false)], args := [d1, d2, d3] }
  | _ => none }
def StoreOldWrongFalsely : Prop := storeOldRow.holds Try.pinned (OpenSpec.ofChange storeOldWrong)

/-- 'wellspringlaw14.StoreUsed': WHATEVER THE INPUT: true; the input reads as it did. -/
def storeUsedSpec : ChangeSpec := { name := "storeUsed", fn := fun _ => fun
  | [d1, d2] => { results := [.lit (.bool true)], args := [d1, d2] }
  | _ => none }
def storeUsedRow : OpenClaim := { program := "ytdkkgecdhapfhaa", sum := "97751d4804da7911b9e2e87b4355a40e012fb0ef4289f385d4a91220968b62f7", func := "wellspring/wellspringlaw14.StoreUsed", spec := "storeUsed", inPlace := ["internal/abi.NoEscape", "internal/bytealg.MakeNoZero"], unfollowed := true, recurses := true, plainKeys := false, apart := false }
def StoreUsedSaid : Prop := storeUsedRow.holds Try.pinned (OpenSpec.ofChange storeUsedSpec)

/-- ITS FALSE NEIGHBOUR: 'it returns false'. Refute it at one input. -/
def storeUsedWrong : ChangeSpec := { name := "storeUsed", fn := fun _ => fun
  | [d1, d2] => { results := [.lit (.bool false)], args := [d1, d2] }
  | _ => none }
def StoreUsedWrongFalsely : Prop := storeUsedRow.holds Try.pinned (OpenSpec.ofChange storeUsedWrong)

/-- 'wellspringlaw15.NegScripts': WHATEVER THE INPUT: true; the input reads as it did. -/
def negScriptsSpec : ChangeSpec := { name := "negScripts", fn := fun _ => fun
  | [d1, d2] => { results := [.lit (.bool true)], args := [d1, d2] }
  | _ => none }
def negScriptsRow : OpenClaim := { program := "ytdkkgecdhapfhaa", sum := "97751d4804da7911b9e2e87b4355a40e012fb0ef4289f385d4a91220968b62f7", func := "wellspring/wellspringlaw15.NegScripts", spec := "negScripts", inPlace := ["internal/abi.NoEscape", "internal/bytealg.MakeNoZero", "maps.clone"], unfollowed := true, recurses := true, plainKeys := false, apart := false }
def NegScriptsSaid : Prop := negScriptsRow.holds Try.pinned (OpenSpec.ofChange negScriptsSpec)

/-- ITS FALSE NEIGHBOUR: 'it returns false'. Refute it at one input. -/
def negScriptsWrong : ChangeSpec := { name := "negScripts", fn := fun _ => fun
  | [d1, d2] => { results := [.lit (.bool false)], args := [d1, d2] }
  | _ => none }
def NegScriptsWrongFalsely : Prop := negScriptsRow.holds Try.pinned (OpenSpec.ofChange negScriptsWrong)

/-- 'wellspringlaw15.NegCovers': WHATEVER THE INPUT: true; the input reads as it did. -/
def negCoversSpec : ChangeSpec := { name := "negCovers", fn := fun _ => fun
  | [d1, d2, d3] => { results := [.lit (.bool true)], args := [d1, d2, d3] }
  | _ => none }
def negCoversRow : OpenClaim := { program := "ytdkkgecdhapfhaa", sum := "97751d4804da7911b9e2e87b4355a40e012fb0ef4289f385d4a91220968b62f7", func := "wellspring/wellspringlaw15.NegCovers", spec := "negCovers", inPlace := ["internal/abi.NoEscape", "internal/bytealg.MakeNoZero", "maps.clone"], unfollowed := true, recurses := true, plainKeys := false, apart := false }
def NegCoversSaid : Prop := negCoversRow.holds Try.pinned (OpenSpec.ofChange negCoversSpec)

/-- ITS FALSE NEIGHBOUR: 'it returns false'. Refute it at one input. -/
def negCoversWrong : ChangeSpec := { name := "negCovers", fn := fun _ => fun
  | [d1, d2, d3] => { results := [.lit (.bool false)], args := [d1, d2, d3] }
  | _ => none }
def NegCoversWrongFalsely : Prop := negCoversRow.holds Try.pinned (OpenSpec.ofChange negCoversWrong)

/-- 'wellspringlaw15.NegNil': WHATEVER THE INPUT: true; the input reads as it did. -/
def negNilSpec : ChangeSpec := { name := "negNil", fn := fun _ => fun
  | [d] => { results := [.lit (.bool true)], args := [d] }
  | _ => none }
def negNilRow : OpenClaim := { program := "ytdkkgecdhapfhaa", sum := "97751d4804da7911b9e2e87b4355a40e012fb0ef4289f385d4a91220968b62f7", func := "wellspring/wellspringlaw15.NegNil", spec := "negNil", inPlace := ["internal/abi.NoEscape", "internal/bytealg.MakeNoZero", "maps.clone"], unfollowed := true, recurses := true, plainKeys := false, apart := false }
def NegNilSaid : Prop := negNilRow.holds Try.pinned (OpenSpec.ofChange negNilSpec)

/-- ITS FALSE NEIGHBOUR: 'it returns false'. Refute it at one input. -/
def negNilWrong : ChangeSpec := { name := "negNil", fn := fun _ => fun
  | [d] => { results := [.lit (.bool false)], args := [d] }
  | _ => none }
def NegNilWrongFalsely : Prop := negNilRow.holds Try.pinned (OpenSpec.ofChange negNilWrong)

/-- 'wellspringlaw15.NegOld': WHATEVER THE INPUT: true; the input reads as it did. -/
def negOldSpec : ChangeSpec := { name := "negOld", fn := fun _ => fun
  | [d1, d2, d3] => { results := [.lit (.bool true)], args := [d1, d2, d3] }
  | _ => none }
def negOldRow : OpenClaim := { program := "ytdkkgecdhapfhaa", sum := "97751d4804da7911b9e2e87b4355a40e012fb0ef4289f385d4a91220968b62f7", func := "wellspring/wellspringlaw15.NegOld", spec := "negOld", inPlace := ["internal/abi.NoEscape", "internal/bytealg.MakeNoZero", "maps.clone"], unfollowed := true, recurses := true, plainKeys := false, apart := false }
def NegOldSaid : Prop := negOldRow.holds Try.pinned (OpenSpec.ofChange negOldSpec)

/-- ITS FALSE NEIGHBOUR: 'it returns false'. Refute it at one input. -/
def negOldWrong : ChangeSpec := { name := "negOld", fn := fun _ => fun
  | [d1, d2, d3] => { results := [.lit (.bool false)], args := [d1, d2, d3] }
  | _ => none }
def NegOldWrongFalsely : Prop := negOldRow.holds Try.pinned (OpenSpec.ofChange negOldWrong)

/-- 'wellspringlaw15.NegDrops': WHATEVER THE INPUT: true; the input reads as it did. -/
def negDropsSpec : ChangeSpec := { name := "negDrops", fn := fun _ => fun
  | [d1, d2, d3] => { results := [.lit (.bool true)], args := [d1, d2, d3] }
  | _ => none }
def negDropsRow : OpenClaim := { program := "ytdkkgecdhapfhaa", sum := "97751d4804da7911b9e2e87b4355a40e012fb0ef4289f385d4a91220968b62f7", func := "wellspring/wellspringlaw15.NegDrops", spec := "negDrops", inPlace := ["internal/abi.NoEscape", "internal/bytealg.MakeNoZero", "maps.clone"], unfollowed := true, recurses := true, plainKeys := false, apart := false }
def NegDropsSaid : Prop := negDropsRow.holds Try.pinned (OpenSpec.ofChange negDropsSpec)

/-- ITS FALSE NEIGHBOUR: 'it returns false'. Refute it at one input. -/
def negDropsWrong : ChangeSpec := { name := "negDrops", fn := fun _ => fun
  | [d1, d2, d3] => { results := [.lit (.bool false)], args := [d1, d2, d3] }
  | _ => none }
def NegDropsWrongFalsely : Prop := negDropsRow.holds Try.pinned (OpenSpec.ofChange negDropsWrong)

/- THE SECOND FORM. 'bulk': how many values and letters a reading holds, each counted each time it is reached (what is shared counts as often as it is met; a slice's spare places count too). A statement '..UptoSaid' is the law's where the arguments, and the package variables that the reading takes, are together of bulk at most 1048576: NARROWER than '..Said'. Prove '..Said' where nothing that the law and all that it calls make is longer than what came in: it says more and counts as full. Else prove '..UptoSaid'. A law counts once. -/
mutual
def uptoBulk {H : Type} : DataW H → Nat
  | .lit (.string bytes) => bytes.length + 1
  | .lit _ => 1
  | .nil => 1
  | .ptr d => uptoBulk d + 1
  | .slice elems spare => uptoBulkAll elems + uptoBulkAll spare + 1
  | .agg parts => uptoBulkAll parts + 1
  | .iface _ d => uptoBulk d + 1
  | .map entries => uptoBulkEntries entries + 1
  | .held _ => 1
def uptoBulkAll {H : Type} : List (DataW H) → Nat
  | [] => 0
  | d :: r => uptoBulk d + uptoBulkAll r
def uptoBulkEntries {H : Type} : List (Lit × DataW H) → Nat
  | [] => 0
  | x :: r => uptoBulkEntry x + uptoBulkEntries r
def uptoBulkEntry {H : Type} : Lit × DataW H → Nat
  | (.string bytes, d) => bytes.length + uptoBulk d + 1
  | (_, d) => uptoBulk d + 1
 end
def uptoSmall : (H : Type) → List (DataW H) → Bool := fun _ ds => decide (uptoBulkAll ds ≤ 1048576)
def OpenSpec.upto (s : _root_.Go.ChangeSpec) : _root_.Go.OpenSpec := { _root_.Go.OpenSpec.ofChange s with cond := some uptoSmall }

/-- 'wellspringlaw14.StoreScripts', WHERE WHAT IT READS IS OF BULK AT MOST 1048576: true; the input reads as it did. -/
def storeScriptsUptoRow : OpenClaim := { program := "ytdkkgecdhapfhaa", sum := "97751d4804da7911b9e2e87b4355a40e012fb0ef4289f385d4a91220968b62f7", func := "wellspring/wellspringlaw14.StoreScripts", spec := "storeScripts", inPlace := ["internal/abi.NoEscape", "internal/bytealg.MakeNoZero"], unfollowed := true, recurses := true, plainKeys := false, apart := false, narrowed := true }
def StoreScriptsUptoSaid : Prop := storeScriptsUptoRow.holds Try.pinned (OpenSpec.upto storeScriptsSpec)

/-- 'wellspringlaw14.StoreBounds', WHERE WHAT IT READS IS OF BULK AT MOST 1048576: true; the input reads as it did. -/
def storeBoundsUptoRow : OpenClaim := { program := "ytdkkgecdhapfhaa", sum := "97751d4804da7911b9e2e87b4355a40e012fb0ef4289f385d4a91220968b62f7", func := "wellspring/wellspringlaw14.StoreBounds", spec := "storeBounds", inPlace := ["internal/abi.NoEscape", "internal/bytealg.MakeNoZero"], unfollowed := true, recurses := true, plainKeys := false, apart := false, narrowed := true }
def StoreBoundsUptoSaid : Prop := storeBoundsUptoRow.holds Try.pinned (OpenSpec.upto storeBoundsSpec)

/-- 'wellspringlaw14.StoreRanks', WHERE WHAT IT READS IS OF BULK AT MOST 1048576: true; the input reads as it did. -/
def storeRanksUptoRow : OpenClaim := { program := "ytdkkgecdhapfhaa", sum := "97751d4804da7911b9e2e87b4355a40e012fb0ef4289f385d4a91220968b62f7", func := "wellspring/wellspringlaw14.StoreRanks", spec := "storeRanks", inPlace := ["internal/abi.NoEscape", "internal/bytealg.MakeNoZero"], unfollowed := true, recurses := true, plainKeys := false, apart := false, narrowed := true }
def StoreRanksUptoSaid : Prop := storeRanksUptoRow.holds Try.pinned (OpenSpec.upto storeRanksSpec)

/-- 'wellspringlaw14.StoreNil', WHERE WHAT IT READS IS OF BULK AT MOST 1048576: true; the input reads as it did. -/
def storeNilUptoRow : OpenClaim := { program := "ytdkkgecdhapfhaa", sum := "97751d4804da7911b9e2e87b4355a40e012fb0ef4289f385d4a91220968b62f7", func := "wellspring/wellspringlaw14.StoreNil", spec := "storeNil", inPlace := ["internal/abi.NoEscape", "internal/bytealg.MakeNoZero"], unfollowed := true, recurses := true, plainKeys := false, apart := false, narrowed := true }
def StoreNilUptoSaid : Prop := storeNilUptoRow.holds Try.pinned (OpenSpec.upto storeNilSpec)

/-- 'wellspringlaw14.StoreOld', WHERE WHAT IT READS IS OF BULK AT MOST 1048576: true; the input reads as it did. -/
def storeOldUptoRow : OpenClaim := { program := "ytdkkgecdhapfhaa", sum := "97751d4804da7911b9e2e87b4355a40e012fb0ef4289f385d4a91220968b62f7", func := "wellspring/wellspringlaw14.StoreOld", spec := "storeOld", inPlace := ["internal/abi.NoEscape", "internal/bytealg.MakeNoZero"], unfollowed := true, recurses := true, plainKeys := false, apart := false, narrowed := true }
def StoreOldUptoSaid : Prop := storeOldUptoRow.holds Try.pinned (OpenSpec.upto storeOldSpec)

/-- 'wellspringlaw14.StoreUsed', WHERE WHAT IT READS IS OF BULK AT MOST 1048576: true; the input reads as it did. -/
def storeUsedUptoRow : OpenClaim := { program := "ytdkkgecdhapfhaa", sum := "97751d4804da7911b9e2e87b4355a40e012fb0ef4289f385d4a91220968b62f7", func := "wellspring/wellspringlaw14.StoreUsed", spec := "storeUsed", inPlace := ["internal/abi.NoEscape", "internal/bytealg.MakeNoZero"], unfollowed := true, recurses := true, plainKeys := false, apart := false, narrowed := true }
def StoreUsedUptoSaid : Prop := storeUsedUptoRow.holds Try.pinned (OpenSpec.upto storeUsedSpec)

/-- 'wellspringlaw15.NegScripts', WHERE WHAT IT READS IS OF BULK AT MOST 1048576: true; the input reads as it did. -/
def negScriptsUptoRow : OpenClaim := { program := "ytdkkgecdhapfhaa", sum := "97751d4804da7911b9e2e87b4355a40e012fb0ef4289f385d4a91220968b62f7", func := "wellspring/wellspringlaw15.NegScripts", spec := "negScripts", inPlace := ["internal/abi.NoEscape", "internal/bytealg.MakeNoZero", "maps.clone"], unfollowed := true, recurses := true, plainKeys := false, apart := false, narrowed := true }
def NegScriptsUptoSaid : Prop := negScriptsUptoRow.holds Try.pinned (OpenSpec.upto negScriptsSpec)

/-- 'wellspringlaw15.NegCovers', WHERE WHAT IT READS IS OF BULK AT MOST 1048576: true; the input reads as it did. -/
def negCoversUptoRow : OpenClaim := { program := "ytdkkgecdhapfhaa", sum := "97751d4804da7911b9e2e87b4355a40e012fb0ef4289f385d4a91220968b62f7", func := "wellspring/wellspringlaw15.NegCovers", spec := "negCovers", inPlace := ["internal/abi.NoEscape", "internal/bytealg.MakeNoZero", "maps.clone"], unfollowed := true, recurses := true, plainKeys := false, apart := false, narrowed := true }
def NegCoversUptoSaid : Prop := negCoversUptoRow.holds Try.pinned (OpenSpec.upto negCoversSpec)

/-- 'wellspringlaw15.NegNil', WHERE WHAT IT READS IS OF BULK AT MOST 1048576: true; the input reads as it did. -/
def negNilUptoRow : OpenClaim := { program := "ytdkkgecdhapfhaa", sum := "97751d4804da7911b9e2e87b4355a40e012fb0ef4289f385d4a91220968b62f7", func := "wellspring/wellspringlaw15.NegNil", spec := "negNil", inPlace := ["internal/abi.NoEscape", "internal/bytealg.MakeNoZero", "maps.clone"], unfollowed := true, recurses := true, plainKeys := false, apart := false, narrowed := true }
def NegNilUptoSaid : Prop := negNilUptoRow.holds Try.pinned (OpenSpec.upto negNilSpec)

/-- 'wellspringlaw15.NegOld', WHERE WHAT IT READS IS OF BULK AT MOST 1048576: true; the input reads as it did. -/
def negOldUptoRow : OpenClaim := { program := "ytdkkgecdhapfhaa", sum := "97751d4804da7911b9e2e87b4355a40e012fb0ef4289f385d4a91220968b62f7", func := "wellspring/wellspringlaw15.NegOld", spec := "negOld", inPlace := ["internal/abi.NoEscape", "internal/bytealg.MakeNoZero", "maps.clone"], unfollowed := true, recurses := true, plainKeys := false, apart := false, narrowed := true }
def NegOldUptoSaid : Prop := negOldUptoRow.holds Try.pinned (OpenSpec.upto negOldSpec)

/-- 'wellspringlaw15.NegDrops', WHERE WHAT IT READS IS OF BULK AT MOST 1048576: true; the input reads as it did. -/
def negDropsUptoRow : OpenClaim := { program := "ytdkkgecdhapfhaa", sum := "97751d4804da7911b9e2e87b4355a40e012fb0ef4289f385d4a91220968b62f7", func := "wellspring/wellspringlaw15.NegDrops", spec := "negDrops", inPlace := ["internal/abi.NoEscape", "internal/bytealg.MakeNoZero", "maps.clone"], unfollowed := true, recurses := true, plainKeys := false, apart := false, narrowed := true }
def NegDropsUptoSaid : Prop := negDropsUptoRow.holds Try.pinned (OpenSpec.upto negDropsSpec)

end Rows
end Go.Proofs.Ytdkkgecdhapfhaa
