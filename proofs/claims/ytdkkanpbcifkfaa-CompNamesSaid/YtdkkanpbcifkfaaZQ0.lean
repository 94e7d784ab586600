-- Written by a program of this session (wip/tools/myprint.py), over the kit's printer; Lean checks it.
import Derived.Test.YtdkkanpbcifkfaaProg
import Derived.Below
import Derived.Deep.Draws
import Derived.Deep.AppendLies
import Derived.Maps.AppendAt
import Derived.OwnWalk
import Derived.Laws.BytesArg
import Derived.Laws.MakeOwn
import Derived.Laws.OwnMore
import Derived.Deep.OwnRows
import Derived.Tactics
import Derived.Lib.ConvBytes
import Derived.Laws.Slices
import Derived.WalkKit
import Derived.KernelRfl
import Derived.RowKit3
import Derived.Deep.LoopGhost
import Derived.Deep.QuietTactic
import Derived.BigQuiet
import Derived.WideLaws
import Derived.Deep.DeepCutAuto
import Derived.Deep.CutBlock
import Derived.Deep.RegionHeld3
import Derived.Laws.Rows
import Derived.Lib.AppendStr
import Derived.ArgAppend
import Derived.Laws.IdiomCopy
import Derived.OrdersHeld
import Derived.Laws.BitsLemmas
import Derived.RowKit
import Derived.Test.YtdkkanpbcifkfaaZB
import Derived.Test.YtdkkanpbcifkfaaWWords
import Derived.Test.YtdkkanpbcifkfaaWLast
import Derived.Test.YtdkkanpbcifkfaaWTab
import Derived.Test.YtdkkanpbcifkfaaWFour
import Derived.Test.YtdkkanpbcifkfaaWQPut
import Derived.Test.YtdkkanpbcifkfaaWApart
import Derived.Test.YtdkkanpbcifkfaaWArr
import Derived.Test.YtdkkanpbcifkfaaWZeros
import Derived.Test.YtdkkanpbcifkfaaWFoot
import Derived.Test.YtdkkanpbcifkfaaWKept
import Derived.Test.YtdkkanpbcifkfaaWShare
import Derived.Test.YtdkkanpbcifkfaaWN
import Derived.Test.YtdkkanpbcifkfaaWFootNe
import Derived.Test.YtdkkanpbcifkfaaWAt
import Derived.Test.YtdkkanpbcifkfaaWEqStruct
import Derived.Test.YtdkkanpbcifkfaaWRepsOne
import Derived.Test.YtdkkanpbcifkfaaWInv
import Derived.Test.YtdkkanpbcifkfaaWInvWords
import Derived.Test.YtdkkanpbcifkfaaWGuard
import Derived.Test.YtdkkanpbcifkfaaWNEv
import Derived.Test.YtdkkanpbcifkfaaWMore
namespace Go.Proofs.Ytdkkanpbcifkfaa.ZQ
open Go.RowKit Go.Proofs.YtdkkanpbcifkfaaW.PrintWords Go.Proofs.YtdkkanpbcifkfaaW.PrintLast Go.Proofs.YtdkkanpbcifkfaaW.PrintMore
attribute [local go_sem] max2_int min2_int max_two min_two max_three min_three max_four min_four   -- for this text's walks alone
set_option linter.unusedVariables false
set_option linter.unusedSimpArgs false



def errW : Option Int → Value
  | none => .nilIface
  | some c => .iface 0 (.int .i64 c)
theorem errW_none : errW none = .nilIface := rfl
theorem errW_some (c : Int) : errW (some c) = .iface 0 (.int .i64 c) := rfl

theorem info5 : (Try.prog.info? 5).map (fun i => (i.zero, i.size, i.bytes)) = some (some (.int .u8 0), 1, 1) := by kernel_rfl
theorem info9 : (Try.prog.info? 9).map (fun i => (i.zero, i.size, i.bytes)) = some (some (.string ⟨#[]⟩), 1, 16) := by kernel_rfl
-- the values' own types

end Go.Proofs.Ytdkkanpbcifkfaa.ZQ
