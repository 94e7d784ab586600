-- Written by a program of this session (wip/tools/myprint.py), over the kit's printer; Lean checks it.
import Derived.Test.YtmmnlfenaedjoaaProg
import Derived.Below
import Derived.Deep.Draws
import Derived.Deep.AppendLies
import Derived.Maps.AppendAt
import Derived.OwnWalk
import Derived.Laws.BytesArg
import Derived.Laws.MakeOwn
import Derived.Laws.OwnMore
import Derived.Deep.OwnRows
import Derived.Tactics
import Derived.Lib.ConvBytes
import Derived.Laws.Slices
import Derived.WalkKit
import Derived.KernelRfl
import Derived.RowKit3
import Derived.Deep.LoopGhost
import Derived.Deep.QuietTactic
import Derived.BigQuiet
import Derived.WideLaws
import Derived.Deep.DeepCutAuto
import Derived.Deep.CutBlock
import Derived.Deep.RegionHeld3
import Derived.Laws.Rows
import Derived.Lib.AppendStr
import Derived.ArgAppend
import Derived.Laws.IdiomCopy
import Derived.OrdersHeld
import Derived.Laws.BitsLemmas
import Derived.RowKit
import Derived.Test.YtmmnlfenaedjoaaWWords
import Derived.Test.YtmmnlfenaedjoaaWLast
import Derived.Test.YtmmnlfenaedjoaaWTab
import Derived.Test.YtmmnlfenaedjoaaWFour
import Derived.Test.YtmmnlfenaedjoaaWQPut
import Derived.Test.YtmmnlfenaedjoaaWApart
import Derived.Test.YtmmnlfenaedjoaaWArr
import Derived.Test.YtmmnlfenaedjoaaWZeros
import Derived.Test.YtmmnlfenaedjoaaWFoot
import Derived.Test.YtmmnlfenaedjoaaWKept
import Derived.Test.YtmmnlfenaedjoaaWShare
import Derived.Test.YtmmnlfenaedjoaaWN
import Derived.Test.YtmmnlfenaedjoaaWFootNe
import Derived.Test.YtmmnlfenaedjoaaWAt
import Derived.Test.YtmmnlfenaedjoaaWEqStruct
import Derived.Test.YtmmnlfenaedjoaaWRepsOne
import Derived.Test.YtmmnlfenaedjoaaWInv
import Derived.Test.YtmmnlfenaedjoaaWInvWords
import Derived.Test.YtmmnlfenaedjoaaWGuard
import Derived.Test.YtmmnlfenaedjoaaWNEv
import Derived.Test.YtmmnlfenaedjoaaWMore
namespace Go.Proofs.Ytmmnlfenaedjoaa.Q
open Go.RowKit Go.Proofs.YtmmnlfenaedjoaaW.PrintWords Go.Proofs.YtmmnlfenaedjoaaW.PrintLast Go.Proofs.YtmmnlfenaedjoaaW.PrintMore
attribute [local go_sem] max2_int min2_int max_two min_two max_three min_three max_four min_four   -- for this text's walks alone
set_option linter.unusedVariables false
set_option linter.unusedSimpArgs false



def errW : Option Int → Value
  | none => .nilIface
  | some c => .iface 0 (.int .i64 c)
theorem errW_none : errW none = .nilIface := rfl
theorem errW_some (c : Int) : errW (some c) = .iface 0 (.int .i64 c) := rfl

theorem info5 : (Try.prog.info? 5).map (fun i => (i.zero, i.size, i.bytes)) = some (some (.int .u8 0), 1, 1) := by kernel_rfl
theorem info9 : (Try.prog.info? 9).map (fun i => (i.zero, i.size, i.bytes)) = some (some (.string ⟨#[]⟩), 1, 16) := by kernel_rfl
-- the values' own types

end Go.Proofs.Ytmmnlfenaedjoaa.Q
