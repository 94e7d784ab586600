-- Written by a program of this session (wip/tools/myprint.py), over the kit's printer; Lean checks it.
import Derived.Test.YtmmnlfenaedjoaaZQ0
import Derived.Test.YtmmnlfenaedjoaaZOpn
namespace Go.Proofs.Ytmmnlfenaedjoaa.ZQ
open Go.RowKit Go.Proofs.YtmmnlfenaedjoaaW.PrintWords Go.Proofs.YtmmnlfenaedjoaaW.PrintLast Go.Proofs.YtmmnlfenaedjoaaW.PrintMore
attribute [local go_sem] max2_int min2_int max_two min_two max_three min_three max_four min_four   -- for this text's walks alone
set_option linter.unusedVariables false
set_option linter.unusedSimpArgs false

def good22 (b : S22) : Prop := ((Lit.int .i64 b.f0).wf = true) ∧ ((Lit.int .i64 b.f1).wf = true)
theorem op22 : B.Opens Try.prog k22 22 good22 :=
  B.opens_iso (fun p => ⟨p.1, p.2⟩) (fun _ => rfl) (B.opens_array Try.underlying22 (by kernel_rfl) (B.opensFs_cons (B.opens_int Try.underlying3) (by kernel_rfl) (B.opensFs_last (B.opens_int Try.underlying3) (by kernel_rfl))))
end Go.Proofs.Ytmmnlfenaedjoaa.ZQ
