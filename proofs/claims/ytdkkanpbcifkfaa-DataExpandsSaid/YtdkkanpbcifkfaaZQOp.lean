-- Written by a program of this session (wip/tools/myprint.py), over the kit's printer; Lean checks it.
import Derived.Test.YtdkkanpbcifkfaaZQ0
import Derived.Test.YtdkkanpbcifkfaaZOpn
namespace Go.Proofs.Ytdkkanpbcifkfaa.ZQ
open Go.RowKit Go.Proofs.YtdkkanpbcifkfaaW.PrintWords Go.Proofs.YtdkkanpbcifkfaaW.PrintLast Go.Proofs.YtdkkanpbcifkfaaW.PrintMore
attribute [local go_sem] max2_int min2_int max_two min_two max_three min_three max_four min_four   -- for this text's walks alone
set_option linter.unusedVariables false
set_option linter.unusedSimpArgs false

def good35 (b : S35) : Prop := ((Lit.int .i64 b.f0).wf = true) ∧ ((Lit.int .i64 b.f1).wf = true)
set_option maxRecDepth 100000 in
theorem op35 : B.Opens Try.prog k35 35 good35 :=
  B.opens_iso (fun p => ⟨p.1, p.2⟩) (fun _ => rfl) (B.opens_array Try.underlying35 (by kernel_rfl) (B.opensFs_cons (B.opens_int Try.underlying3) (by kernel_rfl) (B.opensFs_last (B.opens_int Try.underlying3) (by kernel_rfl))))
end Go.Proofs.Ytdkkanpbcifkfaa.ZQ
