/- Of the program alone, for all rows of this place: what it lifts. No condition. -/
import Derived.Test.YtfokaoeinpnagaaGreatProg
import Derived.JoinedOf
namespace Go.Proofs.YtfokaoeinpnagaaGreat.May
open Go
set_option maxRecDepth 100000
theorem lifts : Tryz.prog.liftsFinal = false := by kernel_rfl
end Go.Proofs.YtfokaoeinpnagaaGreat.May
