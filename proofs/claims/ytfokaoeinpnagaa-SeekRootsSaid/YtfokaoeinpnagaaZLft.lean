/- Of the program alone, for all rows of this place: what it lifts. No condition. -/
import Derived.Test.YtfokaoeinpnagaaProg
import Derived.JoinedOf
namespace Go.Proofs.Ytfokaoeinpnagaa.May
open Go
set_option maxRecDepth 100000
theorem lifts : Try.prog.liftsFinal = false := by kernel_rfl
end Go.Proofs.Ytfokaoeinpnagaa.May
