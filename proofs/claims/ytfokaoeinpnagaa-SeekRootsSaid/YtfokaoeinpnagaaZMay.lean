/- Of the program alone, for all rows of this place: it may be entered. No condition. -/
import Derived.Test.YtfokaoeinpnagaaProg
import Derived.JoinedOf
namespace Go.Proofs.Ytfokaoeinpnagaa.May
open Go
set_option maxRecDepth 100000
theorem enters : Try.prog.mayEnter = true := by kernel_rfl
end Go.Proofs.Ytfokaoeinpnagaa.May
