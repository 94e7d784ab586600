/- Of the program alone, for all rows of this place: how it was made. No condition. -/
import Derived.Test.YtfokaoeinpnagaaProg
import Derived.JoinedOf
namespace Go.Proofs.Ytfokaoeinpnagaa.May
open Go
set_option maxRecDepth 100000
theorem makes : Try.prog.make = some .cut := by kernel_rfl
end Go.Proofs.Ytfokaoeinpnagaa.May
