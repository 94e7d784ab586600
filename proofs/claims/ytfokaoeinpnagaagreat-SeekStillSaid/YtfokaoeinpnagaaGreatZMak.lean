/- Of the program alone, for all rows of this place: how it was made. No condition. -/
import Derived.Test.YtfokaoeinpnagaaGreatProg
import Derived.JoinedOf
namespace Go.Proofs.YtfokaoeinpnagaaGreat.May
open Go
set_option maxRecDepth 100000
theorem makes : Tryz.prog.make = some .cut := by kernel_rfl
end Go.Proofs.YtfokaoeinpnagaaGreat.May
