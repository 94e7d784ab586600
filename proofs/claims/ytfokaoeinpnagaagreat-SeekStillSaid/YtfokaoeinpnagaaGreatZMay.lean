/- Of the program alone, for all rows of this place: it may be entered. No condition. -/
import Derived.Test.YtfokaoeinpnagaaGreatProg
import Derived.JoinedOf
namespace Go.Proofs.YtfokaoeinpnagaaGreat.May
open Go
set_option maxRecDepth 100000
theorem enters : Tryz.prog.mayEnter = true := by kernel_rfl
end Go.Proofs.YtfokaoeinpnagaaGreat.May
