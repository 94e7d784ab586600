/- Of the program alone, for all rows of this place: how it was made. No condition. -/
import Derived.Test.YtdkkanpbcifkfaaProg
import Derived.JoinedOf
namespace Go.Proofs.Ytdkkanpbcifkfaa.May
open Go
set_option maxRecDepth 100000
theorem makes : Try.prog.make = some .cut := by kernel_rfl
end Go.Proofs.Ytdkkanpbcifkfaa.May
