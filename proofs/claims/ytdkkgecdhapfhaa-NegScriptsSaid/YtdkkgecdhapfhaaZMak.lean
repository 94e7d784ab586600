/- Of the program alone, for all rows of this place: how it was made. No condition. -/
import Derived.Test.YtdkkgecdhapfhaaProg
import Derived.JoinedOf
namespace Go.Proofs.Ytdkkgecdhapfhaa.May
open Go
set_option maxRecDepth 100000
theorem makes : Try.prog.make = some .cut := by kernel_rfl
end Go.Proofs.Ytdkkgecdhapfhaa.May
