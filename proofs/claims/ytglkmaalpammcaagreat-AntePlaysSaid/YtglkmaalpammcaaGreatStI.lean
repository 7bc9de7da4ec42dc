/- A loop over an iterator that ticks, with things of its own (R i: what lies there when i elements have come), apart from what the iterator leans on. -/
import Derived.Test.YtglkmaalpammcaaGreatZD
import Derived.Test.YtglkmaalpammcaaGreatZA
namespace Go.Gl
open Go.RowKit
set_option linter.unusedVariables false
section
variable {P : Program}
end
end Go.Gl
