/- math/bits.Len64: the library's proved contract at this program. -/
import Derived.Shelf.Strconv.Itoa0
import Derived.Test.YtglkmaalpammcaaGreatProg
namespace Go.Proofs.YtglkmaalpammcaaGreat
open Go.Shelf
end Go.Proofs.YtglkmaalpammcaaGreat
