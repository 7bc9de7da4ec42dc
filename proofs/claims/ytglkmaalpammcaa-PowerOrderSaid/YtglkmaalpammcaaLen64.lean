/- math/bits.Len64: the library's proved contract at this program. -/
import Derived.Shelf.Strconv.Itoa0
import Derived.Test.YtglkmaalpammcaaProg
namespace Go.Proofs.Ytglkmaalpammcaa
open Go.Shelf
end Go.Proofs.Ytglkmaalpammcaa
