/- Products and beams of quaternions: what the track package and its reference return. -/
import Derived.Test.YteoikaedpgianaaRows
import Derived.Test.YteoikaedpgianaaAid
import Derived.Test.YteoikaedpgianaaQuat
import Derived.Test.YteoikaedpgianaaCore
import Derived.Test.YteoikaedpgianaaTimes
namespace Go.Proofs.Yteoikaedpgianaa
open Go.RowKit
/-- four integers within a limit -/
def ok4 (l a b c d : Int) : Bool := [a, b, c, d].all (inB (-l) l)
end Go.Proofs.Yteoikaedpgianaa
