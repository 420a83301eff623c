/- The program's test of rules and fixes, ahead of Clean and of Parts; what the two return where it refuses. -/
import Derived.Test.YteoikaedpgianaaTrack
import Derived.OwnWalk
namespace Go.Proofs.Yteoikaedpgianaa
open Go.RowKit

theorem size64 : (Try.prog.info? 64).map (·.size) = some 1 := by kernel_rfl
end Go.Proofs.Yteoikaedpgianaa
