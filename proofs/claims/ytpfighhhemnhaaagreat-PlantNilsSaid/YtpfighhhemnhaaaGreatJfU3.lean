/- Closed facts of the program, for the rows. (Printed by wip/gen_jf.py.) -/
import Derived.Test.YtpfighhhemnhaaaGreatRows
import Derived.ProofKit
import Derived.Handy
namespace Go.Proofs.YtpfighhhemnhaaaGreat
open Go.RowKit

theorem jf_unf3 : (Rows.plantLongRow.unfollowed == Tryz.prog.unfollowed 3) = true := by kernel_rfl
end Go.Proofs.YtpfighhhemnhaaaGreat
