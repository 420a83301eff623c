/- Closed facts of the program, for the rows. (Printed by wip/gen_jf.py.) -/
import Derived.Test.YtpfighhhemnhaaaGreatRows
import Derived.ProofKit
import Derived.Handy
namespace Go.Proofs.YtpfighhhemnhaaaGreat
open Go.RowKit

theorem jf_rec3 : (Rows.plantLongRow.recurses == Tryz.prog.recurses 3) = true := by kernel_rfl
end Go.Proofs.YtpfighhhemnhaaaGreat
