/- Closed facts of the program, for the rows. (Printed by wip/gen_jf.py.) -/
import Derived.Test.YtpfighhhemnhaaaGreatRows
import Derived.ProofKit
import Derived.Handy
namespace Go.Proofs.YtpfighhhemnhaaaGreat
open Go.RowKit

theorem jf_inp4 : (Rows.plantNilsRow.inPlace == Tryz.prog.inPlace 4) = true := by kernel_rfl
end Go.Proofs.YtpfighhhemnhaaaGreat
