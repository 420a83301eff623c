/- Closed facts of the program, for the rows. (Printed by wip/gen_jf.py.) -/
import Derived.Test.YtpfighhhemnhaaaGreatRows
import Derived.ProofKit
import Derived.Handy
namespace Go.Proofs.YtpfighhhemnhaaaGreat
open Go.RowKit

theorem jf_st2 : (Tryz.prog.stops == []) = true := by kernel_rfl
theorem jf_sk : (Tryz.prog.stopKnobs == []) = true := by kernel_rfl
theorem jf_sth : (Tryz.prog.stopsHeard) = true := by kernel_rfl
theorem jf_me : (Tryz.prog.mayEnter) = true := by kernel_rfl
end Go.Proofs.YtpfighhhemnhaaaGreat
