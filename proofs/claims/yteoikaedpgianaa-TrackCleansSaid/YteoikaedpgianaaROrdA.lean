/- TrackOrder (19), its end: the parts of what is kept. (Printed by wip/gen_orda.py.) -/
import Derived.Test.YteoikaedpgianaaRFxS
import Derived.Test.YteoikaedpgianaaRLift
import Derived.Test.YteoikaedpgianaaRBeam
namespace Go.Proofs.Yteoikaedpgianaa
open Go.RowKit Go.Sort Go.Lib Go.Shelf Go.Proofs

/-- the number of the region that a piece of code begins with -/
def headR : Code → Option Nat
  | .region id _ _ => some id
  | .seq a _ => headR a
  | _ => none
/-- from a region on, to the end of the sequence that it begins -/
def findS (n : Nat) : Code → Option Code
  | .seq a b => if headR a = some n then some (.seq a b) else match findS n a with | some c => some c | none => findS n b
  | .cond _ a b => match findS n a with | some c => some c | none => findS n b
  | .block _ a => findS n a
  | .loop a => findS n a
  | .scope a => findS n a
  | _ => none
end Go.Proofs.Yteoikaedpgianaa
