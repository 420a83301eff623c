/- Products and beams of quaternions: what the track package and its reference return. -/
import Derived.Test.YteoikaedpgianaaRows
import Derived.Test.YteoikaedpgianaaRAid
import Derived.Test.YteoikaedpgianaaRCore
import Derived.Test.YteoikaedpgianaaRTimes
namespace Go.Proofs.Yteoikaedpgianaa
open Go.RowKit
/-- four integers within a limit -/
def ok4 (l a b c d : Int) : Bool := [a, b, c, d].all (inB (-l) l)
theorem ok4_iff {l a b c d : Int} : ok4 l a b c d = true ↔ (-l ≤ a ∧ a ≤ l) ∧ (-l ≤ b ∧ b ≤ l) ∧ (-l ≤ c ∧ c ≤ l) ∧ (-l ≤ d ∧ d ≤ l) := by
  simp [ok4, inB]

set_option maxRecDepth 100000 in
set_option maxHeartbeats 800000 in
theorem qbeam_any (W X Y Z : Int) (w : World) (ha : -4000000 ≤ W ∧ W ≤ 4000000) (hb : -4000000 ≤ X ∧ X ≤ 4000000) (hc : -4000000 ≤ Y ∧ Y ≤ 4000000) (hd : -4000000 ≤ Z ∧ Z ≤ 4000000) :
    Calls Try.prog 76 #[.agg #[.int .i64 W, .int .i64 X, .int .i64 Y, .int .i64 Z]] w
      fun r w' => r = .returned (.tuple #[.agg #[.int .i64 (Quat.k0 W X Y Z), .int .i64 (Quat.k1 W X Y Z), .int .i64 (Quat.k2 W X Y Z)], .int .i64 (Quat.nn W X Y Z)]) ∧ Below w.heap.size w w' := by
  have h1 := Quat.mul_bd ha ha
  have h2 := Quat.mul_bd ha hb
  have h3 := Quat.mul_bd ha hc
  have h4 := Quat.mul_bd ha hd
  have h5 := Quat.mul_bd hb hb
  have h6 := Quat.mul_bd hb hc
  have h7 := Quat.mul_bd hb hd
  have h8 := Quat.mul_bd hc hc
  have h9 := Quat.mul_bd hc hd
  have h10 := Quat.mul_bd hd hd
  clear ha hb hc hd
  go_enter Try.func76, Try.ntmps76
  go_wp2
  go_quiet (fail)
  go_wp2
  go_returns
  refine ⟨rfl, ?_⟩
  (repeat' (first | (with_reducible exact Below.refl _ _) | (with_reducible assumption) | (with_reducible refine Below.alloc ?_ ?_ _) | (with_reducible refine Below.drew ?_) | (with_reducible refine below_drewN ?_ _) | (with_reducible refine Below.setCell ?_ ?_ _) | (with_reducible refine below_setRow ?_ ?_ _) | go_size))

end Go.Proofs.Yteoikaedpgianaa
