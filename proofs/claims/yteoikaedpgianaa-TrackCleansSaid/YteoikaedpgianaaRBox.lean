/- Spans and boxes: what the tests of the program and of its reference return. -/
import Derived.Test.YteoikaedpgianaaRBeam
import Derived.Lib.QuietBelow
namespace Go.Proofs.Yteoikaedpgianaa
open Go.RowKit

theorem within1 (lo hi x : Int) (b c : Nat) (w : World) (hc : w.cell? ⟨b, 0, none⟩ = some (.int .i64 x)) :
    Calls Try.prog 72 #[.int .i64 lo, .int .i64 hi, .slice (some ⟨b, 0, none⟩) 1 c] w fun e w' => e = .returned (.bool (inB lo hi x)) ∧ w = w' := by
  refine (within_any lo hi b 0 1 c [x] w rfl (by omega) ?_).mono ?_
  · intro i hi
    obtain rfl : i = 0 := by omega
    exact hc
  · rintro e w' ⟨rfl, rfl⟩
    simp
end Go.Proofs.Yteoikaedpgianaa
