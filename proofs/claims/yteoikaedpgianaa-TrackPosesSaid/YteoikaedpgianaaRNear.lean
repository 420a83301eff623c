/- The reference's test whether two fixes are near each other. -/
import Derived.Test.YteoikaedpgianaaRUp
import Derived.Lib.QuietBelow
import Derived.LoopN
namespace Go.Proofs.Yteoikaedpgianaa
open Go.RowKit Limb

theorem cellsRn {w : World} {b t : Nat} {fr : Nat × Nat} {C : Array Value} (h : w.heap[b]? = some (.cells C t fr)) (j : Nat) (v : Value) (hj : C[j]? = some v) (d : Nat) (os : Array Obj) : (Sort.grow (redrawn w d) os).cell? ⟨b, j, none⟩ = some v :=
  cell_regrown (by rw [cell_row h, hj]) d os
end Go.Proofs.Yteoikaedpgianaa
