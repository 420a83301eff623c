/- The readers of numbers: what they return, and what they leave of their bytes. -/
import Derived.Test.YteoikaedpgianaaRows
import Derived.Test.YteoikaedpgianaaRAid
import Derived.Laws.Bits64b
import Derived.Test.YteoikaedpgianaaRBox
namespace Go.Proofs.Yteoikaedpgianaa
open Go.RowKit

theorem heap_setCell {w : World} {b t j : Nat} {fr : Nat × Nat} {C : Array Value} (h : w.heap[b]? = some (.cells C t fr)) (v : Value) : (w.setCell ⟨b, j, none⟩ v).heap[b]? = some (.cells (C.setIfInBounds j v) t fr) := by
  simp only [World.setCell, Array.getElem?_modify]
  rw [if_pos trivial, h]
  simp
end Go.Proofs.Yteoikaedpgianaa
