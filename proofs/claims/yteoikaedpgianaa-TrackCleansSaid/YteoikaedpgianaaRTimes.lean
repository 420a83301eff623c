/- Hamilton's product as the reference reckons it, by the table of the units. -/
import Derived.Test.YteoikaedpgianaaRows
import Derived.Test.YteoikaedpgianaaRAid
import Derived.Test.YteoikaedpgianaaRCore
import Derived.Lib.SmallJoins
import Derived.BigRegion
import Derived.Laws.CopyOwn
namespace Go.Proofs.Yteoikaedpgianaa
open Go.RowKit
theorem cell_row {W : World} {b j : Nat} {C : Array Value} {t : TypeId} {fr : Nat × Nat} (h : W.heap[b]? = some (.cells C t fr)) : W.cell? ⟨b, j, none⟩ = C[j]? := by
  simp [World.cell?, h]
end Go.Proofs.Yteoikaedpgianaa
