/- A fix read: what the program's reader returns. -/
import Derived.Test.YteoikaedpgianaaRows
import Derived.Test.YteoikaedpgianaaAid
import Derived.Laws.Bits64b
import Derived.Test.YteoikaedpgianaaBox
import Derived.Test.YteoikaedpgianaaTrack
import Derived.LoopN
namespace Go.Proofs.Yteoikaedpgianaa
open Go.RowKit

theorem heap_row_other {w : World} {g k : Nat} {cs : Array Value} (hne : k ≠ g) : (w.setRow g cs).heap[k]? = w.heap[k]? := by
  show (w.heap.modify g _)[k]? = _
  rw [Array.getElem?_modify, if_neg (by omega)]
end Go.Proofs.Yteoikaedpgianaa
