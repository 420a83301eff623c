/- A guarded operation of a region whose guard holds is the same operation without its guard. For whatever program. -/
import Derived.Test.YteoikaedpgianaaExt
import Derived.BigFrame
namespace Go.Proofs.Yteoikaedpgianaa
open Go.RowKit

theorem wpList_strip {P : Program} {ops : Array Oper} {Q : Exit → Act → World → Prop} {rest : List Oper} {o : Oper} {a : Act} {w : World} (hw : Region.wanted o (yielded ops a.tmps) = true)
    (h : wpList P ops Q ({ o with guard := none } :: rest) a w) : wpList P ops Q (o :: rest) a w := by
  have e : Region.wanted { o with guard := none } (yielded ops a.tmps) = true := by simp [Region.wanted]
  unfold wpList at h ⊢
  rw [if_pos e] at h
  rw [if_pos hw]
  cases o
  exact h
end Go.Proofs.Yteoikaedpgianaa
