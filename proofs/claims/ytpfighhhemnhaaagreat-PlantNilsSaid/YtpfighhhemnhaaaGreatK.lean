/- Texts of the seat Ytpablkmdpoombaa, turned to this one by wip/port.py: Fund Val Pts Srt Num Crc Enc Rp AidB AidC AidD AidE DelM Unp Byt Ship Recv RShip PAwake RingM RWithin Order NvA Pul Cfg ValLaw. -/
import Derived.Test.YtpfighhhemnhaaaGreatA
import Derived.Test.YtpfighhhemnhaaaGreatB
import Derived.Test.YtpfighhhemnhaaaGreatC
import Derived.Test.YtpfighhhemnhaaaGreatD
import Derived.Test.YtpfighhhemnhaaaGreatE
import Derived.Test.YtpfighhhemnhaaaGreatF
import Derived.Test.YtpfighhhemnhaaaGreatG
import Derived.Test.YtpfighhhemnhaaaGreatH
import Derived.WalkKit
import Derived.ProofKit
import Derived.Handy
import Derived.WalkSpells
import Derived.Deep.QuietTactic
import Derived.BigQuiet
import Derived.BigRegion
import Derived.Laws.CopyOwn
import Derived.Lib.SmallJoins
import Derived.Orders
import Derived.Laws.Tables
import Derived.Deep.MidRow
import Derived.OpenShut
import Derived.Deep.Slices
import Derived.Maps.AppendAt
import Derived.Maps.Own
import Derived.Maps.OwnSet
import Derived.Maps.Views
import Derived.Maps.RangeWalk
import GoSem.Claim
import GoSem.ClaimJoined
import Derived.SizedLaws
import Derived.Carry
import Derived.Lib.QuietBelow
import Derived.Laws.Bits64b
import Derived.Laws.Shifts
import Derived.Lib.SliceRun
import Derived.Lib.BitFns
import Derived.Shelf.SlSortCmp.NoneTotal
import Derived.LoopN
import Derived.Laws.AppendOwnNone
import Derived.Deep.OwnRows
import Derived.Laws.BitsLemmas
import Derived.Laws.BytesArg
import Derived.Laws.Strings
import Derived.BigFrame
/- AidB -/
namespace Go.Proofs.YtpfighhhemnhaaaGreat
open Go.RowKit

theorem wpList_load_at {P : Program} {ops : Array Oper} {rest : List Oper} {o : Oper} {a : Act} {w : World} {Q : Exit → Act → World → Prop} (hw : Region.wanted o (yielded ops a.tmps) = true) (ty : TypeId) (x : Operand) (ho : o.op = .load ty x)
    {g : Nat} (hx : a.eval x = .pointer (some ⟨g, 0, none⟩)) {t : TypeId} {cs : Array Value} {fr : Nat × Nat} {d : TypeDesc} (hg : w.heap[g]? = some (.cells cs t fr))
    (hu : P.underlying ty = some d) (hd : (match d with | .struct _ | .array _ _ => true | _ => false) = true) {n : Nat} (hi : (P.info? ty).map (·.size) = some n) (hs : cs.size = n)
    (h : wpList P ops Q rest (a.put o.dst (.agg cs)) w) : wpList P ops Q (o :: rest) a w :=
  BigFrame.wpList_want hw fun _ hK => wp_load_row ty x ho g hx t cs fr d hg hu hd (by rw [hs]; exact hi) (hK _ _ h)
section
variable {P : Program} {fn : Func} {p u v : Tmp} {ty : TypeId} {tmps : Array Value} {w : World} {g : Nat} {t : TypeId} {cs : Array Value} {fr : Nat × Nat} {d : TypeDesc} {n : Nat}
theorem results_at2 (h : fn.results = #[.cell p ty, .tmp u]) (hp : tmps.getD p undef = .pointer (some ⟨g, 0, none⟩)) (hg : w.heap[g]? = some (.cells cs t fr))
    (hu : P.underlying ty = some d) (hd : (match d with | .struct _ | .array _ _ => true | _ => false) = true) (hi : (P.info? ty).map (·.size) = some n) (hs : cs.size = n) :
    (results fn tmps).run P w = .ok (.tuple #[.agg cs, tmps.getD u undef]) w := by
  have hp' : tmps[p]?.getD undef = .pointer (some ⟨g, 0, none⟩) := by simpa using hp
  simp [results, h, hp', asAddr, run_loadVar_row w g t ty cs fr d hg hu hd (by rw [hs]; exact hi)]
theorem results_at3 (h : fn.results = #[.cell p ty, .tmp u, .tmp v]) (hp : tmps.getD p undef = .pointer (some ⟨g, 0, none⟩)) (hg : w.heap[g]? = some (.cells cs t fr))
    (hu : P.underlying ty = some d) (hd : (match d with | .struct _ | .array _ _ => true | _ => false) = true) (hi : (P.info? ty).map (·.size) = some n) (hs : cs.size = n) :
    (results fn tmps).run P w = .ok (.tuple #[.agg cs, tmps.getD u undef, tmps.getD v undef]) w := by
  have hp' : tmps[p]?.getD undef = .pointer (some ⟨g, 0, none⟩) := by simpa using hp
  simp [results, h, hp', asAddr, run_loadVar_row w g t ty cs fr d hg hu hd (by rw [hs]; exact hi)]
end
end Go.Proofs.YtpfighhhemnhaaaGreat
namespace Go.Proofs.YtpfighhhemnhaaaGreat
open Go.RowKit

section
variable {P : Program} {Q : Exit → Act → World → Prop} {J : (Nat → Bool) → Act → World → Prop}

end
end Go.Proofs.YtpfighhhemnhaaaGreat
namespace Go.Proofs.YtpfighhhemnhaaaGreat
open Go.RowKit

section
variable {P : Program} {Q : Exit → Act → World → Prop}
end
end Go.Proofs.YtpfighhhemnhaaaGreat
namespace Go.Proofs.YtpfighhhemnhaaaGreat
open Go.RowKit

section
variable {P : Program} {Q : Exit → Act → World → Prop}
end
end Go.Proofs.YtpfighhhemnhaaaGreat
namespace Go.Proofs.YtpfighhhemnhaaaGreat
open Go.RowKit

section
variable {P : Program} {Q : Exit → Act → World → Prop}
end
end Go.Proofs.YtpfighhhemnhaaaGreat
namespace Go.Proofs.YtpfighhhemnhaaaGreat
open Go.RowKit
section
variable {P : Program} {Q : Exit → Act → World → Prop}
end
end Go.Proofs.YtpfighhhemnhaaaGreat
namespace Go.Proofs.YtpfighhhemnhaaaGreat
open Go.RowKit

section
variable {P : Program} {Q : Exit → Act → World → Prop}
end
end Go.Proofs.YtpfighhhemnhaaaGreat
namespace Go.Proofs.YtpfighhhemnhaaaGreat
open Go.RowKit

section
variable {P : Program} {Q : Exit → Act → World → Prop}
end
end Go.Proofs.YtpfighhhemnhaaaGreat
namespace Go.Proofs.YtpfighhhemnhaaaGreat
open Go.RowKit

section
variable {W0 W W' : World} {c m : Nat} {V : Nat → Value} {Z C : Nat → Array Value} {T : Nat → TypeId} {L : Nat → Bool} {us : Nat → Value}
end
end Go.Proofs.YtpfighhhemnhaaaGreat
namespace Go.Proofs.YtpfighhhemnhaaaGreat
open Go.RowKit Go.Deep

/-- a range of a block, by its row -/
theorem range_row {w : World} {b o t : Nat} {fr : Nat × Nat} {C : Array Value} {cs : List Value} (h : w.heap[b]? = some (.cells C t fr)) (hC : ∀ j v, cs[j]? = some v → C[o + j]? = some v) : w.rangeAt b o cs := fun j v hv => by
  have := cell_row (j := o + j) h
  rw [this]
  exact hC j v hv
/-- the load of a part of a block -/
theorem pt_load {P : Program} {ops : Array Oper} {rest : List Oper} {op : Oper} {a : Act} {w : World} {Q : Exit → Act → World → Prop} (hgd : op.guard = none) (ty : TypeId) (x : Operand) (ho : op.op = .load ty x)
    (b o : Nat) (hx : a.eval x = .pointer (some ⟨b, o, none⟩)) (cs : List Value) {d : TypeDesc} {C : Array Value} {t : Nat} {fr : Nat × Nat} (hC : w.heap[b]? = some (.cells C t fr)) (hcs : (C.toList.drop o).take cs.length = cs)
    (hu : P.underlying ty = some d) (hd : d.isRow = true) (hi : (P.info? ty).map (·.size) = some cs.length)
    (h : wpList P ops Q rest (a.put op.dst (.agg cs.toArray)) w) : wpList P ops Q (op :: rest) a w :=
  wpList_load_mid hgd ty x ho b o hx cs d (range_row hC (fun j v hv => by
    have hj : j < cs.length := (List.getElem?_eq_some_iff.1 hv).1
    rw [← hcs, List.getElem?_take_of_lt hj, List.getElem?_drop, Array.getElem?_toList] at hv
    exact hv)) hu hd hi h
end Go.Proofs.YtpfighhhemnhaaaGreat

namespace Go.Proofs.YtpfighhhemnhaaaGreat
open Go.RowKit Go.Maps

end Go.Proofs.YtpfighhhemnhaaaGreat
namespace Go.Proofs.YtpfighhhemnhaaaGreat
open Go.RowKit Go.Maps

section
variable {W W' : World} {base t sz : Nat} {v : Value} {l : List (List Value)}
end
end Go.Proofs.YtpfighhhemnhaaaGreat
namespace Go.Proofs.YtpfighhhemnhaaaGreat
open Go.RowKit Go.Maps

end Go.Proofs.YtpfighhhemnhaaaGreat
namespace Go.Proofs.YtpfighhhemnhaaaGreat
open Go.RowKit Go.Maps

end Go.Proofs.YtpfighhhemnhaaaGreat
namespace Go.Proofs.YtpfighhhemnhaaaGreat
open Go.RowKit Go.Maps

end Go.Proofs.YtpfighhhemnhaaaGreat
namespace Go.Proofs.YtpfighhhemnhaaaGreat
open Go.RowKit Go.Maps Go.Sort

end Go.Proofs.YtpfighhhemnhaaaGreat
namespace Go.Proofs.YtpfighhhemnhaaaGreat
open Go.RowKit Go.Maps

end Go.Proofs.YtpfighhhemnhaaaGreat

namespace Go.Proofs.YtpfighhhemnhaaaGreat
open Go.RowKit

end Go.Proofs.YtpfighhhemnhaaaGreat


/- Pul -/
namespace Go.Proofs.YtpfighhhemnhaaaGreat
open Go.RowKit

theorem wpList_strip {P : Program} {ops : Array Oper} {Q : Exit → Act → World → Prop} {rest : List Oper} {o : Oper} {a : Act} {w : World} (hw : Region.wanted o (yielded ops a.tmps) = true)
    (h : wpList P ops Q ({ o with guard := none } :: rest) a w) : wpList P ops Q (o :: rest) a w := by
  have e : Region.wanted { o with guard := none } (yielded ops a.tmps) = true := by simp [Region.wanted]
  unfold wpList at h ⊢
  rw [if_pos e] at h
  rw [if_pos hw]
  cases o
  exact h
end Go.Proofs.YtpfighhhemnhaaaGreat

