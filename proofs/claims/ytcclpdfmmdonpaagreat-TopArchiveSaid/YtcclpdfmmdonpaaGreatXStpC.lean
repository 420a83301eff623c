/- Commit and Forget of an archive whose disk does not fail, in one form each; the reference's beside them. -/
import Derived.Test.YtcclpdfmmdonpaaGreatXStpA
import Derived.Test.YtcclpdfmmdonpaaGreatXRefB
import Derived.Test.YtcclpdfmmdonpaaGreatXArcD
namespace Go.Proofs.YtcclpdfmmdonpaaGreat
open Go.RowKit Go.WideShapes Go.ChangeAt Go.Maps Go.Sort
def cmtE (P A : List Pt) (R : List Int) : Int := if goodL A = true then mergeErr P A R else 70
def RefQ (B : Nat) (a1 : Ac) (pv1 : Value) (W : World) (vv rv : Value) : Prop := OwnI W B vv (versL a1.lg.first a1.pts.length) /\ OwnV W B rv a1.pts /\ ∀ k, rv.ownBlock = some k -> pv1.ownBlock ≠ some k
theorem RefQ.still {B : Nat} {a1 : Ac} {pv1 : Value} {W W' : World} {vv rv : Value} (h : RefQ B a1 pv1 W vv rv) (hb : Below W.heap.size W W') : RefQ B a1 pv1 W' vv rv := ⟨OwnR.grow h.1 hb, h.2.1.still hb, h.2.2⟩
end Go.Proofs.YtcclpdfmmdonpaaGreat
