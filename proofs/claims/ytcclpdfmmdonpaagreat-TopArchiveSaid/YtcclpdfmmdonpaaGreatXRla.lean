/- Texts of the seat Yteanlcefdoigcaa, turned to this one by wip/port.py: RLay. -/
import Derived.Test.YtcclpdfmmdonpaaGreatRows
import Derived.Test.YtcclpdfmmdonpaaGreatXBas
import Derived.Test.YtcclpdfmmdonpaaGreatXArg
import Derived.Test.YtcclpdfmmdonpaaGreatXMap
import Derived.Test.YtcclpdfmmdonpaaGreatXVal
import Derived.Test.YtcclpdfmmdonpaaGreatXSrt
import Derived.Test.YtcclpdfmmdonpaaGreatXLay
import Derived.Test.YtcclpdfmmdonpaaGreatXRst
namespace Go.Proofs.YtcclpdfmmdonpaaGreat
open Go.RowKit Go.Sort
def iRow (z : Int) : List Value := [.int .i64 z]
def OwnI (W : World) (base : Nat) (v : Value) (zs : List Int) : Prop := OwnR W base 3 1 v (zs.map iRow)
theorem iRow_one (z : Int) : ∀ u ∈ iRow z, u.oneCell' = true := fun u hu => by
  simp [iRow] at hu; subst hu; rfl
theorem info3 : (Tryz.prog.info? 3).map (fun i => (i.zero, i.size, i.bytes)) = some (some (.int .i64 0), 1, 8) := by kernel_rfl
theorem size3 : (Tryz.prog.info? 3).map (·.size) = some 1 := by kernel_rfl
open Go.RowKit Go.Sort
open Go.RowKit Go.Sort
open Go.RowKit Go.Sort
open Go.RowKit Go.Sort
open Go.RowKit Go.Sort
open Go.RowKit
end Go.Proofs.YtcclpdfmmdonpaaGreat
