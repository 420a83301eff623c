/- What every law's step to its row needs: flat arguments of integers, closed facts of the program. -/
import Derived.Test.YteanlcefdoigcaaLift
import Derived.Test.YteanlcefdoigcaaOpen
import Derived.Test.YteanlcefdoigcaaRows
import Derived.Test.YteanlcefdoigcaaPt
namespace Go.Proofs.Yteanlcefdoigcaa
open Go.ChangeShapes Go.WideShapes Go.ChangeAt Go.RowKit

theorem lawOwn : ownKnob Try.prog.godebug = none := by kernel_rfl
theorem lawLaid : laidOutB Try.prog = true := by kernel_rfl
theorem lawCells : ∀ {n : Nat} {cs : List Value}, fitsW (List.replicate n (some .i64)) cs → ∃ zs : List Int, zs.length = n ∧ cs = zs.map (Value.int .i64)
  | 0, cs, h => ⟨[], rfl, fits_nil h⟩
  | n + 1, cs, h => by
    obtain ⟨z, vs, rfl, _, h2⟩ := fits_int (show fitsW (some .i64 :: List.replicate n (some .i64)) cs from h)
    obtain ⟨zs, hl, rfl⟩ := lawCells h2
    exact ⟨z :: zs, by simp [hl], rfl⟩
theorem lawFlat3 : flatOf Try.prog 10 3 = some (List.replicate 1 (some .i64)) := by kernel_rfl
theorem lawFlat36 : flatOf Try.prog 10 36 = some (List.replicate 9 (some .i64)) := by kernel_rfl
theorem lawFlat39 : flatOf Try.prog 10 39 = some (List.replicate 4 (some .i64)) := by kernel_rfl
theorem lawSize36 : (Try.prog.info? 36).map (·.size) = some 9 := by kernel_rfl
theorem lawSize39 : (Try.prog.info? 39).map (·.size) = some 4 := by kernel_rfl
end Go.Proofs.Yteanlcefdoigcaa
