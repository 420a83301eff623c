/- What every law's step to its row needs: flat arguments of integers, closed facts of the program. -/
import Derived.Test.YteoikaedpgianaaLift
import Derived.Test.YteoikaedpgianaaOpen
import Derived.Test.YteoikaedpgianaaCore
namespace Go.Proofs.Yteoikaedpgianaa
open Go.ChangeShapes Go.WideShapes Go.ChangeAt Go.RowKit

theorem lawOwn : ownKnob Try.prog.godebug = none := by kernel_rfl
theorem lawLaid : laidOutB Try.prog = true := by kernel_rfl
theorem lawCells : ∀ {n : Nat} {cs : List Value}, fitsW (List.replicate n (some .i64)) cs → ∃ zs : List Int, zs.length = n ∧ cs = zs.map (Value.int .i64)
  | 0, cs, h => ⟨[], rfl, fits_nil h⟩
  | n + 1, cs, h => by
    obtain ⟨z, vs, rfl, _, h2⟩ := fits_int (show fitsW (some .i64 :: List.replicate n (some .i64)) cs from h)
    obtain ⟨zs, hl, rfl⟩ := lawCells h2
    exact ⟨z :: zs, by simp [hl], rfl⟩
theorem lawFlat55 : flatOf Try.prog 10 55 = some (List.replicate 10 (some .i64)) := by kernel_rfl
theorem lawFlat61 : flatOf Try.prog 10 61 = some (List.replicate 4 (some .i64)) := by kernel_rfl
theorem lawFlat22 : flatOf Try.prog 10 22 = some (List.replicate 4 (some .i64)) := by kernel_rfl
theorem lawFlat80 : flatOf Try.prog 10 80 = some (List.replicate 11 (some .i64)) := by kernel_rfl
theorem lawFlat44 : flatOf Try.prog 10 44 = some (List.replicate 2 (some .i64)) := by kernel_rfl
theorem lawFlat88 : flatOf Try.prog 10 88 = some (List.replicate 21 (some .i64)) := by kernel_rfl
theorem lawFlat103 : flatOf Try.prog 10 103 = some (List.replicate 27 (some .i64)) := by kernel_rfl
theorem lawFlat3 : flatOf Try.prog 10 3 = some (List.replicate 1 (some .i64)) := by kernel_rfl
theorem lawSize55 : (Try.prog.info? 55).map (·.size) = some 10 := by kernel_rfl
theorem lawSize61 : (Try.prog.info? 61).map (·.size) = some 4 := by kernel_rfl
theorem lawSize22 : (Try.prog.info? 22).map (·.size) = some 4 := by kernel_rfl
theorem lawSize80 : (Try.prog.info? 80).map (·.size) = some 11 := by kernel_rfl
theorem lawSize44 : (Try.prog.info? 44).map (·.size) = some 2 := by kernel_rfl
theorem lawSize88 : (Try.prog.info? 88).map (·.size) = some 21 := by kernel_rfl
theorem lawSize103 : (Try.prog.info? 103).map (·.size) = some 27 := by kernel_rfl
end Go.Proofs.Yteoikaedpgianaa
