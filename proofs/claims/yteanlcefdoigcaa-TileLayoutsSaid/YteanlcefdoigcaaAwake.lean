/- The law's own test that the program lays out one point as it should. -/
import Derived.Test.YteanlcefdoigcaaLay1
import Derived.Test.YteanlcefdoigcaaRank
import Derived.Test.YteanlcefdoigcaaGood
namespace Go.Proofs.Yteanlcefdoigcaa
open Go.RowKit

def onePt : Nat → Nat → Int := fun _ j => if j = 0 then 5 else if j = 6 ∨ j = 7 then 1 else 0
theorem onePt_good : goodV onePt 1 = true := by decide
set_option maxRecDepth 100000 in
theorem layout_one (b off cc : Nat) (w : World) (hbw : b < w.heap.size) (hr : recs9 w b off 1 onePt) :
    Calls Try.prog 15 #[.slice (some ⟨b, off, none⟩) 1 cc, .int .i64 1] w fun r w' => (∃ g cap g7 cap7, r = .returned (.tuple #[.slice (some ⟨g, 0, none⟩) 1 cap, .int .i64 0]) ∧ RowsAt w' g 0 5 [[.int .i64 0, .int .i64 0, .int .i64 0, .int .i64 0, .slice (some ⟨g7, 0, none⟩) 1 cap7]] ∧ RowsAt w' g7 0 9 [ptRow (onePt 0)]) ∧ Below w.heap.size w w' := by
  have HC := hid hr
  clear hr
  go_enter Try.func15, Try.ntmps15
  go_wp2_with fail
  refine (good_any b off 1 cc onePt w (by omega) (by unfold maxLen; omega) hbw HC.out).mono ?_
  rintro r w1 ⟨rfl, hb1⟩
  rw [onePt_good]
  have HR1 := hid (HC.out.still hb1 hbw)
  have HB1 := hid hb1
  have hs1 := hb1.size
  clear hb1
  go_wp2_with fail
  refine (lay1_any b off cc onePt w1 (by omega) HR1.out (by decide) (by decide) (by decide)).mono ?_
  rintro r w2 ⟨⟨g, cap, g7, cap7, rfl, h5, h9, _, _⟩, hb2⟩
  have HB2 := hid (HB1.out.trans (hb2.mono hs1))
  have H5 := hid h5
  have H9 := hid h9
  clear hb2 h5 h9
  go_wp2_with fail
  go_ret2
  exact ⟨⟨g, cap, g7, cap7, rfl, H5.out, H9.out⟩, HB2.out⟩
set_option maxRecDepth 100000 in
theorem awake_any (w : World) : Calls Try.prog 14 #[] w fun r w' => r = .returned (.bool true) ∧ Below w.heap.size w w' := by
  go_enter Try.func14, Try.ntmps14
  go_wp2_with fail
  refine (layout_one _ _ _ _ (by simp) (fun i hi j hj => ?_)).mono ?_
  · obtain rfl : i = 0 := by omega
    rw [cell_row (heap_alloc_at _ _ _ rfl)]
    match j, hj with
    | 0, _ | 1, _ | 2, _ | 3, _ | 4, _ | 5, _ | 6, _ | 7, _ | 8, _ => rfl
  rintro r w1 ⟨⟨g, cap, g7, cap7, rfl, h5, h9⟩, hb1⟩
  have HB1 := hid (show Below w.heap.size w w1 from ((Below.refl _ _).alloc (Nat.le_refl _) _).trans (hb1.mono (by simp)))
  have t4 : w1.cell? ⟨g, 4, none⟩ = some (.slice (some ⟨g7, 0, none⟩) 1 cap7) := h5 0 _ rfl 4 (by omega)
  have p0 : w1.cell? ⟨g7, 0, none⟩ = some (.int .i64 5) := h9 0 _ rfl 0 (by omega)
  clear hb1 h5 h9
  go_wp2_with fail
  refine (xRank_any 0 _).mono ?_
  rintro r w2 ⟨rfl, rfl⟩
  have hrk : rankV 0 = 16294208416658607535 := by decide +kernel
  rw [hrk]
  go_wp2_with fail
  go_ret
  exact ⟨rfl, HB1.out⟩
end Go.Proofs.Yteanlcefdoigcaa
