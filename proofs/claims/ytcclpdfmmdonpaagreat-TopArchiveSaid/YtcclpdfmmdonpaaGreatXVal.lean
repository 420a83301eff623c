/- Texts of the seat Yteanlcefdoigcaa, turned to this one by wip/port.py: Valid Keys. -/
import Derived.Test.YtcclpdfmmdonpaaGreatRows
import Derived.Test.YtcclpdfmmdonpaaGreatXBas
import Derived.Test.YtcclpdfmmdonpaaGreatXArg
import Derived.Test.YtcclpdfmmdonpaaGreatXMap
import Derived.Lib.QuietBelow
import Derived.Laws.Bits64b
import Derived.Laws.Shifts
import Derived.Lib.SliceRun
import Derived.Lib.BitFns
namespace Go.Proofs.YtcclpdfmmdonpaaGreat
open Go.RowKit
def inB (lo hi : Int) (z : Int) : Bool := decide (lo <= z) && decide (z <= hi)
theorem from_any (a b c : Int) (w : World) :
    Calls Tryz.prog 70 #[.int .i64 a, .int .i64 b, .int .i64 c] w fun e w' => e = .returned (.bool (inB a c b)) /\ w = w' := by
  by_cases h1 : a <= b <;> by_cases h2 : b <= c
  all_goals
    go_enter Tryz.func70, Tryz.ntmps70; go_wp2; go_ret; simp [inB, *]
theorem within_any (a b c : Int) (w : World) :
    Calls Tryz.prog 127 #[.int .i64 a, .int .i64 b, .int .i64 c] w fun e w' => e = .returned (.bool (inB a c b)) /\ w = w' := by
  by_cases h1 : a <= b <;> by_cases h2 : b <= c
  all_goals
    go_enter Tryz.func127, Tryz.ntmps127; go_wp2; go_ret; simp [inB, *]
theorem size174 : (Tryz.prog.info? 195).map (·.size) = some 2 := by kernel_rfl
theorem place_any (id x y zl zh wd nm of cl : Int) (w : World) :
    Calls Tryz.prog 129 #[.agg #[.int .i64 id, .int .i64 x, .int .i64 y, .int .i64 zl, .int .i64 zh, .int .i64 wd, .int .i64 nm, .int .i64 of, .int .i64 cl]] w fun e w' => e = .returned (.agg #[.int .i64 x, .int .i64 y]) /\ Below w.heap.size w w' := by
  go_enter Tryz.func129, Tryz.ntmps129; go_wp2_with fail; refine bodyPost_ret (results_at1 rfl rfl (heap_alloc_at _ _ _ (by simp)) Tryz.underlying195 rfl size174 rfl) rfl ⟨rfl, ?_⟩
  (repeat' (first | (with_reducible first | exact Below.refl _ _ | assumption | refine Below.alloc ?_ ?_ _ | refine Below.drew ?_ | refine below_drewN ?_ _ | refine Below.setCell ?_ ?_ _ | refine below_setRow ?_ ?_ _) | go_size))
def placeB (x y : Int) : Bool := inB (-268435456) 268435456 x && inB (-268435456) 268435456 y
theorem vplace_any (x y : Int) (w : World) :
    Calls Tryz.prog 128 #[.agg #[.int .i64 x, .int .i64 y]] w fun e w' => e = .returned (.bool (placeB x y)) /\ Below w.heap.size w w' := by
  by_cases h1 : inB (-268435456) 268435456 x = true
  · have HS := hid (show placeB x y = inB (-268435456) 268435456 y by simp [placeB, h1]); have H1 := hid h1; clear h1; go_enter Tryz.func128, Tryz.ntmps128; go_wp2_with fail; refine (within_any _ _ _ _).mono ?_; rintro r w1 ⟨rfl, rfl⟩; rw [H1.out]; go_wp2_with fail; refine (within_any _ _ _ _).mono ?_; rintro r w1 ⟨rfl, rfl⟩; go_wp2_with fail; go_ret; refine ⟨by rw [HS.out]; rfl, ?_⟩
    (try have hB0 := HB.out)
    (repeat' (first | (with_reducible first | exact Below.refl _ _ | assumption | refine Below.alloc ?_ ?_ _ | refine Below.drew ?_ | refine below_drewN ?_ _ | refine Below.setCell ?_ ?_ _ | refine below_setRow ?_ ?_ _) | go_size))
  · have HS := hid (show placeB x y = false by simp [placeB, h1]); have H1 := hid (Bool.eq_false_iff.2 h1); clear h1; go_enter Tryz.func128, Tryz.ntmps128; go_wp2_with fail; refine (within_any _ _ _ _).mono ?_; rintro r w1 ⟨rfl, rfl⟩; rw [H1.out]; go_wp2_with fail; go_ret; refine ⟨by rw [HS.out]; rfl, ?_⟩
    (try have hB0 := HB.out)
    (repeat' (first | (with_reducible first | exact Below.refl _ _ | assumption | refine Below.alloc ?_ ?_ _ | refine Below.drew ?_ | refine below_drewN ?_ _ | refine Below.setCell ?_ ?_ _ | refine below_setRow ?_ ?_ _) | go_size))
def pointB (id x y zl zh wd nm of : Int) : Bool := inB 0 1152921504606846976 id && placeB x y && inB (-268435456) zh zl && decide (zh <= 268435456) && inB 0 268435456 wd && inB 1 of nm && decide (of <= 15)
set_option maxRecDepth 100000 in
set_option maxHeartbeats 800000 in
theorem xPoint_any (id x y zl zh wd nm of cl : Int) (w : World) :
    Calls Tryz.prog 91 #[.agg #[.int .i64 id, .int .i64 x, .int .i64 y, .int .i64 zl, .int .i64 zh, .int .i64 wd, .int .i64 nm, .int .i64 of, .int .i64 cl]] w fun e w' => e = .returned (.bool (pointB id x y zl zh wd nm of)) /\ Below w.heap.size w w' := by
  have HB := hid (Below.refl w.heap.size w); by_cases h1 : inB 0 1152921504606846976 id = true
  · by_cases h2 : placeB x y = true
    · by_cases h3 : inB (-268435456) zh zl = true
      · by_cases h4 : decide (zh <= 268435456) = true
        · by_cases h5 : inB 0 268435456 wd = true
          · by_cases h6 : inB 1 of nm = true
            · have HS := hid (show pointB id x y zl zh wd nm of = decide (of <= 15) by simp [pointB, h1, h2, h3, h4, h5, h6]); have H1 := hid h1; have H2 := hid h2; have H3 := hid h3; have H4 := hid h4; have H5 := hid h5; have H6 := hid h6; clear h1 h2 h3 h4 h5 h6; have D4 := H4.out; go_enter Tryz.func91, Tryz.ntmps91; go_wp2_with fail; refine (within_any _ _ _ _).mono ?_; rintro r w9 ⟨rfl, rfl⟩; rw [H1.out]; go_wp2_with fail; refine (place_any _ _ _ _ _ _ _ _ _ _).mono ?_; rintro r w1 ⟨rfl, hb1⟩; go_wp2_with fail; refine (vplace_any _ _ _).mono ?_; rintro r w2 ⟨rfl, hb2⟩; have HP := hid (heap_still hb2 (heap_still hb1 (heap_alloc_at w (.cells #[.int .i64 id, .int .i64 x, .int .i64 y, .int .i64 zl, .int .i64 zh, .int .i64 wd, .int .i64 nm, .int .i64 of, .int .i64 cl] 106) _ rfl))); have c3 : w2.cell? ⟨w.heap.size, 3, none⟩ = some (.int .i64 zl) := (cell_row (j := 3) HP.out).trans rfl; have c4 : w2.cell? ⟨w.heap.size, 4, none⟩ = some (.int .i64 zh) := (cell_row (j := 4) HP.out).trans rfl; have c5 : w2.cell? ⟨w.heap.size, 5, none⟩ = some (.int .i64 wd) := (cell_row (j := 5) HP.out).trans rfl; have c6 : w2.cell? ⟨w.heap.size, 6, none⟩ = some (.int .i64 nm) := (cell_row (j := 6) HP.out).trans rfl; have c7 : w2.cell? ⟨w.heap.size, 7, none⟩ = some (.int .i64 of) := (cell_row (j := 7) HP.out).trans rfl; have HB := hid (show Below w.heap.size w w2 from ((Below.refl _ _).alloc (Nat.le_refl _) _).trans ((hb1.mono (by simp)).trans (hb2.mono (by have := hb1.size; simp at this; omega)))); clear hb1 hb2; rw [H2.out]; go_wp2_with fail; refine (within_any _ _ _ _).mono ?_; rintro r w9 ⟨rfl, rfl⟩; rw [H3.out]; go_wp2_with fail; refine (within_any _ _ _ _).mono ?_; rintro r w9 ⟨rfl, rfl⟩; rw [H5.out]; go_wp2_with fail; refine (within_any _ _ _ _).mono ?_; rintro r w9 ⟨rfl, rfl⟩; rw [H6.out]; go_wp2_with fail; go_ret; refine ⟨by rw [HS.out]; rfl, ?_⟩
              (try have hB0 := HB.out)
              (repeat' (first | (with_reducible first | exact Below.refl _ _ | assumption | refine Below.alloc ?_ ?_ _ | refine Below.drew ?_ | refine below_drewN ?_ _ | refine Below.setCell ?_ ?_ _ | refine below_setRow ?_ ?_ _) | go_size))
            · have HS := hid (show pointB id x y zl zh wd nm of = false by simp [pointB, h1, h2, h3, h4, h5, h6]); have H1 := hid h1; have H2 := hid h2; have H3 := hid h3; have H4 := hid h4; have H5 := hid h5; have H6 := hid (Bool.eq_false_iff.2 h6); clear h1 h2 h3 h4 h5 h6; have D4 := H4.out; go_enter Tryz.func91, Tryz.ntmps91; go_wp2_with fail; refine (within_any _ _ _ _).mono ?_; rintro r w9 ⟨rfl, rfl⟩; rw [H1.out]; go_wp2_with fail; refine (place_any _ _ _ _ _ _ _ _ _ _).mono ?_; rintro r w1 ⟨rfl, hb1⟩; go_wp2_with fail; refine (vplace_any _ _ _).mono ?_; rintro r w2 ⟨rfl, hb2⟩; have HP := hid (heap_still hb2 (heap_still hb1 (heap_alloc_at w (.cells #[.int .i64 id, .int .i64 x, .int .i64 y, .int .i64 zl, .int .i64 zh, .int .i64 wd, .int .i64 nm, .int .i64 of, .int .i64 cl] 106) _ rfl))); have c3 : w2.cell? ⟨w.heap.size, 3, none⟩ = some (.int .i64 zl) := (cell_row (j := 3) HP.out).trans rfl; have c4 : w2.cell? ⟨w.heap.size, 4, none⟩ = some (.int .i64 zh) := (cell_row (j := 4) HP.out).trans rfl; have c5 : w2.cell? ⟨w.heap.size, 5, none⟩ = some (.int .i64 wd) := (cell_row (j := 5) HP.out).trans rfl; have c6 : w2.cell? ⟨w.heap.size, 6, none⟩ = some (.int .i64 nm) := (cell_row (j := 6) HP.out).trans rfl; have c7 : w2.cell? ⟨w.heap.size, 7, none⟩ = some (.int .i64 of) := (cell_row (j := 7) HP.out).trans rfl; have HB := hid (show Below w.heap.size w w2 from ((Below.refl _ _).alloc (Nat.le_refl _) _).trans ((hb1.mono (by simp)).trans (hb2.mono (by have := hb1.size; simp at this; omega)))); clear hb1 hb2; rw [H2.out]; go_wp2_with fail; refine (within_any _ _ _ _).mono ?_; rintro r w9 ⟨rfl, rfl⟩; rw [H3.out]; go_wp2_with fail; refine (within_any _ _ _ _).mono ?_; rintro r w9 ⟨rfl, rfl⟩; rw [H5.out]; go_wp2_with fail; refine (within_any _ _ _ _).mono ?_; rintro r w9 ⟨rfl, rfl⟩; rw [H6.out]; go_wp2_with fail; go_ret; refine ⟨by rw [HS.out]; rfl, ?_⟩
              (try have hB0 := HB.out)
              (repeat' (first | (with_reducible first | exact Below.refl _ _ | assumption | refine Below.alloc ?_ ?_ _ | refine Below.drew ?_ | refine below_drewN ?_ _ | refine Below.setCell ?_ ?_ _ | refine below_setRow ?_ ?_ _) | go_size))
          · have HS := hid (show pointB id x y zl zh wd nm of = false by simp [pointB, h1, h2, h3, h4, h5]); have H1 := hid h1; have H2 := hid h2; have H3 := hid h3; have H4 := hid h4; have H5 := hid (Bool.eq_false_iff.2 h5); clear h1 h2 h3 h4 h5; have D4 := H4.out; go_enter Tryz.func91, Tryz.ntmps91; go_wp2_with fail; refine (within_any _ _ _ _).mono ?_; rintro r w9 ⟨rfl, rfl⟩; rw [H1.out]; go_wp2_with fail; refine (place_any _ _ _ _ _ _ _ _ _ _).mono ?_; rintro r w1 ⟨rfl, hb1⟩; go_wp2_with fail; refine (vplace_any _ _ _).mono ?_; rintro r w2 ⟨rfl, hb2⟩; have HP := hid (heap_still hb2 (heap_still hb1 (heap_alloc_at w (.cells #[.int .i64 id, .int .i64 x, .int .i64 y, .int .i64 zl, .int .i64 zh, .int .i64 wd, .int .i64 nm, .int .i64 of, .int .i64 cl] 106) _ rfl))); have c3 : w2.cell? ⟨w.heap.size, 3, none⟩ = some (.int .i64 zl) := (cell_row (j := 3) HP.out).trans rfl; have c4 : w2.cell? ⟨w.heap.size, 4, none⟩ = some (.int .i64 zh) := (cell_row (j := 4) HP.out).trans rfl; have c5 : w2.cell? ⟨w.heap.size, 5, none⟩ = some (.int .i64 wd) := (cell_row (j := 5) HP.out).trans rfl; have c6 : w2.cell? ⟨w.heap.size, 6, none⟩ = some (.int .i64 nm) := (cell_row (j := 6) HP.out).trans rfl; have c7 : w2.cell? ⟨w.heap.size, 7, none⟩ = some (.int .i64 of) := (cell_row (j := 7) HP.out).trans rfl; have HB := hid (show Below w.heap.size w w2 from ((Below.refl _ _).alloc (Nat.le_refl _) _).trans ((hb1.mono (by simp)).trans (hb2.mono (by have := hb1.size; simp at this; omega)))); clear hb1 hb2; rw [H2.out]; go_wp2_with fail; refine (within_any _ _ _ _).mono ?_; rintro r w9 ⟨rfl, rfl⟩; rw [H3.out]; go_wp2_with fail; refine (within_any _ _ _ _).mono ?_; rintro r w9 ⟨rfl, rfl⟩; rw [H5.out]; go_wp2_with fail; go_ret; refine ⟨by rw [HS.out]; rfl, ?_⟩
            (try have hB0 := HB.out)
            (repeat' (first | (with_reducible first | exact Below.refl _ _ | assumption | refine Below.alloc ?_ ?_ _ | refine Below.drew ?_ | refine below_drewN ?_ _ | refine Below.setCell ?_ ?_ _ | refine below_setRow ?_ ?_ _) | go_size))
        · have HS := hid (show pointB id x y zl zh wd nm of = false by simp [pointB, h1, h2, h3, h4]); have H1 := hid h1; have H2 := hid h2; have H3 := hid h3; have H4 := hid (Bool.eq_false_iff.2 h4); clear h1 h2 h3 h4; have D4 := H4.out; go_enter Tryz.func91, Tryz.ntmps91; go_wp2_with fail; refine (within_any _ _ _ _).mono ?_; rintro r w9 ⟨rfl, rfl⟩; rw [H1.out]; go_wp2_with fail; refine (place_any _ _ _ _ _ _ _ _ _ _).mono ?_; rintro r w1 ⟨rfl, hb1⟩; go_wp2_with fail; refine (vplace_any _ _ _).mono ?_; rintro r w2 ⟨rfl, hb2⟩; have HP := hid (heap_still hb2 (heap_still hb1 (heap_alloc_at w (.cells #[.int .i64 id, .int .i64 x, .int .i64 y, .int .i64 zl, .int .i64 zh, .int .i64 wd, .int .i64 nm, .int .i64 of, .int .i64 cl] 106) _ rfl))); have c3 : w2.cell? ⟨w.heap.size, 3, none⟩ = some (.int .i64 zl) := (cell_row (j := 3) HP.out).trans rfl; have c4 : w2.cell? ⟨w.heap.size, 4, none⟩ = some (.int .i64 zh) := (cell_row (j := 4) HP.out).trans rfl; have c5 : w2.cell? ⟨w.heap.size, 5, none⟩ = some (.int .i64 wd) := (cell_row (j := 5) HP.out).trans rfl; have c6 : w2.cell? ⟨w.heap.size, 6, none⟩ = some (.int .i64 nm) := (cell_row (j := 6) HP.out).trans rfl; have c7 : w2.cell? ⟨w.heap.size, 7, none⟩ = some (.int .i64 of) := (cell_row (j := 7) HP.out).trans rfl; have HB := hid (show Below w.heap.size w w2 from ((Below.refl _ _).alloc (Nat.le_refl _) _).trans ((hb1.mono (by simp)).trans (hb2.mono (by have := hb1.size; simp at this; omega)))); clear hb1 hb2; rw [H2.out]; go_wp2_with fail; refine (within_any _ _ _ _).mono ?_; rintro r w9 ⟨rfl, rfl⟩; rw [H3.out]; go_wp2_with fail; go_ret; refine ⟨by rw [HS.out]; rfl, ?_⟩
          (try have hB0 := HB.out)
          (repeat' (first | (with_reducible first | exact Below.refl _ _ | assumption | refine Below.alloc ?_ ?_ _ | refine Below.drew ?_ | refine below_drewN ?_ _ | refine Below.setCell ?_ ?_ _ | refine below_setRow ?_ ?_ _) | go_size))
      · have HS := hid (show pointB id x y zl zh wd nm of = false by simp [pointB, h1, h2, h3]); have H1 := hid h1; have H2 := hid h2; have H3 := hid (Bool.eq_false_iff.2 h3); clear h1 h2 h3; go_enter Tryz.func91, Tryz.ntmps91; go_wp2_with fail; refine (within_any _ _ _ _).mono ?_; rintro r w9 ⟨rfl, rfl⟩; rw [H1.out]; go_wp2_with fail; refine (place_any _ _ _ _ _ _ _ _ _ _).mono ?_; rintro r w1 ⟨rfl, hb1⟩; go_wp2_with fail; refine (vplace_any _ _ _).mono ?_; rintro r w2 ⟨rfl, hb2⟩; have HP := hid (heap_still hb2 (heap_still hb1 (heap_alloc_at w (.cells #[.int .i64 id, .int .i64 x, .int .i64 y, .int .i64 zl, .int .i64 zh, .int .i64 wd, .int .i64 nm, .int .i64 of, .int .i64 cl] 106) _ rfl))); have c3 : w2.cell? ⟨w.heap.size, 3, none⟩ = some (.int .i64 zl) := (cell_row (j := 3) HP.out).trans rfl; have c4 : w2.cell? ⟨w.heap.size, 4, none⟩ = some (.int .i64 zh) := (cell_row (j := 4) HP.out).trans rfl; have c5 : w2.cell? ⟨w.heap.size, 5, none⟩ = some (.int .i64 wd) := (cell_row (j := 5) HP.out).trans rfl; have c6 : w2.cell? ⟨w.heap.size, 6, none⟩ = some (.int .i64 nm) := (cell_row (j := 6) HP.out).trans rfl; have c7 : w2.cell? ⟨w.heap.size, 7, none⟩ = some (.int .i64 of) := (cell_row (j := 7) HP.out).trans rfl; have HB := hid (show Below w.heap.size w w2 from ((Below.refl _ _).alloc (Nat.le_refl _) _).trans ((hb1.mono (by simp)).trans (hb2.mono (by have := hb1.size; simp at this; omega)))); clear hb1 hb2; rw [H2.out]; go_wp2_with fail; refine (within_any _ _ _ _).mono ?_; rintro r w9 ⟨rfl, rfl⟩; rw [H3.out]; go_wp2_with fail; go_ret; refine ⟨by rw [HS.out]; rfl, ?_⟩
        (try have hB0 := HB.out)
        (repeat' (first | (with_reducible first | exact Below.refl _ _ | assumption | refine Below.alloc ?_ ?_ _ | refine Below.drew ?_ | refine below_drewN ?_ _ | refine Below.setCell ?_ ?_ _ | refine below_setRow ?_ ?_ _) | go_size))
    · have HS := hid (show pointB id x y zl zh wd nm of = false by simp [pointB, h1, h2]); have H1 := hid h1; have H2 := hid (Bool.eq_false_iff.2 h2); clear h1 h2; go_enter Tryz.func91, Tryz.ntmps91; go_wp2_with fail; refine (within_any _ _ _ _).mono ?_; rintro r w9 ⟨rfl, rfl⟩; rw [H1.out]; go_wp2_with fail; refine (place_any _ _ _ _ _ _ _ _ _ _).mono ?_; rintro r w1 ⟨rfl, hb1⟩; go_wp2_with fail; refine (vplace_any _ _ _).mono ?_; rintro r w2 ⟨rfl, hb2⟩; have HP := hid (heap_still hb2 (heap_still hb1 (heap_alloc_at w (.cells #[.int .i64 id, .int .i64 x, .int .i64 y, .int .i64 zl, .int .i64 zh, .int .i64 wd, .int .i64 nm, .int .i64 of, .int .i64 cl] 106) _ rfl))); have c3 : w2.cell? ⟨w.heap.size, 3, none⟩ = some (.int .i64 zl) := (cell_row (j := 3) HP.out).trans rfl; have c4 : w2.cell? ⟨w.heap.size, 4, none⟩ = some (.int .i64 zh) := (cell_row (j := 4) HP.out).trans rfl; have c5 : w2.cell? ⟨w.heap.size, 5, none⟩ = some (.int .i64 wd) := (cell_row (j := 5) HP.out).trans rfl; have c6 : w2.cell? ⟨w.heap.size, 6, none⟩ = some (.int .i64 nm) := (cell_row (j := 6) HP.out).trans rfl; have c7 : w2.cell? ⟨w.heap.size, 7, none⟩ = some (.int .i64 of) := (cell_row (j := 7) HP.out).trans rfl; have HB := hid (show Below w.heap.size w w2 from ((Below.refl _ _).alloc (Nat.le_refl _) _).trans ((hb1.mono (by simp)).trans (hb2.mono (by have := hb1.size; simp at this; omega)))); clear hb1 hb2; rw [H2.out]; go_wp2_with fail; go_ret; refine ⟨by rw [HS.out]; rfl, ?_⟩
      (try have hB0 := HB.out)
      (repeat' (first | (with_reducible first | exact Below.refl _ _ | assumption | refine Below.alloc ?_ ?_ _ | refine Below.drew ?_ | refine below_drewN ?_ _ | refine Below.setCell ?_ ?_ _ | refine below_setRow ?_ ?_ _) | go_size))
  · have HS := hid (show pointB id x y zl zh wd nm of = false by simp [pointB, h1]); have H1 := hid (Bool.eq_false_iff.2 h1); clear h1; go_enter Tryz.func91, Tryz.ntmps91; go_wp2_with fail; refine (within_any _ _ _ _).mono ?_; rintro r w9 ⟨rfl, rfl⟩; rw [H1.out]; go_wp2_with fail; go_ret; refine ⟨by rw [HS.out]; rfl, ?_⟩
    (try have hB0 := HB.out)
    (repeat' (first | (with_reducible first | exact Below.refl _ _ | assumption | refine Below.alloc ?_ ?_ _ | refine Below.drew ?_ | refine below_drewN ?_ _ | refine Below.setCell ?_ ?_ _ | refine below_setRow ?_ ?_ _) | go_size))
def rpointB (id x y zl zh wd nm of cl : Int) : Bool := inB 0 1152921504606846976 id && inB (-268435456) 268435456 x && inB (-268435456) 268435456 y && decide (-268435456 <= zl) && decide (zl <= zh) && decide (zh <= 268435456) && inB 0 268435456 wd && decide (1 <= nm) && decide (nm <= of) && decide (of <= 15) && inB 0 255 cl
theorem rpoint_eq (id x y zl zh wd nm of cl : Int) : rpointB id x y zl zh wd nm of cl = (pointB id x y zl zh wd nm of && inB 0 255 cl) := by
  simp [rpointB, pointB, placeB, inB, Bool.and_assoc]
set_option maxRecDepth 100000 in
set_option maxHeartbeats 800000 in
theorem rPoint_any (id x y zl zh wd nm of cl : Int) (w : World) :
    Calls Tryz.prog 86 #[.agg #[.int .i64 id, .int .i64 x, .int .i64 y, .int .i64 zl, .int .i64 zh, .int .i64 wd, .int .i64 nm, .int .i64 of, .int .i64 cl]] w fun e w' => e = .returned (.bool (pointB id x y zl zh wd nm of && inB 0 255 cl)) /\ Below w.heap.size w w' := by
  rw [<- rpoint_eq]; have HB := hid (Below.refl w.heap.size w); by_cases h1 : inB 0 1152921504606846976 id = true
  · by_cases h2 : inB (-268435456) 268435456 x = true
    · by_cases h3 : inB (-268435456) 268435456 y = true
      · by_cases h4 : decide (-268435456 <= zl) = true
        · by_cases h5 : decide (zl <= zh) = true
          · by_cases h6 : decide (zh <= 268435456) = true
            · by_cases h7 : inB 0 268435456 wd = true
              · by_cases h8 : decide (1 <= nm) = true
                · by_cases h9 : decide (nm <= of) = true
                  · by_cases h10 : decide (of <= 15) = true
                    · have HS := hid (show rpointB id x y zl zh wd nm of cl = inB 0 255 cl by simp [rpointB, h1, h2, h3, h4, h5, h6, h7, h8, h9, h10]); have H1 := hid h1; have H2 := hid h2; have H3 := hid h3; have H4 := hid h4; have H5 := hid h5; have H6 := hid h6; have H7 := hid h7; have H8 := hid h8; have H9 := hid h9; have H10 := hid h10; clear h1 h2 h3 h4 h5 h6 h7 h8 h9 h10; have D4 := H4.out; have D5 := H5.out; have D6 := H6.out; have D8 := H8.out; have D9 := H9.out; have D10 := H10.out; go_enter Tryz.func86, Tryz.ntmps86; go_wp2_with fail; refine (from_any _ _ _ _).mono ?_; rintro r w9 ⟨rfl, rfl⟩; rw [H1.out]; go_wp2_with fail; refine (from_any _ _ _ _).mono ?_; rintro r w9 ⟨rfl, rfl⟩; rw [H2.out]; go_wp2_with fail; refine (from_any _ _ _ _).mono ?_; rintro r w9 ⟨rfl, rfl⟩; rw [H3.out]; go_wp2_with fail; refine (from_any _ _ _ _).mono ?_; rintro r w9 ⟨rfl, rfl⟩; rw [H7.out]; go_wp2_with fail; refine (from_any _ _ _ _).mono ?_; rintro r w9 ⟨rfl, rfl⟩; go_wp2_with fail; go_ret; refine ⟨by rw [HS.out]; rfl, ?_⟩
                      (try have hB0 := HB.out)
                      (repeat' (first | (with_reducible first | exact Below.refl _ _ | assumption | refine Below.alloc ?_ ?_ _ | refine Below.drew ?_ | refine below_drewN ?_ _ | refine Below.setCell ?_ ?_ _ | refine below_setRow ?_ ?_ _) | go_size))
                    · have HS := hid (show rpointB id x y zl zh wd nm of cl = false by simp [rpointB, h1, h2, h3, h4, h5, h6, h7, h8, h9, h10]); have H1 := hid h1; have H2 := hid h2; have H3 := hid h3; have H4 := hid h4; have H5 := hid h5; have H6 := hid h6; have H7 := hid h7; have H8 := hid h8; have H9 := hid h9; have H10 := hid (Bool.eq_false_iff.2 h10); clear h1 h2 h3 h4 h5 h6 h7 h8 h9 h10; have D4 := H4.out; have D5 := H5.out; have D6 := H6.out; have D8 := H8.out; have D9 := H9.out; have D10 := H10.out; go_enter Tryz.func86, Tryz.ntmps86; go_wp2_with fail; refine (from_any _ _ _ _).mono ?_; rintro r w9 ⟨rfl, rfl⟩; rw [H1.out]; go_wp2_with fail; refine (from_any _ _ _ _).mono ?_; rintro r w9 ⟨rfl, rfl⟩; rw [H2.out]; go_wp2_with fail; refine (from_any _ _ _ _).mono ?_; rintro r w9 ⟨rfl, rfl⟩; rw [H3.out]; go_wp2_with fail; refine (from_any _ _ _ _).mono ?_; rintro r w9 ⟨rfl, rfl⟩; rw [H7.out]; go_wp2_with fail; go_ret; refine ⟨by rw [HS.out]; rfl, ?_⟩
                      (try have hB0 := HB.out)
                      (repeat' (first | (with_reducible first | exact Below.refl _ _ | assumption | refine Below.alloc ?_ ?_ _ | refine Below.drew ?_ | refine below_drewN ?_ _ | refine Below.setCell ?_ ?_ _ | refine below_setRow ?_ ?_ _) | go_size))
                  · have HS := hid (show rpointB id x y zl zh wd nm of cl = false by simp [rpointB, h1, h2, h3, h4, h5, h6, h7, h8, h9]); have H1 := hid h1; have H2 := hid h2; have H3 := hid h3; have H4 := hid h4; have H5 := hid h5; have H6 := hid h6; have H7 := hid h7; have H8 := hid h8; have H9 := hid (Bool.eq_false_iff.2 h9); clear h1 h2 h3 h4 h5 h6 h7 h8 h9; have D4 := H4.out; have D5 := H5.out; have D6 := H6.out; have D8 := H8.out; have D9 := H9.out; go_enter Tryz.func86, Tryz.ntmps86; go_wp2_with fail; refine (from_any _ _ _ _).mono ?_; rintro r w9 ⟨rfl, rfl⟩; rw [H1.out]; go_wp2_with fail; refine (from_any _ _ _ _).mono ?_; rintro r w9 ⟨rfl, rfl⟩; rw [H2.out]; go_wp2_with fail; refine (from_any _ _ _ _).mono ?_; rintro r w9 ⟨rfl, rfl⟩; rw [H3.out]; go_wp2_with fail; refine (from_any _ _ _ _).mono ?_; rintro r w9 ⟨rfl, rfl⟩; rw [H7.out]; go_wp2_with fail; go_ret; refine ⟨by rw [HS.out]; rfl, ?_⟩
                    (try have hB0 := HB.out)
                    (repeat' (first | (with_reducible first | exact Below.refl _ _ | assumption | refine Below.alloc ?_ ?_ _ | refine Below.drew ?_ | refine below_drewN ?_ _ | refine Below.setCell ?_ ?_ _ | refine below_setRow ?_ ?_ _) | go_size))
                · have HS := hid (show rpointB id x y zl zh wd nm of cl = false by simp [rpointB, h1, h2, h3, h4, h5, h6, h7, h8]); have H1 := hid h1; have H2 := hid h2; have H3 := hid h3; have H4 := hid h4; have H5 := hid h5; have H6 := hid h6; have H7 := hid h7; have H8 := hid (Bool.eq_false_iff.2 h8); clear h1 h2 h3 h4 h5 h6 h7 h8; have D4 := H4.out; have D5 := H5.out; have D6 := H6.out; have D8 := H8.out; go_enter Tryz.func86, Tryz.ntmps86; go_wp2_with fail; refine (from_any _ _ _ _).mono ?_; rintro r w9 ⟨rfl, rfl⟩; rw [H1.out]; go_wp2_with fail; refine (from_any _ _ _ _).mono ?_; rintro r w9 ⟨rfl, rfl⟩; rw [H2.out]; go_wp2_with fail; refine (from_any _ _ _ _).mono ?_; rintro r w9 ⟨rfl, rfl⟩; rw [H3.out]; go_wp2_with fail; refine (from_any _ _ _ _).mono ?_; rintro r w9 ⟨rfl, rfl⟩; rw [H7.out]; go_wp2_with fail; go_ret; refine ⟨by rw [HS.out]; rfl, ?_⟩
                  (try have hB0 := HB.out)
                  (repeat' (first | (with_reducible first | exact Below.refl _ _ | assumption | refine Below.alloc ?_ ?_ _ | refine Below.drew ?_ | refine below_drewN ?_ _ | refine Below.setCell ?_ ?_ _ | refine below_setRow ?_ ?_ _) | go_size))
              · have HS := hid (show rpointB id x y zl zh wd nm of cl = false by simp [rpointB, h1, h2, h3, h4, h5, h6, h7]); have H1 := hid h1; have H2 := hid h2; have H3 := hid h3; have H4 := hid h4; have H5 := hid h5; have H6 := hid h6; have H7 := hid (Bool.eq_false_iff.2 h7); clear h1 h2 h3 h4 h5 h6 h7; have D4 := H4.out; have D5 := H5.out; have D6 := H6.out; go_enter Tryz.func86, Tryz.ntmps86; go_wp2_with fail; refine (from_any _ _ _ _).mono ?_; rintro r w9 ⟨rfl, rfl⟩; rw [H1.out]; go_wp2_with fail; refine (from_any _ _ _ _).mono ?_; rintro r w9 ⟨rfl, rfl⟩; rw [H2.out]; go_wp2_with fail; refine (from_any _ _ _ _).mono ?_; rintro r w9 ⟨rfl, rfl⟩; rw [H3.out]; go_wp2_with fail; refine (from_any _ _ _ _).mono ?_; rintro r w9 ⟨rfl, rfl⟩; rw [H7.out]; go_wp2_with fail; go_ret; refine ⟨by rw [HS.out]; rfl, ?_⟩
                (try have hB0 := HB.out)
                (repeat' (first | (with_reducible first | exact Below.refl _ _ | assumption | refine Below.alloc ?_ ?_ _ | refine Below.drew ?_ | refine below_drewN ?_ _ | refine Below.setCell ?_ ?_ _ | refine below_setRow ?_ ?_ _) | go_size))
            · have HS := hid (show rpointB id x y zl zh wd nm of cl = false by simp [rpointB, h1, h2, h3, h4, h5, h6]); have H1 := hid h1; have H2 := hid h2; have H3 := hid h3; have H4 := hid h4; have H5 := hid h5; have H6 := hid (Bool.eq_false_iff.2 h6); clear h1 h2 h3 h4 h5 h6; have D4 := H4.out; have D5 := H5.out; have D6 := H6.out; go_enter Tryz.func86, Tryz.ntmps86; go_wp2_with fail; refine (from_any _ _ _ _).mono ?_; rintro r w9 ⟨rfl, rfl⟩; rw [H1.out]; go_wp2_with fail; refine (from_any _ _ _ _).mono ?_; rintro r w9 ⟨rfl, rfl⟩; rw [H2.out]; go_wp2_with fail; refine (from_any _ _ _ _).mono ?_; rintro r w9 ⟨rfl, rfl⟩; rw [H3.out]; go_wp2_with fail; go_ret; refine ⟨by rw [HS.out]; rfl, ?_⟩
              (try have hB0 := HB.out)
              (repeat' (first | (with_reducible first | exact Below.refl _ _ | assumption | refine Below.alloc ?_ ?_ _ | refine Below.drew ?_ | refine below_drewN ?_ _ | refine Below.setCell ?_ ?_ _ | refine below_setRow ?_ ?_ _) | go_size))
          · have HS := hid (show rpointB id x y zl zh wd nm of cl = false by simp [rpointB, h1, h2, h3, h4, h5]); have H1 := hid h1; have H2 := hid h2; have H3 := hid h3; have H4 := hid h4; have H5 := hid (Bool.eq_false_iff.2 h5); clear h1 h2 h3 h4 h5; have D4 := H4.out; have D5 := H5.out; go_enter Tryz.func86, Tryz.ntmps86; go_wp2_with fail; refine (from_any _ _ _ _).mono ?_; rintro r w9 ⟨rfl, rfl⟩; rw [H1.out]; go_wp2_with fail; refine (from_any _ _ _ _).mono ?_; rintro r w9 ⟨rfl, rfl⟩; rw [H2.out]; go_wp2_with fail; refine (from_any _ _ _ _).mono ?_; rintro r w9 ⟨rfl, rfl⟩; rw [H3.out]; go_wp2_with fail; go_ret; refine ⟨by rw [HS.out]; rfl, ?_⟩
            (try have hB0 := HB.out)
            (repeat' (first | (with_reducible first | exact Below.refl _ _ | assumption | refine Below.alloc ?_ ?_ _ | refine Below.drew ?_ | refine below_drewN ?_ _ | refine Below.setCell ?_ ?_ _ | refine below_setRow ?_ ?_ _) | go_size))
        · have HS := hid (show rpointB id x y zl zh wd nm of cl = false by simp [rpointB, h1, h2, h3, h4]); have H1 := hid h1; have H2 := hid h2; have H3 := hid h3; have H4 := hid (Bool.eq_false_iff.2 h4); clear h1 h2 h3 h4; have D4 := H4.out; go_enter Tryz.func86, Tryz.ntmps86; go_wp2_with fail; refine (from_any _ _ _ _).mono ?_; rintro r w9 ⟨rfl, rfl⟩; rw [H1.out]; go_wp2_with fail; refine (from_any _ _ _ _).mono ?_; rintro r w9 ⟨rfl, rfl⟩; rw [H2.out]; go_wp2_with fail; refine (from_any _ _ _ _).mono ?_; rintro r w9 ⟨rfl, rfl⟩; rw [H3.out]; go_wp2_with fail; go_ret; refine ⟨by rw [HS.out]; rfl, ?_⟩
          (try have hB0 := HB.out)
          (repeat' (first | (with_reducible first | exact Below.refl _ _ | assumption | refine Below.alloc ?_ ?_ _ | refine Below.drew ?_ | refine below_drewN ?_ _ | refine Below.setCell ?_ ?_ _ | refine below_setRow ?_ ?_ _) | go_size))
      · have HS := hid (show rpointB id x y zl zh wd nm of cl = false by simp [rpointB, h1, h2, h3]); have H1 := hid h1; have H2 := hid h2; have H3 := hid (Bool.eq_false_iff.2 h3); clear h1 h2 h3; go_enter Tryz.func86, Tryz.ntmps86; go_wp2_with fail; refine (from_any _ _ _ _).mono ?_; rintro r w9 ⟨rfl, rfl⟩; rw [H1.out]; go_wp2_with fail; refine (from_any _ _ _ _).mono ?_; rintro r w9 ⟨rfl, rfl⟩; rw [H2.out]; go_wp2_with fail; refine (from_any _ _ _ _).mono ?_; rintro r w9 ⟨rfl, rfl⟩; rw [H3.out]; go_wp2_with fail; go_ret; refine ⟨by rw [HS.out]; rfl, ?_⟩
        (try have hB0 := HB.out)
        (repeat' (first | (with_reducible first | exact Below.refl _ _ | assumption | refine Below.alloc ?_ ?_ _ | refine Below.drew ?_ | refine below_drewN ?_ _ | refine Below.setCell ?_ ?_ _ | refine below_setRow ?_ ?_ _) | go_size))
    · have HS := hid (show rpointB id x y zl zh wd nm of cl = false by simp [rpointB, h1, h2]); have H1 := hid h1; have H2 := hid (Bool.eq_false_iff.2 h2); clear h1 h2; go_enter Tryz.func86, Tryz.ntmps86; go_wp2_with fail; refine (from_any _ _ _ _).mono ?_; rintro r w9 ⟨rfl, rfl⟩; rw [H1.out]; go_wp2_with fail; refine (from_any _ _ _ _).mono ?_; rintro r w9 ⟨rfl, rfl⟩; rw [H2.out]; go_wp2_with fail; go_ret; refine ⟨by rw [HS.out]; rfl, ?_⟩
      (try have hB0 := HB.out)
      (repeat' (first | (with_reducible first | exact Below.refl _ _ | assumption | refine Below.alloc ?_ ?_ _ | refine Below.drew ?_ | refine below_drewN ?_ _ | refine Below.setCell ?_ ?_ _ | refine below_setRow ?_ ?_ _) | go_size))
  · have HS := hid (show rpointB id x y zl zh wd nm of cl = false by simp [rpointB, h1]); have H1 := hid (Bool.eq_false_iff.2 h1); clear h1; go_enter Tryz.func86, Tryz.ntmps86; go_wp2_with fail; refine (from_any _ _ _ _).mono ?_; rintro r w9 ⟨rfl, rfl⟩; rw [H1.out]; go_wp2_with fail; go_ret; refine ⟨by rw [HS.out]; rfl, ?_⟩
    (try have hB0 := HB.out)
    (repeat' (first | (with_reducible first | exact Below.refl _ _ | assumption | refine Below.alloc ?_ ?_ _ | refine Below.drew ?_ | refine below_drewN ?_ _ | refine Below.setCell ?_ ?_ _ | refine below_setRow ?_ ?_ _) | go_size))
open Go.RowKit Go.Maps
def recs9 (w : World) (b off n : Nat) (F : Nat -> Nat -> Int) : Prop := ∀ i, i < n -> ∀ j, j < 9 -> w.cell? ⟨b, off + i * 9 + j, none⟩ = some (.int .i64 (F i j))
theorem recs9.still {w w' : World} {b off n B : Nat} {F : Nat -> Nat -> Int} (h : recs9 w b off n F) (hb : Below B w w') (hB : b < B) : recs9 w' b off n F :=
  fun i hi j hj => by rw [hb.cell hB]; exact h i hi j hj
def allN (p : Nat -> Bool) : Nat -> Bool
  | 0 => true
  | k + 1 => allN p k && p k
theorem allN_next {p : Nat -> Bool} {k : Nat} (h : allN p k = true) (h2 : p k = true) : allN p (k + 1) = true := by simp [allN, h, h2]
theorem allN_stop {p : Nat -> Bool} {n k : Nat} (hk : k < n) (h : p k = false) : allN p n = false := by
  induction n with
  | zero => omega
  | succ n ih =>
    by_cases he : k = n
    · subst he; simp [allN, h]
    · simp [allN, ih (by omega)]
theorem allN_iff {p : Nat -> Bool} {n : Nat} : allN p n = true ↔ ∀ i, i < n -> p i = true := by
  induction n with
  | zero => simp [allN]
  | succ n ih =>
    simp only [allN, Bool.and_eq_true, ih]; constructor
    · rintro ⟨h1, h2⟩ i hi; by_cases he : i = n
      · subst he; exact h2
      · exact h1 i (by omega)
    · intro h; exact ⟨fun i hi => h i (by omega), h n (by omega)⟩
def ptB (p : Nat -> Int) : Bool := pointB (p 0) (p 1) (p 2) (p 3) (p 4) (p 5) (p 6) (p 7)
def newB (F : Nat -> Nat -> Int) (i : Nat) : Bool := ptB (F i) && !(List.range i).any (fun j => F j 0 == F i 0)
def validV (F : Nat -> Nat -> Int) (n : Nat) : Bool := decide (n <= 1024) && allN (newB F) n
def seenG (F : Nat -> Nat -> Int) (k : Nat) : Lit -> Option Value := fun l => if (List.range k).any (fun j => (Lit.int .i64 (F j 0)).sameKey l) then some (.bool true) else none
theorem law3 : Keyed Tryz.prog 3 := int_keyed Tryz.underlying3
theorem zero4 (w : World) : (zeroValue 4).run Tryz.prog w = .ok (.bool false) w := by kernel_rfl
theorem int_ne {a b : Int} (h : a ≠ b) : Lit.int .i64 a ≠ Lit.int .i64 b := fun e => h (by injection e)
theorem same_int (a b : Int) : (Lit.int .i64 a).sameKey (.int .i64 b) = (a == b) := by
  by_cases h : a = b
  · subst h; rw [beq_self_eq_true]; exact WideAt.sameKey_self trivial
  · rw [sameKey_ne (int_ne h)]; simp [h]
theorem seen_look (F : Nat -> Nat -> Int) (k : Nat) (x : Int) : (seenG F k (.int .i64 x)).getD (.bool false) = .bool ((List.range k).any (fun j => F j 0 == x)) := by
  unfold seenG; simp only [same_int]
  cases (List.range k).any (fun j => F j 0 == x) <;> rfl
theorem seen_put (F : Nat -> Nat -> Int) (k : Nat) : putG (seenG F k) (.int .i64 (F k 0)) (.bool true) = seenG F (k + 1) := by
  funext l; by_cases h : l = .int .i64 (F k 0)
  · subst h; rw [putG_same (show WideAt.IsKeyLit (Lit.int .i64 (F k 0)) from trivial)]; unfold seenG; rw [List.range_succ, List.any_append]; simp [same_int]
  · rw [putG_other h]; unfold seenG; rw [List.range_succ, List.any_append]; simp [sameKey_ne (Ne.symm h)]
theorem pointB_id {p : Nat -> Int} (h : ptB p = true) : 0 <= p 0 /\ p 0 <= 1152921504606846976 := by
  unfold ptB pointB at h; simp [inB] at h; omega
set_option maxRecDepth 100000 in
set_option maxHeartbeats 1600000 in
theorem valid_any (b off n c : Nat) (F : Nat -> Nat -> Int) (w : World) (hn0 : 0 < n) (hbw : b < w.heap.size) (hr : recs9 w b off n F) :
    Calls Tryz.prog 69 #[.slice (some ⟨b, off, none⟩) n c] w fun r w' => r = .returned (.bool (validV F n)) /\ Below w.heap.size w w' := by
  have HC := hid hr; clear hr; by_cases hn : n <= 1024
  · have hmm := fun (x : Int) (W : World) => (show (Instr.makeMap 163 (some (.int .i64 x))).run Tryz.prog W = .ok (.map (some W.heap.size)) (W.alloc (.map #[] 0)) by simp [Instr.makeMap, run_underlying Tryz.underlying163, asInt, newObj]; rfl)
    have hp : ¬ (1024 : Int) < (n : Int) := by omega
    have hd : decide ((1024 : Int) < (n : Int)) = false := decide_eq_false hp; go_enter Tryz.func69, Tryz.ntmps69; go_wp2_with fail
    go_loopw [14] (fun iv W => ∃ k : Nat, k <= n /\ iv = .int .i64 (k : Int) /\ allN (newB F) k = true /\ MapAt Tryz.prog W 3 w.heap.size k (seenG F k) /\ Below w.heap.size w W /\ w.heap.size < W.heap.size) (fun iv _ => n - (intOf iv).toNat)
    case atStart => exact ⟨0, by omega, rfl, rfl, MapAt.made w, (Below.refl _ _).alloc (Nat.le_refl _) _, by simp⟩
    case round =>
      obtain ⟨k, hk, rfl, hall, hmap, hB, hzw⟩ := hrel; have HBwr := hid hB; have hzwr := hB.size; have HA := hid hall; have HM := hid hmap; clear hall hmap; by_cases hlt : k < n
      · have hcs := HC.out.still hB hbw k hlt; have c0 := hcs 0 (by decide); have c1 := hcs 1 (by decide); have c2 := hcs 2 (by decide); have c3 := hcs 3 (by decide); have c4 := hcs 4 (by decide); have c5 := hcs 5 (by decide); have c6 := hcs 6 (by decide); have c7 := hcs 7 (by decide); have c8 := hcs 8 (by decide); rw [Nat.add_zero] at c0; have HST := hid (fun bb (h : newB F k = bb) => h); have HPT := hid (show newB F k = (pointB (F k 0) (F k 1) (F k 2) (F k 3) (F k 4) (F k 5) (F k 6) (F k 7) && !(List.range k).any (fun j => F j 0 == F k 0)) from rfl); have HID := hid (fun h : pointB (F k 0) (F k 1) (F k 2) (F k 3) (F k 4) (F k 5) (F k 6) (F k 7) = true => @pointB_id (F k) h); have HNX := hid (fun h : newB F k = true => allN_next HA.out h); have HX := hid (fun h : newB F k = false => show validV F n = false by unfold validV; rw [allN_stop hlt h]; simp); have HLK := hid (seen_look F k (F k 0)); have HSP := hid (seen_put F k); clear hB hcs HST; generalize F k 0 = p0 at *; generalize F k 1 = p1 at *; generalize F k 2 = p2 at *; generalize F k 3 = p3 at *; generalize F k 4 = p4 at *; generalize F k 5 = p5 at *; generalize F k 6 = p6 at *; generalize F k 7 = p7 at *; generalize F k 8 = p8 at *; by_cases hp : pointB p0 p1 p2 p3 p4 p5 p6 p7 = true
        · have HP := hid hp; have hwf : (Lit.int .i64 p0).wf = true := WalkArith.wf_i64 (by have := HID.out hp; omega); have HKEY := hid (keyOf_int_mk Tryz.underlying3 hwf); clear hp hwf; go_wp2_with fail; have HX1 := hid (heap_alloc_at wr (.cells #[.int .i64 p0, .int .i64 p1, .int .i64 p2, .int .i64 p3, .int .i64 p4, .int .i64 p5, .int .i64 p6, .int .i64 p7, .int .i64 p8] 106) _ rfl); have HM1 := hid (HM.out.grow ((Below.refl _ _).alloc (Nat.le_refl _) (.cells #[.int .i64 p0, .int .i64 p1, .int .i64 p2, .int .i64 p3, .int .i64 p4, .int .i64 p5, .int .i64 p6, .int .i64 p7, .int .i64 p8] 106))); refine (xPoint_any _ _ _ _ _ _ _ _ _ _).mono ?_; rintro r w1 ⟨rfl, hb⟩; rw [HP.out]; have hs1 := hb.size; simp at hs1; have q0 : w1.cell? ⟨wr.heap.size, 0, none⟩ = some (.int .i64 p0) := (cell_row (j := 0) (heap_still hb HX1.out)).trans rfl; have HM2 := hid (HM1.out.grow hb); have HB1 := hid (show Below w.heap.size w w1 from (HBwr.out.alloc hzwr _).trans (hb.mono (by simp; omega))); have hlook := HM2.out.look law3 Tryz.underlying163 (zero4 w1) HKEY.out; rw [HLK.out] at hlook; clear hb HM HM1
          cases hq : (List.range k).any (fun j => F j 0 == p0)
          · rw [hq] at hlook; have HNB := hid (HNX.out (by rw [HPT.out, HP.out, hq]; rfl)); clear hq; go_wp2_with (at_mapUpdate; refine wpList_put rfl (.tmp 27) (.tmp 29) (.const (.bool true)) 163 rfl law3 Tryz.underlying163 rfl HM2.out (by unfold maxLen; omega) (.int .i64 p0) (.bool true) (.int .i64 p0) rfl rfl HKEY.out ?_; intro w2 hm2 hg2); rw [HSP.out] at hm2; have hs2 := hg2.size; exact ⟨⟨k + 1, by omega, by go_num, HNB.out, hm2, HB1.out.grown hg2 (by omega) (fun j hj => by injection hj with hj; omega), by omega⟩, by simp [intOf]; omega⟩
          · rw [hq] at hlook; have HNB := hid (HX.out (by rw [HPT.out, HP.out, hq]; rfl)); clear hq; go_wp2_with fail; go_ret; exact ⟨by rw [HNB.out]; rfl, HB1.out⟩
        · have HP := hid (Bool.eq_false_iff.2 hp); clear hp; have HNB := hid (HX.out (by rw [HPT.out, HP.out]; rfl)); go_wp2_with fail; refine (xPoint_any _ _ _ _ _ _ _ _ _ _).mono ?_; rintro r w1 ⟨rfl, hb⟩; rw [HP.out]; have HB1 := hid (show Below w.heap.size w w1 from (HBwr.out.alloc hzwr _).trans (hb.mono (by simp; omega))); clear hb; go_wp2_with fail; go_ret; exact ⟨by rw [HNB.out]; rfl, HB1.out⟩
      · obtain rfl : k = n := by omega
        have HV := hid (show validV F k = true by unfold validV; rw [HA.out]; simp; omega); clear hB; go_wp2_with fail; go_ret; exact ⟨by rw [HV.out]; rfl, HBwr.out⟩
  · have HV := hid (show validV F n = false by simp [validV, hn]); have hp : (1024 : Int) < (n : Int) := by omega
    have hd : decide ((1024 : Int) < (n : Int)) = true := decide_eq_true hp; clear hn; go_enter Tryz.func69, Tryz.ntmps69; go_wp2_with fail; go_ret; exact ⟨by rw [HV.out]; rfl, Below.refl _ _⟩
open Go.RowKit Go.Maps
def clsB (F : Nat -> Nat -> Int) (i : Nat) : Bool := inB 0 255 (F i 8)
def goodV (F : Nat -> Nat -> Int) (n : Nat) : Bool := allN (clsB F) n && validV F n
theorem clsB_bad {F : Nat -> Nat -> Int} {i : Nat} (h : F i 8 < 0 ∨ 255 < F i 8) : clsB F i = false := by
  unfold clsB inB; simp; omega
theorem clsB_yes {F : Nat -> Nat -> Int} {i : Nat} (h : ¬ F i 8 < 0) (h2 : ¬ 255 < F i 8) : clsB F i = true := by
  unfold clsB inB; simp; omega
set_option maxRecDepth 100000 in
theorem valid_none (a : Option Addr) (c : Nat) (w : World) :
    Calls Tryz.prog 69 #[.slice a 0 c] w fun r w' => r = .returned (.bool true) /\ Below w.heap.size w w' := by
  have hmm := fun (x : Int) (W : World) => (show (Instr.makeMap 163 (some (.int .i64 x))).run Tryz.prog W = .ok (.map (some W.heap.size)) (W.alloc (.map #[] 0)) by simp [Instr.makeMap, run_underlying Tryz.underlying163, asInt, newObj]; rfl)
  go_enter Tryz.func69, Tryz.ntmps69; go_wp2_with fail; refine wp_loop_rounds 1 ?_; rw [rounds_succ]; go_wp2_with fail; go_ret; exact ⟨rfl, by (repeat' (first | (with_reducible first | exact Below.refl _ _ | assumption | refine Below.alloc ?_ ?_ _ | refine Below.drew ?_ | refine below_drewN ?_ _ | refine Below.setCell ?_ ?_ _ | refine below_setRow ?_ ?_ _) | go_size))⟩
set_option maxRecDepth 100000 in
theorem good_none (a : Option Addr) (c : Nat) (w : World) :
    Calls Tryz.prog 38 #[.slice a 0 c] w fun r w' => r = .returned (.bool true) /\ Below w.heap.size w w' := by
  go_enter Tryz.func38, Tryz.ntmps38; go_wp2_with fail; refine wp_loop_rounds 1 ?_; rw [rounds_succ]; go_wp2_with fail; refine (valid_none _ _ _).mono ?_; rintro r w1 ⟨rfl, hb⟩; go_wp2_with fail; go_ret; exact ⟨rfl, hb⟩
set_option maxRecDepth 100000 in
set_option maxHeartbeats 1600000 in
theorem good_any (b off n c : Nat) (F : Nat -> Nat -> Int) (w : World) (hn0 : 0 < n) (hnm : n <= maxLen) (hbw : b < w.heap.size) (hr : recs9 w b off n F) :
    Calls Tryz.prog 38 #[.slice (some ⟨b, off, none⟩) n c] w fun r w' => r = .returned (.bool (goodV F n)) /\ Below w.heap.size w w' := by
  have HC := hid hr; clear hr; have hnm' : n <= 9223372036854775807 := by unfold maxLen at hnm; omega
  clear hnm; go_enter Tryz.func38, Tryz.ntmps38; go_wp2_with fail
  go_loopw [7] (fun iv W => ∃ k : Nat, k <= n /\ iv = .int .i64 (k : Int) /\ allN (clsB F) k = true /\ Below w.heap.size w W) (fun iv _ => n - (intOf iv).toNat)
  case atStart => exact ⟨0, by omega, rfl, rfl, Below.refl _ _⟩
  case round =>
    obtain ⟨k, hk, rfl, hall, hB⟩ := hrel; have HBwr := hid hB; have hzwr := hB.size; have HA := hid hall; clear hall; by_cases hlt : k < n
    · have hcs := HC.out.still hB hbw k hlt; have c0 := hcs 0 (by decide); have c1 := hcs 1 (by decide); have c2 := hcs 2 (by decide); have c3 := hcs 3 (by decide); have c4 := hcs 4 (by decide); have c5 := hcs 5 (by decide); have c6 := hcs 6 (by decide); have c7 := hcs 7 (by decide); have c8 := hcs 8 (by decide); rw [Nat.add_zero] at c0; have HBAD := hid (fun h : F k 8 < 0 ∨ 255 < F k 8 => show goodV F n = false by unfold goodV; rw [allN_stop hlt (clsB_bad h)]; rfl); have HYES := hid (fun (h : ¬ F k 8 < 0) (h2 : ¬ 255 < F k 8) => allN_next HA.out (clsB_yes h h2)); clear hB hcs; generalize F k 0 = p0 at *; generalize F k 1 = p1 at *; generalize F k 2 = p2 at *; generalize F k 3 = p3 at *; generalize F k 4 = p4 at *; generalize F k 5 = p5 at *; generalize F k 6 = p6 at *; generalize F k 7 = p7 at *; generalize F k 8 = p8 at *; by_cases hl : p8 < 0
      · have HX := hid (HBAD.out (.inl hl)); go_wp2_with fail; go_ret; exact ⟨by rw [HX.out]; rfl, HBwr.out.alloc hzwr _⟩
      by_cases hg : 255 < p8
      · have HX := hid (HBAD.out (.inr hg)); go_wp2_with fail; go_ret; exact ⟨by rw [HX.out]; rfl, HBwr.out.alloc hzwr _⟩
      have HX := hid (HYES.out hl hg); go_wp2_with fail; exact ⟨⟨k + 1, by omega, by go_num, HX.out, HBwr.out.alloc hzwr _⟩, by simp [intOf]; omega⟩
    · obtain rfl : k = n := by omega
      have HV := hid (show goodV F k = validV F k by unfold goodV; rw [HA.out]; rfl); have HRC := hid (HC.out.still hB hbw); clear hB; go_wp2_with fail; refine (valid_any b off k c F wr hn0 (by omega) HRC.out).mono ?_; rintro r w1 ⟨rfl, hb⟩; go_wp2_with fail; go_ret; exact ⟨by rw [HV.out]; rfl, HBwr.out.trans (hb.mono hzwr)⟩
open Go.RowKit Go.Maps Go.Sort
def anyId (F : Nat -> Nat -> Int) (i : Nat) (p : Int) : Bool := (List.range i).any (fun j => F j 0 == p)
theorem anyId_next (F : Nat -> Nat -> Int) (i : Nat) (p : Int) : anyId F (i + 1) p = (anyId F i p || F i 0 == p) := by
  unfold anyId; rw [List.range_succ, List.any_append]; simp
theorem anyId_stop {F : Nat -> Nat -> Int} {i j : Nat} {p : Int} (h : j < i) (he : F j 0 = p) : anyId F i p = true := by
  unfold anyId; rw [List.any_eq_true]; exact ⟨j, List.mem_range.2 h, by simp [he]⟩
def rnewB (F : Nat -> Nat -> Int) (i : Nat) : Bool := (ptB (F i) && inB 0 255 (F i 8)) && !anyId F i (F i 0)
theorem allN_and (p q : Nat -> Bool) (n : Nat) : allN (fun i => p i && q i) n = (allN p n && allN q n) := by
  induction n with
  | zero => rfl
  | succ n ih =>
    simp only [allN, ih]
    cases allN p n <;> cases allN q n <;> cases p n <;> cases q n <;> rfl
theorem goodV_ref (F : Nat -> Nat -> Int) (n : Nat) : goodV F n = (decide (n <= 1024) && allN (rnewB F) n) := by
  have e : rnewB F = fun i => clsB F i && newB F i := by
    funext i; unfold rnewB clsB newB anyId
    cases ptB (F i) <;> cases inB 0 255 (F i 8) <;> rfl
  rw [e, allN_and]; unfold goodV validV
  cases allN (clsB F) n <;> cases decide (n <= 1024) <;> rfl
set_option maxRecDepth 100000 in
theorem rValid_none (a : Option Addr) (c : Nat) (w : World) :
    Calls Tryz.prog 62 #[.slice a 0 c] w fun r w' => r = .returned (.bool true) /\ Below w.heap.size w w' := by
  go_enter Tryz.func62, Tryz.ntmps62; go_wp2_with fail; refine wp_loop_rounds 1 ?_; rw [rounds_succ]; go_wp2_with fail; go_ret; exact ⟨rfl, by (repeat' (first | (with_reducible first | exact Below.refl _ _ | assumption | refine Below.alloc ?_ ?_ _ | refine Below.drew ?_ | refine below_drewN ?_ _ | refine Below.setCell ?_ ?_ _ | refine below_setRow ?_ ?_ _) | go_size))⟩
set_option maxRecDepth 100000 in
set_option maxHeartbeats 1600000 in
theorem rValid_any (b off n c : Nat) (F : Nat -> Nat -> Int) (w : World) (hn0 : 0 < n) (hbw : b < w.heap.size) (hr : recs9 w b off n F) :
    Calls Tryz.prog 62 #[.slice (some ⟨b, off, none⟩) n c] w fun r w' => r = .returned (.bool (goodV F n)) /\ Below w.heap.size w w' := by
  rw [goodV_ref]; obtain ⟨gv, hgv⟩ : ∃ gv, gv = (decide (n <= 1024) && allN (rnewB F) n) := ⟨_, rfl⟩; rw [<- hgv]; have HC := hid hr; clear hr; by_cases hn : n <= 1024
  · have hp : ¬ (1024 : Int) < (n : Int) := by omega
    have hd : decide ((1024 : Int) < (n : Int)) = false := decide_eq_false hp; have HGV := hid (show gv = allN (rnewB F) n by rw [hgv]; simp [hn]); clear hgv; go_enter Tryz.func62, Tryz.ntmps62; go_wp2_with fail
    go_loopw [10] (fun iv W => ∃ k : Nat, k <= n /\ iv = .int .i64 (k : Int) /\ allN (rnewB F) k = true /\ Below w.heap.size w W) (fun iv _ => n - (intOf iv).toNat)
    case atStart => exact ⟨0, by omega, rfl, rfl, Below.refl _ _⟩
    case round =>
      obtain ⟨k, hk, rfl, hall, hB⟩ := hrel; have HBwr := hid hB; have hzwr := hB.size; have HA := hid hall; clear hall; by_cases hlt : k < n
      · have hcs := HC.out.still hB hbw k hlt; have HRW := hid (HC.out.still hB hbw); have c0 := hcs 0 (by decide); have c1 := hcs 1 (by decide); have c2 := hcs 2 (by decide); have c3 := hcs 3 (by decide); have c4 := hcs 4 (by decide); have c5 := hcs 5 (by decide); have c6 := hcs 6 (by decide); have c7 := hcs 7 (by decide); have c8 := hcs 8 (by decide); rw [Nat.add_zero] at c0; have HNB := hid (show rnewB F k = ((pointB (F k 0) (F k 1) (F k 2) (F k 3) (F k 4) (F k 5) (F k 6) (F k 7) && inB 0 255 (F k 8)) && !anyId F k (F k 0)) from rfl); have HNX := hid (fun h : rnewB F k = true => allN_next HA.out h); have HX := hid (fun h : rnewB F k = false => show gv = false by rw [HGV.out]; exact allN_stop hlt h); clear hB hcs; generalize F k 0 = p0 at HNB c0 ⊢; generalize F k 1 = p1 at HNB c1 ⊢; generalize F k 2 = p2 at HNB c2 ⊢; generalize F k 3 = p3 at HNB c3 ⊢; generalize F k 4 = p4 at HNB c4 ⊢; generalize F k 5 = p5 at HNB c5 ⊢; generalize F k 6 = p6 at HNB c6 ⊢; generalize F k 7 = p7 at HNB c7 ⊢; generalize F k 8 = p8 at HNB c8 ⊢; have C0 := hid c0; go_wp2_with fail; refine (rPoint_any _ _ _ _ _ _ _ _ _ _).mono ?_; rintro r w1 ⟨rfl, hb⟩; have HB1 := hid (show Below w.heap.size w w1 from HBwr.out.trans (hb.mono hzwr)); have HRW1 := hid (HRW.out.still hb (by omega)); have D0 := hid (show w1.cell? ⟨b, off + k * 9, none⟩ = some (.int .i64 p0) from (hb.cell (p := ⟨b, off + k * 9, none⟩) (show b < wr.heap.size by omega)).trans C0.out); have hs1 := hb.size; clear hb c0 c1 c2 c3 c4 c5 c6 c7 c8
        cases hq : (pointB p0 p1 p2 p3 p4 p5 p6 p7 && inB 0 255 p8)
        · have HF := hid (HX.out (by rw [HNB.out, hq]; rfl)); clear hq; go_wp2_with fail; go_ret; exact ⟨by rw [HF.out]; rfl, HB1.out⟩
        · have HQ := hid hq; clear hq; have hzw1 := HB1.out.size; go_wp2_with fail
          go_loopw [4] (fun jv W => ∃ j : Nat, j <= k /\ jv = .int .i64 (j : Int) /\ anyId F j p0 = false /\ Below w1.heap.size w1 W) (fun jv _ => k - (intOf jv).toNat)
          case atStart => exact ⟨0, by omega, rfl, rfl, Below.refl _ _⟩
          case round =>
            obtain ⟨j, hjk, rfl, hany, hB2⟩ := hrel; have HB2 := hid hB2; have HAN := hid hany; clear hany; have hz2 := hB2.size; by_cases hjl : j < k
            · have hcj := HRW1.out.still hB2 (by omega) j (by omega) 0 (by decide); rw [Nat.add_zero] at hcj; have hck : wr.cell? ⟨b, off + k * 9, none⟩ = some (.int .i64 p0) := (hB2.cell (p := ⟨b, off + k * 9, none⟩) (show b < w1.heap.size by omega)).trans D0.out; have HST := hid (fun h : F j 0 = p0 => @anyId_stop F k j p0 hjl h); have HNJ := hid (anyId_next F j p0); clear hB2; generalize F j 0 = q at *; have a0 := fun d os => cell_regrown hcj d os
              have b0 := fun d os => cell_regrown hck d os
              go_wp2_with fail; refine wp_region_quiet_below (by kernel_rfl) (by kernel_rfl) ?_
              repeat (first | go_big_quiet_step (fail) | quiet_step (fail))
              refine wpQuiet_nil ?_; intro _ hw'; obtain ⟨⟨dq, osq⟩, hw2⟩ := hw'; subst hw2; have HB3 := hid (HB2.out.trans ((below_regrown wr dq osq).mono hz2)); clear a0 b0 hcj hck; generalize grow (redrawn wr dq) osq = W9 at *; by_cases hqp : q = p0
              · have hb9 : (q == p0) = true := beq_iff_eq.2 hqp; have HF := hid (HX.out (by rw [HNB.out, HQ.out, HST.out hqp]; rfl)); clear hqp; go_wp2_with fail; go_ret; exact ⟨by rw [HF.out]; rfl, HB1.out.trans (HB3.out.mono hzw1)⟩
              · have hb9 : (q == p0) = false := beq_eq_false_iff_ne.2 hqp; have HJ := hid (show anyId F (j + 1) p0 = false by rw [HNJ.out, HAN.out, hb9]; rfl); clear hqp; go_wp2_with fail; exact ⟨⟨j + 1, by omega, by go_num, HJ.out, HB3.out⟩, by simp [intOf]; omega⟩
            · obtain rfl : j = k := by omega
              have HN := hid (HNX.out (by rw [HNB.out, HQ.out, HAN.out]; rfl)); clear hB2; go_wp2_with fail; exact ⟨⟨j + 1, by omega, by go_num, HN.out, HB1.out.trans (HB2.out.mono hzw1)⟩, by simp [intOf]; omega⟩
      · obtain rfl : k = n := by omega
        have HV := hid (show gv = true by rw [HGV.out, HA.out]); clear hB; go_wp2_with fail; go_ret; exact ⟨by rw [HV.out]; rfl, HBwr.out⟩
  · have HV := hid (show gv = false by rw [hgv]; simp [hn]); have hp : (1024 : Int) < (n : Int) := by omega
    have hd : decide ((1024 : Int) < (n : Int)) = true := decide_eq_true hp; clear hn hgv; go_enter Tryz.func62, Tryz.ntmps62; go_wp2_with fail; go_ret; exact ⟨by rw [HV.out]; rfl, Below.refl _ _⟩
open Go.RowKit
def mixA (x : Int) : Int := IntKind.u64.wrap (bits .xor .u64 x (x / 1073741824) * 13787848793156543929)
def mixB (x : Int) : Int := IntKind.u64.wrap (bits .xor .u64 x (x / 134217728) * 10723151780598845931)
def mixC (x : Int) : Int := bits .xor .u64 x (x / 2147483648)
def rankV (id : Int) : Int := mixC (mixB (mixA (IntKind.u64.wrap (IntKind.u64.wrap id + 11400714819323198485))))
theorem xRank_any (id : Int) (w : World) : Calls Tryz.prog 20 #[.int .i64 id] w fun e w' => e = .returned (.int .u64 (rankV id)) /\ w = w' := by
  go_enter Tryz.func20, Tryz.ntmps20; go_wp2_with fail; go_ret; exact ⟨rfl, rfl⟩
open Go.RowKit
theorem xs_back (k x : Nat) (h3 : x < 2 ^ (3 * k)) : (x ^^^ x >>> k) ^^^ (x ^^^ x >>> k) >>> k ^^^ (x ^^^ x >>> k) >>> (2 * k) = x := by
  have e0 : x >>> (3 * k) = 0 := by rw [Nat.shiftRight_eq_div_pow]; exact Nat.div_eq_of_lt h3
  rw [Nat.shiftRight_xor_distrib, Nat.shiftRight_xor_distrib, <- Nat.shiftRight_add, <- Nat.shiftRight_add, show k + k = 2 * k by omega, show k + 2 * k = 3 * k by omega, e0, Nat.xor_zero]; apply Nat.eq_of_testBit_eq; intro i; simp only [Nat.testBit_xor]
  cases x.testBit i <;> cases (x >>> k).testBit i <;> cases (x >>> (2 * k)).testBit i <;> rfl
theorem xs_inj (k x y : Nat) (hx : x < 2 ^ (3 * k)) (hy : y < 2 ^ (3 * k)) (h : x ^^^ x >>> k = y ^^^ y >>> k) : x = y := by
  rw [<- xs_back k x hx, <- xs_back k y hy, h]
theorem xs_lt (k x : Nat) (h : x < 18446744073709551616) : x ^^^ x >>> k < 18446744073709551616 := by
  have h2 : x >>> k < 2 ^ 64 := Nat.lt_of_le_of_lt (by rw [Nat.shiftRight_eq_div_pow]; exact Nat.div_le_self _ _) h; exact Nat.xor_lt_two_pow (n := 64) h h2
theorem mul_inj (m m' k x y : Nat) (hm : m * m' = k * 18446744073709551616 + 1) (hx : x < 18446744073709551616) (hy : y < 18446744073709551616) (h : x * m % 18446744073709551616 = y * m % 18446744073709551616) : x = y := by
  have back : ∀ z, z < 18446744073709551616 -> (z * m % 18446744073709551616) * m' % 18446744073709551616 = z := fun z hz => by
    rw [Nat.mul_mod, Nat.mod_mod, <- Nat.mul_mod, Nat.mul_assoc, hm, Nat.mul_add, Nat.mul_one, <- Nat.mul_assoc, Nat.mul_add_mod_self_right]; exact Nat.mod_eq_of_lt hz
  rw [<- back x hx, <- back y hy, h]
theorem mulA_inj (x y : Nat) (hx : x < 18446744073709551616) (hy : y < 18446744073709551616) (h : x * 13787848793156543929 % 18446744073709551616 = y * 13787848793156543929 % 18446744073709551616) : x = y :=
  mul_inj 13787848793156543929 10871156337175269513 8125545580553827436 x y (by decide) hx hy h
theorem mulB_inj (x y : Nat) (hx : x < 18446744073709551616) (hy : y < 18446744073709551616) (h : x * 10723151780598845931 % 18446744073709551616 = y * 10723151780598845931 % 18446744073709551616) : x = y :=
  mul_inj 10723151780598845931 3573116690164977347 2077064247507883091 x y (by decide) hx hy h
def sA (a : Nat) : Nat := (a ^^^ a >>> 30) * 13787848793156543929 % 18446744073709551616
def sB (b : Nat) : Nat := (b ^^^ b >>> 27) * 10723151780598845931 % 18446744073709551616
def sC (c : Nat) : Nat := c ^^^ c >>> 31
def sD (n : Nat) : Nat := (n + 11400714819323198485) % 18446744073709551616
def rankN (n : Nat) : Nat := sC (sB (sA (sD n)))
theorem sA_lt (a : Nat) : sA a < 18446744073709551616 := Nat.mod_lt _ (by decide)
theorem sB_lt (a : Nat) : sB a < 18446744073709551616 := Nat.mod_lt _ (by decide)
theorem sD_lt (a : Nat) : sD a < 18446744073709551616 := Nat.mod_lt _ (by decide)
theorem lt_pow {a : Nat} (k : Nat) (h : a < 18446744073709551616) (hk : 64 <= 3 * k) : a < 2 ^ (3 * k) :=
  Nat.lt_of_lt_of_le h (Nat.pow_le_pow_right (by omega : 0 < 2) hk)
theorem sA_inj {a b : Nat} (ha : a < 18446744073709551616) (hb : b < 18446744073709551616) (h : sA a = sA b) : a = b := by
  have := mulA_inj _ _ (xs_lt 30 a ha) (xs_lt 30 b hb) h; exact xs_inj 30 a b (lt_pow 30 ha (by decide)) (lt_pow 30 hb (by decide)) this
theorem sB_inj {a b : Nat} (ha : a < 18446744073709551616) (hb : b < 18446744073709551616) (h : sB a = sB b) : a = b := by
  have := mulB_inj _ _ (xs_lt 27 a ha) (xs_lt 27 b hb) h; exact xs_inj 27 a b (lt_pow 27 ha (by decide)) (lt_pow 27 hb (by decide)) this
theorem sC_inj {a b : Nat} (ha : a < 18446744073709551616) (hb : b < 18446744073709551616) (h : sC a = sC b) : a = b :=
  xs_inj 31 a b (lt_pow 31 ha (by decide)) (lt_pow 31 hb (by decide)) h
theorem sD_inj {a b : Nat} (ha : a < 18446744073709551616) (hb : b < 18446744073709551616) (h : sD a = sD b) : a = b := by
  unfold sD at h; omega
theorem rankN_inj {n m : Nat} (hn : n < 18446744073709551616) (hm : m < 18446744073709551616) (h : rankN n = rankN m) : n = m :=
  sD_inj hn hm (sA_inj (sD_lt n) (sD_lt m) (sB_inj (sA_lt _) (sA_lt _) (sC_inj (sB_lt _) (sB_lt _) h)))
theorem xorNat (k x : Nat) (h : x < 18446744073709551616) : bits .xor .u64 (x : Int) ((x : Int) / ((2 ^ k : Nat) : Int)) = ((x ^^^ x >>> k : Nat) : Int) := by
  rw [xorShift_u64 x (2 ^ k) h, Nat.shiftRight_eq_div_pow]
theorem mixA_nat (a : Nat) (h : a < 18446744073709551616) : mixA (a : Int) = (sA a : Int) := by
  have e1 := xorNat 30 a h; rw [show ((2 ^ 30 : Nat) : Int) = 1073741824 from rfl] at e1; unfold mixA sA; rw [e1, IntKind.wrap_u64]; omega
theorem mixB_nat (a : Nat) (h : a < 18446744073709551616) : mixB (a : Int) = (sB a : Int) := by
  have e1 := xorNat 27 a h; rw [show ((2 ^ 27 : Nat) : Int) = 134217728 from rfl] at e1; unfold mixB sB; rw [e1, IntKind.wrap_u64]; omega
theorem mixC_nat (a : Nat) (h : a < 18446744073709551616) : mixC (a : Int) = (sC a : Int) := by
  have e1 := xorNat 31 a h; rw [show ((2 ^ 31 : Nat) : Int) = 2147483648 from rfl] at e1; unfold mixC sC; exact e1
theorem rankV_nat (n : Nat) : rankV (n : Int) = (rankN n : Int) := by
  have e0 : IntKind.u64.wrap (IntKind.u64.wrap (n : Int) + 11400714819323198485) = (sD n : Int) := by
    rw [IntKind.wrap_u64, IntKind.wrap_u64]; unfold sD; omega
  unfold rankV rankN; rw [e0, mixA_nat _ (sD_lt n), mixB_nat _ (sA_lt _), mixC_nat _ (sB_lt _)]
theorem rank_inj {a b : Int} (ha : 0 <= a /\ a <= 1152921504606846976) (hb : 0 <= b /\ b <= 1152921504606846976) (h : rankV a = rankV b) : a = b := by
  obtain ⟨n, rfl⟩ := Int.eq_ofNat_of_zero_le ha.1; obtain ⟨m, rfl⟩ := Int.eq_ofNat_of_zero_le hb.1; rw [rankV_nat n, rankV_nat m] at h; have := rankN_inj (n := n) (m := m) (by omega) (by omega) (by exact_mod_cast h); omega
open Go.RowKit
theorem info_parts {P : Program} {t : TypeId} {z : Option Value} {sz by' : Nat} (h : (P.info? t).map (fun i => (i.zero, i.size, i.bytes)) = some (z, sz, by')) : ∃ i, P.info? t = some i /\ i.zero = z /\ i.size = sz /\ i.bytes = by' := by
  cases hi : P.info? t with
  | none => rw [hi] at h; simp at h
  | some i => rw [hi] at h; simp at h; exact ⟨i, rfl, h.1, h.2.1, h.2.2⟩
theorem info36 : (Tryz.prog.info? 106).map (fun i => (i.zero, i.size, i.bytes)) = some (some (.agg #[.int .i64 0, .int .i64 0, .int .i64 0, .int .i64 0, .int .i64 0, .int .i64 0, .int .i64 0, .int .i64 0, .int .i64 0]), 9, 72) := by kernel_rfl
def ptRow (p : Nat -> Int) : List Value := [.int .i64 (p 0), .int .i64 (p 1), .int .i64 (p 2), .int .i64 (p 3), .int .i64 (p 4), .int .i64 (p 5), .int .i64 (p 6), .int .i64 (p 7), .int .i64 (p 8)]
theorem ptRow_at (p : Nat -> Int) (j : Nat) (hj : j < 9) : (ptRow p)[j]? = some (.int .i64 (p j)) := by
  match j, hj with
  | 0, _ | 1, _ | 2, _ | 3, _ | 4, _ | 5, _ | 6, _ | 7, _ | 8, _ => rfl
theorem ptRow_wide (p : Nat -> Int) : (ptRow p).length = 9 /\ ∀ u ∈ ptRow p, u.oneCell' = true := by
  refine ⟨rfl, fun u hu => ?_⟩; simp [ptRow] at hu
  rcases hu with rfl | rfl | rfl | rfl | rfl | rfl | rfl | rfl | rfl <;> rfl
def ptRows (l : List (Nat -> Int)) : List (List Value) := l.map ptRow
theorem ptRows_wide (l : List (Nat -> Int)) : Wide 9 (ptRows l) := fun r hr => by
  obtain ⟨p, _, rfl⟩ := List.mem_map.1 hr; exact ptRow_wide p
theorem ptRows_length (l : List (Nat -> Int)) : (ptRows l).length = l.length := List.length_map ..
def ptList (F : Nat -> Nat -> Int) (n : Nat) : List (Nat -> Int) := (List.range n).map F
theorem ptList_length (F : Nat -> Nat -> Int) (n : Nat) : (ptList F n).length = n := by simp [ptList]
theorem recs9_rows {w : World} {b off n : Nat} {F : Nat -> Nat -> Int} (h : recs9 w b off n F) : RowsAt w b off 9 (ptRows (ptList F n)) := fun i r hi j hj => by
  have hil : i < n := by
    have := (List.getElem?_eq_some_iff.1 hi).1; rwa [ptRows_length, ptList_length] at this
  simp [ptRows, ptList, hil] at hi; subst hi; rw [ptRow_at _ _ hj]; exact h i hil j hj
set_option maxRecDepth 100000 in
theorem clone_any (b off n c : Nat) (F : Nat -> Nat -> Int) (w : World) (hn : n <= 1000000000000) (hbw : b < w.heap.size) (hr : recs9 w b off n F) :
    Calls Tryz.prog 57 #[.slice (some ⟨b, off, none⟩) n c] w fun r w' => (∃ v, r = .returned v /\ OwnR w' w.heap.size 106 9 v (ptRows (ptList F n))) /\ Below w.heap.size w w' := by
  have HC := hid (recs9_rows hr); obtain ⟨i0, hi, hz0, hz1, hz2⟩ := info_parts info36; have HI := hid hi; have HZ0 := hid hz0; have HZ1 := hid hz1; have HZ2 := hid hz2; clear hi hz0 hz1 hz2 hr; have HLEN := hid (show (ptRows (ptList F n)).length = n by rw [ptRows_length, ptList_length]); have heq := fun w => Lib.run_eql_slice_nil (P := Tryz.prog) w 35 106 (some ⟨b, off, none⟩) n c 0 0 Tryz.underlying35
  go_enter Tryz.func57, Tryz.ntmps57; have hown0 : OwnR (w.alloc (.cells #[] 106)) w.heap.size 106 9 (.slice (some ⟨w.heap.size, 0, none⟩) 0 0) [] := ⟨Wide.nil 9, rfl, Or.inr ⟨_, 0, #[], rfl, Nat.le_refl _, (by repeat' (first | (refine heap_alloc_at _ _ _ ?_; (first | rfl | (simp; done) | (simp; omega))) | (refine heap_alloc_past _ _ _ _ ?_))), Nat.le_refl _, by unfold maxLen; omega, rfl, rfl⟩⟩; have HOWN := hid hown0; clear hown0; go_wp2_with (at_builtin; refine wpList_append_rows rfl (.tmp 5) (.tmp 6) 35 rfl w.heap.size 106 i0 _ 9 72 Tryz.underlying35 HI.out HZ0.out HZ1.out HZ2.out rfl (by decide) _ [] _ rfl HOWN.out b off n c HLEN.out.symm rfl (HC.out.still ((Below.refl _ _).alloc (Nat.le_refl _) _) hbw) (ptRows_wide _) (by rw [HLEN.out]; simp; unfold maxLen; omega) (by rw [HLEN.out]; simp; omega) (by simp) ?_; intro v' w1 hown hgrow halt); go_ret; refine ⟨⟨v', rfl, hown⟩, ?_⟩; exact ((Below.refl _ _).alloc (Nat.le_refl _) _).grown hgrow (by simp) (fun k hk => by injection hk with hk; subst hk; exact Nat.le_refl _)
open Go.RowKit
open Go.RowKit
def idxV (n : Int) (L : Nat) : Int := min ((n + 268435456) / 2 ^ (29 - L)) (2 ^ L - 1)
set_option maxRecDepth 100000 in
theorem index_any (n : Int) (L : Nat) (hL : L <= 12) (hn : -268435456 <= n /\ n <= 268435456) (w : World) :
    Calls Tryz.prog 89 #[.int .i64 n, .int .i64 L] w fun e w' => e = .returned (.int .i64 (idxV n L)) /\ Below w.heap.size w w' := by
  match L, hL with
  | 0, _ =>
    have hv : idxV n 0 = min ((n + 268435456) / 536870912) 0 := rfl; have HV := hid hv; clear hv; go_enter Tryz.func89, Tryz.ntmps89; go_wp2_with fail
    all_goals (go_ret; refine ⟨?_, Below.refl _ _⟩; show Ending.returned (Value.int .i64 _) = Ending.returned (Value.int .i64 _); rw [HV.out]; congr 2; omega)
  | 1, _ =>
    have hv : idxV n 1 = min ((n + 268435456) / 268435456) 1 := rfl; have HV := hid hv; clear hv; go_enter Tryz.func89, Tryz.ntmps89; go_wp2_with fail
    all_goals (go_ret; refine ⟨?_, Below.refl _ _⟩; show Ending.returned (Value.int .i64 _) = Ending.returned (Value.int .i64 _); rw [HV.out]; congr 2; omega)
  | 2, _ =>
    have hv : idxV n 2 = min ((n + 268435456) / 134217728) 3 := rfl; have HV := hid hv; clear hv; go_enter Tryz.func89, Tryz.ntmps89; go_wp2_with fail
    all_goals (go_ret; refine ⟨?_, Below.refl _ _⟩; show Ending.returned (Value.int .i64 _) = Ending.returned (Value.int .i64 _); rw [HV.out]; congr 2; omega)
  | 3, _ =>
    have hv : idxV n 3 = min ((n + 268435456) / 67108864) 7 := rfl; have HV := hid hv; clear hv; go_enter Tryz.func89, Tryz.ntmps89; go_wp2_with fail
    all_goals (go_ret; refine ⟨?_, Below.refl _ _⟩; show Ending.returned (Value.int .i64 _) = Ending.returned (Value.int .i64 _); rw [HV.out]; congr 2; omega)
  | 4, _ =>
    have hv : idxV n 4 = min ((n + 268435456) / 33554432) 15 := rfl; have HV := hid hv; clear hv; go_enter Tryz.func89, Tryz.ntmps89; go_wp2_with fail
    all_goals (go_ret; refine ⟨?_, Below.refl _ _⟩; show Ending.returned (Value.int .i64 _) = Ending.returned (Value.int .i64 _); rw [HV.out]; congr 2; omega)
  | 5, _ =>
    have hv : idxV n 5 = min ((n + 268435456) / 16777216) 31 := rfl; have HV := hid hv; clear hv; go_enter Tryz.func89, Tryz.ntmps89; go_wp2_with fail
    all_goals (go_ret; refine ⟨?_, Below.refl _ _⟩; show Ending.returned (Value.int .i64 _) = Ending.returned (Value.int .i64 _); rw [HV.out]; congr 2; omega)
  | 6, _ =>
    have hv : idxV n 6 = min ((n + 268435456) / 8388608) 63 := rfl; have HV := hid hv; clear hv; go_enter Tryz.func89, Tryz.ntmps89; go_wp2_with fail
    all_goals (go_ret; refine ⟨?_, Below.refl _ _⟩; show Ending.returned (Value.int .i64 _) = Ending.returned (Value.int .i64 _); rw [HV.out]; congr 2; omega)
  | 7, _ =>
    have hv : idxV n 7 = min ((n + 268435456) / 4194304) 127 := rfl; have HV := hid hv; clear hv; go_enter Tryz.func89, Tryz.ntmps89; go_wp2_with fail
    all_goals (go_ret; refine ⟨?_, Below.refl _ _⟩; show Ending.returned (Value.int .i64 _) = Ending.returned (Value.int .i64 _); rw [HV.out]; congr 2; omega)
  | 8, _ =>
    have hv : idxV n 8 = min ((n + 268435456) / 2097152) 255 := rfl; have HV := hid hv; clear hv; go_enter Tryz.func89, Tryz.ntmps89; go_wp2_with fail
    all_goals (go_ret; refine ⟨?_, Below.refl _ _⟩; show Ending.returned (Value.int .i64 _) = Ending.returned (Value.int .i64 _); rw [HV.out]; congr 2; omega)
  | 9, _ =>
    have hv : idxV n 9 = min ((n + 268435456) / 1048576) 511 := rfl; have HV := hid hv; clear hv; go_enter Tryz.func89, Tryz.ntmps89; go_wp2_with fail
    all_goals (go_ret; refine ⟨?_, Below.refl _ _⟩; show Ending.returned (Value.int .i64 _) = Ending.returned (Value.int .i64 _); rw [HV.out]; congr 2; omega)
  | 10, _ =>
    have hv : idxV n 10 = min ((n + 268435456) / 524288) 1023 := rfl; have HV := hid hv; clear hv; go_enter Tryz.func89, Tryz.ntmps89; go_wp2_with fail
    all_goals (go_ret; refine ⟨?_, Below.refl _ _⟩; show Ending.returned (Value.int .i64 _) = Ending.returned (Value.int .i64 _); rw [HV.out]; congr 2; omega)
  | 11, _ =>
    have hv : idxV n 11 = min ((n + 268435456) / 262144) 2047 := rfl; have HV := hid hv; clear hv; go_enter Tryz.func89, Tryz.ntmps89; go_wp2_with fail
    all_goals (go_ret; refine ⟨?_, Below.refl _ _⟩; show Ending.returned (Value.int .i64 _) = Ending.returned (Value.int .i64 _); rw [HV.out]; congr 2; omega)
  | 12, _ =>
    have hv : idxV n 12 = min ((n + 268435456) / 131072) 4095 := rfl; have HV := hid hv; clear hv; go_enter Tryz.func89, Tryz.ntmps89; go_wp2_with fail
    all_goals (go_ret; refine ⟨?_, Below.refl _ _⟩; show Ending.returned (Value.int .i64 _) = Ending.returned (Value.int .i64 _); rw [HV.out]; congr 2; omega)
  | L + 13, h => omega
theorem size39 : (Tryz.prog.info? 99).map (·.size) = some 4 := by kernel_rfl
def cellC (L : Nat) (x y z : Int) : Array Value := #[.int .i64 (L : Int), .int .i64 (idxV x L), .int .i64 (idxV y L), .int .i64 (idxV z L)]
set_option maxRecDepth 100000 in
theorem xCell_any (id x y zl zh wd nm of cl : Int) (L : Nat) (hL : L <= 12) (hx : -268435456 <= x /\ x <= 268435456) (hy : -268435456 <= y /\ y <= 268435456) (hz : -268435456 <= zl /\ zl <= 268435456) (w : World) :
    Calls Tryz.prog 65 #[.agg #[.int .i64 id, .int .i64 x, .int .i64 y, .int .i64 zl, .int .i64 zh, .int .i64 wd, .int .i64 nm, .int .i64 of, .int .i64 cl], .int .i64 L] w fun e w' => e = .returned (.agg (cellC L x y zl)) /\ Below w.heap.size w w' := by
  have HIX := hid (fun W => index_any x L hL hx W); have HIY := hid (fun W => index_any y L hL hy W); have HIZ := hid (fun W => index_any zl L hL hz W); go_enter Tryz.func65, Tryz.ntmps65; go_wp2_with fail; refine gen_world (fun V hV => ?_); have YP := hid (show V.heap[w.heap.size]? = some (.cells #[.int .i64 id, .int .i64 x, .int .i64 y, .int .i64 zl, .int .i64 zh, .int .i64 wd, .int .i64 nm, .int .i64 of, .int .i64 cl] 106) by rw [hV]; exact heap_alloc_past _ _ _ _ (heap_alloc_at _ _ _ rfl)); have YK := hid (show V.heap[w.heap.size + 1]? = some (.cells #[.int .i64 0, .int .i64 0, .int .i64 0, .int .i64 0] 99) by rw [hV]; exact heap_alloc_at _ _ _ (by simp)); have YW := hid (show Below w.heap.size w V by rw [hV]; (repeat' (first | (with_reducible first | exact Below.refl _ _ | assumption | refine Below.alloc ?_ ?_ _ | refine Below.drew ?_ | refine below_drewN ?_ _ | refine Below.setCell ?_ ?_ _ | refine below_setRow ?_ ?_ _) | go_size))); have YZ : V.heap.size = w.heap.size + 1 + 1 := by rw [hV]; simp
  clear hV; refine gen_act (fun A0 hA => ?_); refine wp_region_last (by kernel_rfl) (by kernel_rfl) [some 5, some 6, some 7, some 8, some 9, some 10, some 11, some 12, some 13, some 14, some 15, some 16, some 17, some 18, some 19, none] rfl (by decide) 15 rfl (by kernel_rfl) (by kernel_rfl)
    [IsV (.int .i64 (L : Int)), IsV (.pointer (some ⟨w.heap.size, 1, none⟩)), IsV (.int .i64 x), IsV (.int .i64 (L : Int)), IsV (.int .i64 (idxV x L)), IsV (.pointer (some ⟨w.heap.size, 2, none⟩)), IsV (.int .i64 y), IsV (.int .i64 (L : Int)), IsV (.int .i64 (idxV y L)), IsV (.pointer (some ⟨w.heap.size, 3, none⟩)), IsV (.pointer (some ⟨w.heap.size, 3, none⟩)), IsV (.int .i64 zl), IsV (.int .i64 (L : Int)), IsV (.int .i64 (idxV zl L)), IsV (.agg #[.int .i64 (L : Int), .int .i64 (idxV x L), .int .i64 (idxV y L), .int .i64 (idxV zl L)])]
    ⟨IsV.stb _, IsV.stb _, IsV.stb _, IsV.stb _, IsV.stb _, IsV.stb _, IsV.stb _, IsV.stb _, IsV.stb _, IsV.stb _, IsV.stb _, IsV.stb _, IsV.stb _, IsV.stb _, IsV.stb _, trivial⟩ ?hs1_1_V7 ?hlast_1_V7
  case hs1_1_V7 =>
    refine ⟨?_, ?_, ?_, ?_, ?_, ?_, ?_, ?_, ?_, ?_, ?_, ?_, ?_, ?_, ?_, trivial⟩
    · intro K us W hK0 hB hd; have hK := hid hK0; clear hK0; have HBW := hid hB; have hsW := hB.size; have GB := hid (YW.out.trans (hB.mono YW.out.size)); clear hd; simp only [putF]; rw [hA]; go_frame; go_wp2_with fail; exact hK.out _ _ _ (by rw [hA]; simp only [putF]; kernel_rfl) (Below.refl _ _) rfl
    · intro K us W hK0 hB hd; have hK := hid hK0; clear hK0; have HBW := hid hB; have hsW := hB.size; have GB := hid (YW.out.trans (hB.mono YW.out.size)); clear hd; simp only [putF]; rw [hA]; go_frame; go_wp2_with fail; exact hK.out _ _ _ (by rw [hA]; simp only [putF]; kernel_rfl) (Below.refl _ _) rfl
    · intro K us W hK0 hB hd; have hK := hid hK0; clear hK0; have HBW := hid hB; have hsW := hB.size; have GB := hid (YW.out.trans (hB.mono YW.out.size)); have e1 : us 1 = _ := hd ⟨1, Ground.data⟩ (by simp) rfl; clear hd; have G0 := hid (heap_still hB YP.out); have c0 : W.cell? ⟨w.heap.size, 1, none⟩ = some (.int .i64 x) := (cell_row (j := 1) G0.out).trans rfl; simp only [putF]; rw [hA, e1]; go_frame; go_wp2_with fail; exact hK.out _ _ _ (by rw [hA]; simp only [putF]; rw [e1]; kernel_rfl) (Below.refl _ _) rfl
    · intro K us W hK0 hB hd; have hK := hid hK0; clear hK0; have HBW := hid hB; have hsW := hB.size; have GB := hid (YW.out.trans (hB.mono YW.out.size)); clear hd; simp only [putF]; rw [hA]; go_frame; go_wp2_with fail; exact hK.out _ _ _ (by rw [hA]; simp only [putF]; kernel_rfl) (Below.refl _ _) rfl
    · intro K us W hK0 hB hd; have hK := hid hK0; clear hK0; have HBW := hid hB; have hsW := hB.size; have GB := hid (YW.out.trans (hB.mono YW.out.size)); have e2 : us 2 = _ := hd ⟨2, Ground.data⟩ (by simp) rfl; have e3 : us 3 = _ := hd ⟨3, Ground.data⟩ (by simp) rfl; clear hd; simp only [putF]; rw [hA, e2, e3]; go_frame; go_wp2_with fail; refine (HIX.out W).mono ?_; rintro r W' ⟨rfl, hb⟩; go_wp2_with fail; exact hK.out _ _ _ (by rw [hA]; simp only [putF]; rw [e2, e3]; kernel_rfl) hb rfl
    · intro K us W hK0 hB hd; have hK := hid hK0; clear hK0; have HBW := hid hB; have hsW := hB.size; have GB := hid (YW.out.trans (hB.mono YW.out.size)); clear hd; simp only [putF]; rw [hA]; go_frame; go_wp2_with fail; exact hK.out _ _ _ (by rw [hA]; simp only [putF]; kernel_rfl) (Below.refl _ _) rfl
    · intro K us W hK0 hB hd; have hK := hid hK0; clear hK0; have HBW := hid hB; have hsW := hB.size; have GB := hid (YW.out.trans (hB.mono YW.out.size)); have e5 : us 5 = _ := hd ⟨5, Ground.data⟩ (by simp) rfl; clear hd; have G0 := hid (heap_still hB YP.out); have c0 : W.cell? ⟨w.heap.size, 2, none⟩ = some (.int .i64 y) := (cell_row (j := 2) G0.out).trans rfl; simp only [putF]; rw [hA, e5]; go_frame; go_wp2_with fail; exact hK.out _ _ _ (by rw [hA]; simp only [putF]; rw [e5]; kernel_rfl) (Below.refl _ _) rfl
    · intro K us W hK0 hB hd; have hK := hid hK0; clear hK0; have HBW := hid hB; have hsW := hB.size; have GB := hid (YW.out.trans (hB.mono YW.out.size)); clear hd; simp only [putF]; rw [hA]; go_frame; go_wp2_with fail; exact hK.out _ _ _ (by rw [hA]; simp only [putF]; kernel_rfl) (Below.refl _ _) rfl
    · intro K us W hK0 hB hd; have hK := hid hK0; clear hK0; have HBW := hid hB; have hsW := hB.size; have GB := hid (YW.out.trans (hB.mono YW.out.size)); have e6 : us 6 = _ := hd ⟨6, Ground.data⟩ (by simp) rfl; have e7 : us 7 = _ := hd ⟨7, Ground.data⟩ (by simp) rfl; clear hd; simp only [putF]; rw [hA, e6, e7]; go_frame; go_wp2_with fail; refine (HIY.out W).mono ?_; rintro r W' ⟨rfl, hb⟩; go_wp2_with fail; exact hK.out _ _ _ (by rw [hA]; simp only [putF]; rw [e6, e7]; kernel_rfl) hb rfl
    · intro K us W hK0 hB hd; have hK := hid hK0; clear hK0; have HBW := hid hB; have hsW := hB.size; have GB := hid (YW.out.trans (hB.mono YW.out.size)); clear hd; simp only [putF]; rw [hA]; go_frame; go_wp2_with fail; exact hK.out _ _ _ (by rw [hA]; simp only [putF]; kernel_rfl) (Below.refl _ _) rfl
    · intro K us W hK0 hB hd; have hK := hid hK0; clear hK0; have HBW := hid hB; have hsW := hB.size; have GB := hid (YW.out.trans (hB.mono YW.out.size)); have e9 : us 9 = _ := hd ⟨9, Ground.data⟩ (by simp) rfl; clear hd; simp only [putF]; rw [hA, e9]; go_frame; go_wp2_with fail; exact hK.out _ _ _ (by rw [hA]; simp only [putF]; rw [e9]; kernel_rfl) (Below.refl _ _) rfl
    · intro K us W hK0 hB hd; have hK := hid hK0; clear hK0; have HBW := hid hB; have hsW := hB.size; have GB := hid (YW.out.trans (hB.mono YW.out.size)); have e10 : us 10 = _ := hd ⟨10, Ground.data⟩ (by simp) rfl; clear hd; have G0 := hid (heap_still hB YP.out); have c0 : W.cell? ⟨w.heap.size, 3, none⟩ = some (.int .i64 zl) := (cell_row (j := 3) G0.out).trans rfl; simp only [putF]; rw [hA, e10]; go_frame; go_wp2_with fail; exact hK.out _ _ _ (by rw [hA]; simp only [putF]; rw [e10]; kernel_rfl) (Below.refl _ _) rfl
    · intro K us W hK0 hB hd; have hK := hid hK0; clear hK0; have HBW := hid hB; have hsW := hB.size; have GB := hid (YW.out.trans (hB.mono YW.out.size)); clear hd; simp only [putF]; rw [hA]; go_frame; go_wp2_with fail; exact hK.out _ _ _ (by rw [hA]; simp only [putF]; kernel_rfl) (Below.refl _ _) rfl
    · intro K us W hK0 hB hd; have hK := hid hK0; clear hK0; have HBW := hid hB; have hsW := hB.size; have GB := hid (YW.out.trans (hB.mono YW.out.size)); have e11 : us 11 = _ := hd ⟨11, Ground.data⟩ (by simp) rfl; have e12 : us 12 = _ := hd ⟨12, Ground.data⟩ (by simp) rfl; clear hd; simp only [putF]; rw [hA, e11, e12]; go_frame; go_wp2_with fail; refine (HIZ.out W).mono ?_; rintro r W' ⟨rfl, hb⟩; go_wp2_with fail; exact hK.out _ _ _ (by rw [hA]; simp only [putF]; rw [e11, e12]; kernel_rfl) hb rfl
    · intro K us W hK0 hB hd; have hK := hid hK0; clear hK0; have HBW := hid hB; have hsW := hB.size; have GB := hid (YW.out.trans (hB.mono YW.out.size)); have e0 : us 0 = _ := hd ⟨0, Ground.data⟩ (by simp) rfl; have e4 : us 4 = _ := hd ⟨4, Ground.data⟩ (by simp) rfl; have e8 : us 8 = _ := hd ⟨8, Ground.data⟩ (by simp) rfl; have e13 : us 13 = _ := hd ⟨13, Ground.data⟩ (by simp) rfl; clear hd; simp only [putF]; rw [hA, e0, e4, e8, e13]; go_frame; go_wp2_with fail; exact hK.out _ _ _ (by rw [hA]; simp only [putF]; rw [e0, e4, e8, e13]; kernel_rfl) (Below.refl _ _) rfl
  intro K us V7 hK0 hB hp; have hK := hid hK0; clear hK0; have e14 : us 14 = _ := hp 14 (by decide); have HBV7 := hid (YW.out.trans (hB.mono YW.out.size)); have HSV7 := hid (fun n x => @heap_still _ _ n x hB); have hzV7 := hB.size; have hbV7 := hid hB; clear hp; simp only [putF]; rw [hA, e14]
  skip
  go_frame; go_wp2_with (refine wpList_store_at rfl 99 (.tmp 4) (.tmp 19) rfl rfl rfl (HSV7.out _ _ YK.out) size39 rfl rfl rfl ?_); refine hK.out undef _ _ (by rw [hA]; simp only [putF]; rw [e14]; kernel_rfl) ?_; clear hK hB hA e14; go_wp2_with fail; refine bodyPost_ret (results_at1 rfl rfl (setRow_heap _ _ _ _ _ _ (HSV7.out _ _ YK.out)) Tryz.underlying99 rfl size39 rfl) rfl ⟨rfl, below_setRow HBV7.out (by omega) _⟩
open Go.RowKit
open Go.RowKit
open Go.RowKit
theorem point_coords {id x y zl zh wd nm of cl : Int} (h : (pointB id x y zl zh wd nm of && inB 0 255 cl) = true) : (-268435456 <= x /\ x <= 268435456) /\ (-268435456 <= y /\ y <= 268435456) /\ (-268435456 <= zl /\ zl <= 268435456) := by
  simp [pointB, placeB, inB] at h; omega
open Go.RowKit
end Go.Proofs.YtcclpdfmmdonpaaGreat
