/- Texts of the seat Ytpablkmdpoombaa, turned to this one by wip/port.py: Val. -/
import Derived.Test.YtpfighhhemnhaaaGreatA
import Derived.Lib.QuietBelow
import Derived.Laws.Bits64b
import Derived.Laws.Shifts
import Derived.Lib.SliceRun
import Derived.Lib.BitFns
/- Val -/
namespace Go.Proofs.YtpfighhhemnhaaaGreat
open Go.RowKit

def inB (lo hi : Int) (z : Int) : Bool := decide (lo ≤ z) && decide (z ≤ hi)
theorem within_any (a b c : Int) (w : World) :
    Calls Tryz.prog 132 #[.int .i64 a, .int .i64 b, .int .i64 c] w fun e w' => e = .returned (.bool (inB a c b)) ∧ w = w' := by
  by_cases h1 : a ≤ b <;> by_cases h2 : b ≤ c
  all_goals
    go_enter Tryz.func132, Tryz.ntmps132
    go_wp2
    go_ret
    simp [inB, *]
theorem size174 : (Tryz.prog.info? 49).map (·.size) = some 2 := by kernel_rfl
theorem place_any (id x y zl zh wd nm of cl : Int) (w : World) :
    Calls Tryz.prog 265 #[.agg #[.int .i64 id, .int .i64 x, .int .i64 y, .int .i64 zl, .int .i64 zh, .int .i64 wd, .int .i64 nm, .int .i64 of, .int .i64 cl]] w fun e w' => e = .returned (.agg #[.int .i64 x, .int .i64 y]) ∧ Below w.heap.size w w' := by
  go_enter Tryz.func265, Tryz.ntmps265
  go_wp2_with fail
  refine bodyPost_ret (results_at1 rfl rfl (heap_alloc_at _ _ _ (by simp)) Tryz.underlying49 rfl size174 rfl) rfl ⟨rfl, ?_⟩
  (repeat' (first | (with_reducible exact Below.refl _ _) | (with_reducible assumption) | (with_reducible refine Below.alloc ?_ ?_ _) | (with_reducible refine Below.drew ?_) | (with_reducible refine below_drewN ?_ _) | (with_reducible refine Below.setCell ?_ ?_ _) | (with_reducible refine below_setRow ?_ ?_ _) | go_size))
def placeB (x y : Int) : Bool := inB (-268435456) 268435456 x && inB (-268435456) 268435456 y
theorem vplace_any (x y : Int) (w : World) :
    Calls Tryz.prog 264 #[.agg #[.int .i64 x, .int .i64 y]] w fun e w' => e = .returned (.bool (placeB x y)) ∧ Below w.heap.size w w' := by
  by_cases h1 : inB (-268435456) 268435456 x = true
  · have HS := hid (show placeB x y = inB (-268435456) 268435456 y by simp [placeB, h1])
    have H1 := hid h1
    clear h1
    go_enter Tryz.func264, Tryz.ntmps264
    go_wp2_with fail
    refine (within_any _ _ _ _).mono ?_
    rintro r w1 ⟨rfl, rfl⟩
    rw [H1.out]
    go_wp2_with fail
    refine (within_any _ _ _ _).mono ?_
    rintro r w1 ⟨rfl, rfl⟩
    go_wp2_with fail
    go_ret
    refine ⟨by rw [HS.out]; rfl, ?_⟩
    (try have hB0 := HB.out)
    (repeat' (first | (with_reducible exact Below.refl _ _) | (with_reducible assumption) | (with_reducible refine Below.alloc ?_ ?_ _) | (with_reducible refine Below.drew ?_) | (with_reducible refine below_drewN ?_ _) | (with_reducible refine Below.setCell ?_ ?_ _) | (with_reducible refine below_setRow ?_ ?_ _) | go_size))
  · have HS := hid (show placeB x y = false by simp [placeB, h1])
    have H1 := hid (Bool.eq_false_iff.2 h1)
    clear h1
    go_enter Tryz.func264, Tryz.ntmps264
    go_wp2_with fail
    refine (within_any _ _ _ _).mono ?_
    rintro r w1 ⟨rfl, rfl⟩
    rw [H1.out]
    go_wp2_with fail
    go_ret
    refine ⟨by rw [HS.out]; rfl, ?_⟩
    (try have hB0 := HB.out)
    (repeat' (first | (with_reducible exact Below.refl _ _) | (with_reducible assumption) | (with_reducible refine Below.alloc ?_ ?_ _) | (with_reducible refine Below.drew ?_) | (with_reducible refine below_drewN ?_ _) | (with_reducible refine Below.setCell ?_ ?_ _) | (with_reducible refine below_setRow ?_ ?_ _) | go_size))
/-- a valid point, but for its class -/
def pointB (id x y zl zh wd nm of : Int) : Bool := inB 0 1152921504606846976 id && placeB x y && inB (-268435456) zh zl && decide (zh ≤ 268435456) && inB 0 268435456 wd && inB 1 of nm && decide (of ≤ 15)
set_option maxRecDepth 100000 in
set_option maxHeartbeats 800000 in
theorem xPoint_any (id x y zl zh wd nm of cl : Int) (w : World) :
    Calls Tryz.prog 159 #[.agg #[.int .i64 id, .int .i64 x, .int .i64 y, .int .i64 zl, .int .i64 zh, .int .i64 wd, .int .i64 nm, .int .i64 of, .int .i64 cl]] w fun e w' => e = .returned (.bool (pointB id x y zl zh wd nm of)) ∧ Below w.heap.size w w' := by
  have HB := hid (Below.refl w.heap.size w)
  by_cases h1 : inB 0 1152921504606846976 id = true
  · by_cases h2 : placeB x y = true
    · by_cases h3 : inB (-268435456) zh zl = true
      · by_cases h4 : decide (zh ≤ 268435456) = true
        · by_cases h5 : inB 0 268435456 wd = true
          · by_cases h6 : inB 1 of nm = true
            · have HS := hid (show pointB id x y zl zh wd nm of = decide (of ≤ 15) by simp [pointB, h1, h2, h3, h4, h5, h6])
              have H1 := hid h1
              have H2 := hid h2
              have H3 := hid h3
              have H4 := hid h4
              have H5 := hid h5
              have H6 := hid h6
              clear h1 h2 h3 h4 h5 h6
              have D4 := H4.out
              go_enter Tryz.func159, Tryz.ntmps159
              go_wp2_with fail
              refine (within_any _ _ _ _).mono ?_
              rintro r w9 ⟨rfl, rfl⟩
              rw [H1.out]
              go_wp2_with fail
              refine (place_any _ _ _ _ _ _ _ _ _ _).mono ?_
              rintro r w1 ⟨rfl, hb1⟩
              go_wp2_with fail
              refine (vplace_any _ _ _).mono ?_
              rintro r w2 ⟨rfl, hb2⟩
              have HP := hid (heap_still hb2 (heap_still hb1 (heap_alloc_at w (.cells #[.int .i64 id, .int .i64 x, .int .i64 y, .int .i64 zl, .int .i64 zh, .int .i64 wd, .int .i64 nm, .int .i64 of, .int .i64 cl] 109) _ rfl)))
              have c3 : w2.cell? ⟨w.heap.size, 3, none⟩ = some (.int .i64 zl) := (cell_row (j := 3) HP.out).trans rfl
              have c4 : w2.cell? ⟨w.heap.size, 4, none⟩ = some (.int .i64 zh) := (cell_row (j := 4) HP.out).trans rfl
              have c5 : w2.cell? ⟨w.heap.size, 5, none⟩ = some (.int .i64 wd) := (cell_row (j := 5) HP.out).trans rfl
              have c6 : w2.cell? ⟨w.heap.size, 6, none⟩ = some (.int .i64 nm) := (cell_row (j := 6) HP.out).trans rfl
              have c7 : w2.cell? ⟨w.heap.size, 7, none⟩ = some (.int .i64 of) := (cell_row (j := 7) HP.out).trans rfl
              have HB := hid (show Below w.heap.size w w2 from ((Below.refl _ _).alloc (Nat.le_refl _) _).trans ((hb1.mono (by simp)).trans (hb2.mono (by have := hb1.size; simp at this; omega))))
              clear hb1 hb2
              rw [H2.out]
              go_wp2_with fail
              refine (within_any _ _ _ _).mono ?_
              rintro r w9 ⟨rfl, rfl⟩
              rw [H3.out]
              go_wp2_with fail
              refine (within_any _ _ _ _).mono ?_
              rintro r w9 ⟨rfl, rfl⟩
              rw [H5.out]
              go_wp2_with fail
              refine (within_any _ _ _ _).mono ?_
              rintro r w9 ⟨rfl, rfl⟩
              rw [H6.out]
              go_wp2_with fail
              go_ret
              refine ⟨by rw [HS.out]; rfl, ?_⟩
              (try have hB0 := HB.out)
              (repeat' (first | (with_reducible exact Below.refl _ _) | (with_reducible assumption) | (with_reducible refine Below.alloc ?_ ?_ _) | (with_reducible refine Below.drew ?_) | (with_reducible refine below_drewN ?_ _) | (with_reducible refine Below.setCell ?_ ?_ _) | (with_reducible refine below_setRow ?_ ?_ _) | go_size))
            · have HS := hid (show pointB id x y zl zh wd nm of = false by simp [pointB, h1, h2, h3, h4, h5, h6])
              have H1 := hid h1
              have H2 := hid h2
              have H3 := hid h3
              have H4 := hid h4
              have H5 := hid h5
              have H6 := hid (Bool.eq_false_iff.2 h6)
              clear h1 h2 h3 h4 h5 h6
              have D4 := H4.out
              go_enter Tryz.func159, Tryz.ntmps159
              go_wp2_with fail
              refine (within_any _ _ _ _).mono ?_
              rintro r w9 ⟨rfl, rfl⟩
              rw [H1.out]
              go_wp2_with fail
              refine (place_any _ _ _ _ _ _ _ _ _ _).mono ?_
              rintro r w1 ⟨rfl, hb1⟩
              go_wp2_with fail
              refine (vplace_any _ _ _).mono ?_
              rintro r w2 ⟨rfl, hb2⟩
              have HP := hid (heap_still hb2 (heap_still hb1 (heap_alloc_at w (.cells #[.int .i64 id, .int .i64 x, .int .i64 y, .int .i64 zl, .int .i64 zh, .int .i64 wd, .int .i64 nm, .int .i64 of, .int .i64 cl] 109) _ rfl)))
              have c3 : w2.cell? ⟨w.heap.size, 3, none⟩ = some (.int .i64 zl) := (cell_row (j := 3) HP.out).trans rfl
              have c4 : w2.cell? ⟨w.heap.size, 4, none⟩ = some (.int .i64 zh) := (cell_row (j := 4) HP.out).trans rfl
              have c5 : w2.cell? ⟨w.heap.size, 5, none⟩ = some (.int .i64 wd) := (cell_row (j := 5) HP.out).trans rfl
              have c6 : w2.cell? ⟨w.heap.size, 6, none⟩ = some (.int .i64 nm) := (cell_row (j := 6) HP.out).trans rfl
              have c7 : w2.cell? ⟨w.heap.size, 7, none⟩ = some (.int .i64 of) := (cell_row (j := 7) HP.out).trans rfl
              have HB := hid (show Below w.heap.size w w2 from ((Below.refl _ _).alloc (Nat.le_refl _) _).trans ((hb1.mono (by simp)).trans (hb2.mono (by have := hb1.size; simp at this; omega))))
              clear hb1 hb2
              rw [H2.out]
              go_wp2_with fail
              refine (within_any _ _ _ _).mono ?_
              rintro r w9 ⟨rfl, rfl⟩
              rw [H3.out]
              go_wp2_with fail
              refine (within_any _ _ _ _).mono ?_
              rintro r w9 ⟨rfl, rfl⟩
              rw [H5.out]
              go_wp2_with fail
              refine (within_any _ _ _ _).mono ?_
              rintro r w9 ⟨rfl, rfl⟩
              rw [H6.out]
              go_wp2_with fail
              go_ret
              refine ⟨by rw [HS.out]; rfl, ?_⟩
              (try have hB0 := HB.out)
              (repeat' (first | (with_reducible exact Below.refl _ _) | (with_reducible assumption) | (with_reducible refine Below.alloc ?_ ?_ _) | (with_reducible refine Below.drew ?_) | (with_reducible refine below_drewN ?_ _) | (with_reducible refine Below.setCell ?_ ?_ _) | (with_reducible refine below_setRow ?_ ?_ _) | go_size))
          · have HS := hid (show pointB id x y zl zh wd nm of = false by simp [pointB, h1, h2, h3, h4, h5])
            have H1 := hid h1
            have H2 := hid h2
            have H3 := hid h3
            have H4 := hid h4
            have H5 := hid (Bool.eq_false_iff.2 h5)
            clear h1 h2 h3 h4 h5
            have D4 := H4.out
            go_enter Tryz.func159, Tryz.ntmps159
            go_wp2_with fail
            refine (within_any _ _ _ _).mono ?_
            rintro r w9 ⟨rfl, rfl⟩
            rw [H1.out]
            go_wp2_with fail
            refine (place_any _ _ _ _ _ _ _ _ _ _).mono ?_
            rintro r w1 ⟨rfl, hb1⟩
            go_wp2_with fail
            refine (vplace_any _ _ _).mono ?_
            rintro r w2 ⟨rfl, hb2⟩
            have HP := hid (heap_still hb2 (heap_still hb1 (heap_alloc_at w (.cells #[.int .i64 id, .int .i64 x, .int .i64 y, .int .i64 zl, .int .i64 zh, .int .i64 wd, .int .i64 nm, .int .i64 of, .int .i64 cl] 109) _ rfl)))
            have c3 : w2.cell? ⟨w.heap.size, 3, none⟩ = some (.int .i64 zl) := (cell_row (j := 3) HP.out).trans rfl
            have c4 : w2.cell? ⟨w.heap.size, 4, none⟩ = some (.int .i64 zh) := (cell_row (j := 4) HP.out).trans rfl
            have c5 : w2.cell? ⟨w.heap.size, 5, none⟩ = some (.int .i64 wd) := (cell_row (j := 5) HP.out).trans rfl
            have c6 : w2.cell? ⟨w.heap.size, 6, none⟩ = some (.int .i64 nm) := (cell_row (j := 6) HP.out).trans rfl
            have c7 : w2.cell? ⟨w.heap.size, 7, none⟩ = some (.int .i64 of) := (cell_row (j := 7) HP.out).trans rfl
            have HB := hid (show Below w.heap.size w w2 from ((Below.refl _ _).alloc (Nat.le_refl _) _).trans ((hb1.mono (by simp)).trans (hb2.mono (by have := hb1.size; simp at this; omega))))
            clear hb1 hb2
            rw [H2.out]
            go_wp2_with fail
            refine (within_any _ _ _ _).mono ?_
            rintro r w9 ⟨rfl, rfl⟩
            rw [H3.out]
            go_wp2_with fail
            refine (within_any _ _ _ _).mono ?_
            rintro r w9 ⟨rfl, rfl⟩
            rw [H5.out]
            go_wp2_with fail
            go_ret
            refine ⟨by rw [HS.out]; rfl, ?_⟩
            (try have hB0 := HB.out)
            (repeat' (first | (with_reducible exact Below.refl _ _) | (with_reducible assumption) | (with_reducible refine Below.alloc ?_ ?_ _) | (with_reducible refine Below.drew ?_) | (with_reducible refine below_drewN ?_ _) | (with_reducible refine Below.setCell ?_ ?_ _) | (with_reducible refine below_setRow ?_ ?_ _) | go_size))
        · have HS := hid (show pointB id x y zl zh wd nm of = false by simp [pointB, h1, h2, h3, h4])
          have H1 := hid h1
          have H2 := hid h2
          have H3 := hid h3
          have H4 := hid (Bool.eq_false_iff.2 h4)
          clear h1 h2 h3 h4
          have D4 := H4.out
          go_enter Tryz.func159, Tryz.ntmps159
          go_wp2_with fail
          refine (within_any _ _ _ _).mono ?_
          rintro r w9 ⟨rfl, rfl⟩
          rw [H1.out]
          go_wp2_with fail
          refine (place_any _ _ _ _ _ _ _ _ _ _).mono ?_
          rintro r w1 ⟨rfl, hb1⟩
          go_wp2_with fail
          refine (vplace_any _ _ _).mono ?_
          rintro r w2 ⟨rfl, hb2⟩
          have HP := hid (heap_still hb2 (heap_still hb1 (heap_alloc_at w (.cells #[.int .i64 id, .int .i64 x, .int .i64 y, .int .i64 zl, .int .i64 zh, .int .i64 wd, .int .i64 nm, .int .i64 of, .int .i64 cl] 109) _ rfl)))
          have c3 : w2.cell? ⟨w.heap.size, 3, none⟩ = some (.int .i64 zl) := (cell_row (j := 3) HP.out).trans rfl
          have c4 : w2.cell? ⟨w.heap.size, 4, none⟩ = some (.int .i64 zh) := (cell_row (j := 4) HP.out).trans rfl
          have c5 : w2.cell? ⟨w.heap.size, 5, none⟩ = some (.int .i64 wd) := (cell_row (j := 5) HP.out).trans rfl
          have c6 : w2.cell? ⟨w.heap.size, 6, none⟩ = some (.int .i64 nm) := (cell_row (j := 6) HP.out).trans rfl
          have c7 : w2.cell? ⟨w.heap.size, 7, none⟩ = some (.int .i64 of) := (cell_row (j := 7) HP.out).trans rfl
          have HB := hid (show Below w.heap.size w w2 from ((Below.refl _ _).alloc (Nat.le_refl _) _).trans ((hb1.mono (by simp)).trans (hb2.mono (by have := hb1.size; simp at this; omega))))
          clear hb1 hb2
          rw [H2.out]
          go_wp2_with fail
          refine (within_any _ _ _ _).mono ?_
          rintro r w9 ⟨rfl, rfl⟩
          rw [H3.out]
          go_wp2_with fail
          go_ret
          refine ⟨by rw [HS.out]; rfl, ?_⟩
          (try have hB0 := HB.out)
          (repeat' (first | (with_reducible exact Below.refl _ _) | (with_reducible assumption) | (with_reducible refine Below.alloc ?_ ?_ _) | (with_reducible refine Below.drew ?_) | (with_reducible refine below_drewN ?_ _) | (with_reducible refine Below.setCell ?_ ?_ _) | (with_reducible refine below_setRow ?_ ?_ _) | go_size))
      · have HS := hid (show pointB id x y zl zh wd nm of = false by simp [pointB, h1, h2, h3])
        have H1 := hid h1
        have H2 := hid h2
        have H3 := hid (Bool.eq_false_iff.2 h3)
        clear h1 h2 h3
        go_enter Tryz.func159, Tryz.ntmps159
        go_wp2_with fail
        refine (within_any _ _ _ _).mono ?_
        rintro r w9 ⟨rfl, rfl⟩
        rw [H1.out]
        go_wp2_with fail
        refine (place_any _ _ _ _ _ _ _ _ _ _).mono ?_
        rintro r w1 ⟨rfl, hb1⟩
        go_wp2_with fail
        refine (vplace_any _ _ _).mono ?_
        rintro r w2 ⟨rfl, hb2⟩
        have HP := hid (heap_still hb2 (heap_still hb1 (heap_alloc_at w (.cells #[.int .i64 id, .int .i64 x, .int .i64 y, .int .i64 zl, .int .i64 zh, .int .i64 wd, .int .i64 nm, .int .i64 of, .int .i64 cl] 109) _ rfl)))
        have c3 : w2.cell? ⟨w.heap.size, 3, none⟩ = some (.int .i64 zl) := (cell_row (j := 3) HP.out).trans rfl
        have c4 : w2.cell? ⟨w.heap.size, 4, none⟩ = some (.int .i64 zh) := (cell_row (j := 4) HP.out).trans rfl
        have c5 : w2.cell? ⟨w.heap.size, 5, none⟩ = some (.int .i64 wd) := (cell_row (j := 5) HP.out).trans rfl
        have c6 : w2.cell? ⟨w.heap.size, 6, none⟩ = some (.int .i64 nm) := (cell_row (j := 6) HP.out).trans rfl
        have c7 : w2.cell? ⟨w.heap.size, 7, none⟩ = some (.int .i64 of) := (cell_row (j := 7) HP.out).trans rfl
        have HB := hid (show Below w.heap.size w w2 from ((Below.refl _ _).alloc (Nat.le_refl _) _).trans ((hb1.mono (by simp)).trans (hb2.mono (by have := hb1.size; simp at this; omega))))
        clear hb1 hb2
        rw [H2.out]
        go_wp2_with fail
        refine (within_any _ _ _ _).mono ?_
        rintro r w9 ⟨rfl, rfl⟩
        rw [H3.out]
        go_wp2_with fail
        go_ret
        refine ⟨by rw [HS.out]; rfl, ?_⟩
        (try have hB0 := HB.out)
        (repeat' (first | (with_reducible exact Below.refl _ _) | (with_reducible assumption) | (with_reducible refine Below.alloc ?_ ?_ _) | (with_reducible refine Below.drew ?_) | (with_reducible refine below_drewN ?_ _) | (with_reducible refine Below.setCell ?_ ?_ _) | (with_reducible refine below_setRow ?_ ?_ _) | go_size))
    · have HS := hid (show pointB id x y zl zh wd nm of = false by simp [pointB, h1, h2])
      have H1 := hid h1
      have H2 := hid (Bool.eq_false_iff.2 h2)
      clear h1 h2
      go_enter Tryz.func159, Tryz.ntmps159
      go_wp2_with fail
      refine (within_any _ _ _ _).mono ?_
      rintro r w9 ⟨rfl, rfl⟩
      rw [H1.out]
      go_wp2_with fail
      refine (place_any _ _ _ _ _ _ _ _ _ _).mono ?_
      rintro r w1 ⟨rfl, hb1⟩
      go_wp2_with fail
      refine (vplace_any _ _ _).mono ?_
      rintro r w2 ⟨rfl, hb2⟩
      have HP := hid (heap_still hb2 (heap_still hb1 (heap_alloc_at w (.cells #[.int .i64 id, .int .i64 x, .int .i64 y, .int .i64 zl, .int .i64 zh, .int .i64 wd, .int .i64 nm, .int .i64 of, .int .i64 cl] 109) _ rfl)))
      have c3 : w2.cell? ⟨w.heap.size, 3, none⟩ = some (.int .i64 zl) := (cell_row (j := 3) HP.out).trans rfl
      have c4 : w2.cell? ⟨w.heap.size, 4, none⟩ = some (.int .i64 zh) := (cell_row (j := 4) HP.out).trans rfl
      have c5 : w2.cell? ⟨w.heap.size, 5, none⟩ = some (.int .i64 wd) := (cell_row (j := 5) HP.out).trans rfl
      have c6 : w2.cell? ⟨w.heap.size, 6, none⟩ = some (.int .i64 nm) := (cell_row (j := 6) HP.out).trans rfl
      have c7 : w2.cell? ⟨w.heap.size, 7, none⟩ = some (.int .i64 of) := (cell_row (j := 7) HP.out).trans rfl
      have HB := hid (show Below w.heap.size w w2 from ((Below.refl _ _).alloc (Nat.le_refl _) _).trans ((hb1.mono (by simp)).trans (hb2.mono (by have := hb1.size; simp at this; omega))))
      clear hb1 hb2
      rw [H2.out]
      go_wp2_with fail
      go_ret
      refine ⟨by rw [HS.out]; rfl, ?_⟩
      (try have hB0 := HB.out)
      (repeat' (first | (with_reducible exact Below.refl _ _) | (with_reducible assumption) | (with_reducible refine Below.alloc ?_ ?_ _) | (with_reducible refine Below.drew ?_) | (with_reducible refine below_drewN ?_ _) | (with_reducible refine Below.setCell ?_ ?_ _) | (with_reducible refine below_setRow ?_ ?_ _) | go_size))
  · have HS := hid (show pointB id x y zl zh wd nm of = false by simp [pointB, h1])
    have H1 := hid (Bool.eq_false_iff.2 h1)
    clear h1
    go_enter Tryz.func159, Tryz.ntmps159
    go_wp2_with fail
    refine (within_any _ _ _ _).mono ?_
    rintro r w9 ⟨rfl, rfl⟩
    rw [H1.out]
    go_wp2_with fail
    go_ret
    refine ⟨by rw [HS.out]; rfl, ?_⟩
    (try have hB0 := HB.out)
    (repeat' (first | (with_reducible exact Below.refl _ _) | (with_reducible assumption) | (with_reducible refine Below.alloc ?_ ?_ _) | (with_reducible refine Below.drew ?_) | (with_reducible refine below_drewN ?_ _) | (with_reducible refine Below.setCell ?_ ?_ _) | (with_reducible refine below_setRow ?_ ?_ _) | go_size))
end Go.Proofs.YtpfighhhemnhaaaGreat
namespace Go.Proofs.YtpfighhhemnhaaaGreat
open Go.RowKit Go.Maps

/-- n points of nine numbers each behind an address -/
def recs9 (w : World) (b off n : Nat) (F : Nat → Nat → Int) : Prop := ∀ i, i < n → ∀ j, j < 9 → w.cell? ⟨b, off + i * 9 + j, none⟩ = some (.int .i64 (F i j))
theorem recs9.still {w w' : World} {b off n B : Nat} {F : Nat → Nat → Int} (h : recs9 w b off n F) (hb : Below B w w') (hB : b < B) : recs9 w' b off n F :=
  fun i hi j hj => by rw [hb.cell hB]; exact h i hi j hj
/-- the first n of them all -/
def allN (p : Nat → Bool) : Nat → Bool
  | 0 => true
  | k + 1 => allN p k && p k
theorem allN_next {p : Nat → Bool} {k : Nat} (h : allN p k = true) (h2 : p k = true) : allN p (k + 1) = true := by simp [allN, h, h2]
theorem allN_stop {p : Nat → Bool} {n k : Nat} (hk : k < n) (h : p k = false) : allN p n = false := by
  induction n with
  | zero => omega
  | succ n ih =>
    by_cases he : k = n
    · subst he; simp [allN, h]
    · simp [allN, ih (by omega)]
theorem allN_iff {p : Nat → Bool} {n : Nat} : allN p n = true ↔ ∀ i, i < n → p i = true := by
  induction n with
  | zero => simp [allN]
  | succ n ih =>
    simp only [allN, Bool.and_eq_true, ih]
    constructor
    · rintro ⟨h1, h2⟩ i hi
      by_cases he : i = n
      · subst he; exact h2
      · exact h1 i (by omega)
    · intro h; exact ⟨fun i hi => h i (by omega), h n (by omega)⟩
def ptB (p : Nat → Int) : Bool := pointB (p 0) (p 1) (p 2) (p 3) (p 4) (p 5) (p 6) (p 7)
/-- point i is valid and has an Id that none before it has -/
def newB (F : Nat → Nat → Int) (i : Nat) : Bool := ptB (F i) && !(List.range i).any (fun j => F j 0 == F i 0)
def validV (F : Nat → Nat → Int) (n : Nat) : Bool := decide (n ≤ 1024) && allN (newB F) n
/-- the map of the Ids seen -/
def seenG (F : Nat → Nat → Int) (k : Nat) : Lit → Option Value := fun l => if (List.range k).any (fun j => (Lit.int .i64 (F j 0)).sameKey l) then some (.bool true) else none
theorem law3 : Keyed Tryz.prog 3 := int_keyed Tryz.underlying3
theorem zero4 (w : World) : (zeroValue 4).run Tryz.prog w = .ok (.bool false) w := by kernel_rfl
theorem int_ne {a b : Int} (h : a ≠ b) : Lit.int .i64 a ≠ Lit.int .i64 b := fun e => h (by injection e)
theorem same_int (a b : Int) : (Lit.int .i64 a).sameKey (.int .i64 b) = (a == b) := by
  by_cases h : a = b
  · subst h
    rw [beq_self_eq_true]
    exact WideAt.sameKey_self trivial
  · rw [sameKey_ne (int_ne h)]
    simp [h]
theorem seen_look (F : Nat → Nat → Int) (k : Nat) (x : Int) : (seenG F k (.int .i64 x)).getD (.bool false) = .bool ((List.range k).any (fun j => F j 0 == x)) := by
  unfold seenG
  simp only [same_int]
  cases (List.range k).any (fun j => F j 0 == x) <;> rfl
theorem seen_put (F : Nat → Nat → Int) (k : Nat) : putG (seenG F k) (.int .i64 (F k 0)) (.bool true) = seenG F (k + 1) := by
  funext l
  by_cases h : l = .int .i64 (F k 0)
  · subst h
    rw [putG_same (show WideAt.IsKeyLit (Lit.int .i64 (F k 0)) from trivial)]
    unfold seenG
    rw [List.range_succ, List.any_append]
    simp [same_int]
  · rw [putG_other h]
    unfold seenG
    rw [List.range_succ, List.any_append]
    simp [sameKey_ne (Ne.symm h)]
theorem pointB_id {p : Nat → Int} (h : ptB p = true) : 0 ≤ p 0 ∧ p 0 ≤ 1152921504606846976 := by
  unfold ptB pointB at h
  simp [inB] at h
  omega
set_option maxRecDepth 100000 in
set_option maxHeartbeats 1600000 in
theorem valid_any (b off n c : Nat) (F : Nat → Nat → Int) (w : World) (hn0 : 0 < n) (hbw : b < w.heap.size) (hr : recs9 w b off n F) :
    Calls Tryz.prog 92 #[.slice (some ⟨b, off, none⟩) n c] w fun r w' => r = .returned (.bool (validV F n)) ∧ Below w.heap.size w w' := by
  have HC := hid hr
  clear hr
  by_cases hn : n ≤ 1024
  · have hmm := fun (x : Int) (W : World) => (show (Instr.makeMap 234 (some (.int .i64 x))).run Tryz.prog W = .ok (.map (some W.heap.size)) (W.alloc (.map #[] 0)) by simp [Instr.makeMap, run_underlying Tryz.underlying234, asInt, newObj]; rfl)
    have hp : ¬ (1024 : Int) < (n : Int) := by omega
    have hd : decide ((1024 : Int) < (n : Int)) = false := decide_eq_false hp
    go_enter Tryz.func92, Tryz.ntmps92
    go_wp2_with fail
    go_loopw [14] (fun iv W => ∃ k : Nat, k ≤ n ∧ iv = .int .i64 (k : Int) ∧ allN (newB F) k = true ∧ MapAt Tryz.prog W 3 w.heap.size k (seenG F k) ∧ Below w.heap.size w W ∧ w.heap.size < W.heap.size) (fun iv _ => n - (intOf iv).toNat)
    case atStart => exact ⟨0, by omega, rfl, rfl, MapAt.made w, (Below.refl _ _).alloc (Nat.le_refl _) _, by simp⟩
    case round =>
      obtain ⟨k, hk, rfl, hall, hmap, hB, hzw⟩ := hrel
      have HBwr := hid hB
      have hzwr := hB.size
      have HA := hid hall
      have HM := hid hmap
      clear hall hmap
      by_cases hlt : k < n
      · have hcs := HC.out.still hB hbw k hlt
        have c0 := hcs 0 (by decide)
        have c1 := hcs 1 (by decide)
        have c2 := hcs 2 (by decide)
        have c3 := hcs 3 (by decide)
        have c4 := hcs 4 (by decide)
        have c5 := hcs 5 (by decide)
        have c6 := hcs 6 (by decide)
        have c7 := hcs 7 (by decide)
        have c8 := hcs 8 (by decide)
        rw [Nat.add_zero] at c0
        have HST := hid (fun bb (h : newB F k = bb) => h)
        have HPT := hid (show newB F k = (pointB (F k 0) (F k 1) (F k 2) (F k 3) (F k 4) (F k 5) (F k 6) (F k 7) && !(List.range k).any (fun j => F j 0 == F k 0)) from rfl)
        have HID := hid (fun h : pointB (F k 0) (F k 1) (F k 2) (F k 3) (F k 4) (F k 5) (F k 6) (F k 7) = true => @pointB_id (F k) h)
        have HNX := hid (fun h : newB F k = true => allN_next HA.out h)
        have HX := hid (fun h : newB F k = false => show validV F n = false by unfold validV; rw [allN_stop hlt h]; simp)
        have HLK := hid (seen_look F k (F k 0))
        have HSP := hid (seen_put F k)
        clear hB hcs HST
        generalize F k 0 = p0 at *
        generalize F k 1 = p1 at *
        generalize F k 2 = p2 at *
        generalize F k 3 = p3 at *
        generalize F k 4 = p4 at *
        generalize F k 5 = p5 at *
        generalize F k 6 = p6 at *
        generalize F k 7 = p7 at *
        generalize F k 8 = p8 at *
        by_cases hp : pointB p0 p1 p2 p3 p4 p5 p6 p7 = true
        · have HP := hid hp
          have hwf : (Lit.int .i64 p0).wf = true := WalkArith.wf_i64 (by have := HID.out hp; omega)
          have HKEY := hid (keyOf_int_mk Tryz.underlying3 hwf)
          clear hp hwf
          go_wp2_with fail
          have HX1 := hid (heap_alloc_at wr (.cells #[.int .i64 p0, .int .i64 p1, .int .i64 p2, .int .i64 p3, .int .i64 p4, .int .i64 p5, .int .i64 p6, .int .i64 p7, .int .i64 p8] 109) _ rfl)
          have HM1 := hid (HM.out.grow ((Below.refl _ _).alloc (Nat.le_refl _) (.cells #[.int .i64 p0, .int .i64 p1, .int .i64 p2, .int .i64 p3, .int .i64 p4, .int .i64 p5, .int .i64 p6, .int .i64 p7, .int .i64 p8] 109)))
          refine (xPoint_any _ _ _ _ _ _ _ _ _ _).mono ?_
          rintro r w1 ⟨rfl, hb⟩
          rw [HP.out]
          have hs1 := hb.size
          simp at hs1
          have q0 : w1.cell? ⟨wr.heap.size, 0, none⟩ = some (.int .i64 p0) := (cell_row (j := 0) (heap_still hb HX1.out)).trans rfl
          have HM2 := hid (HM1.out.grow hb)
          have HB1 := hid (show Below w.heap.size w w1 from (HBwr.out.alloc hzwr _).trans (hb.mono (by simp; omega)))
          have hlook := HM2.out.look law3 Tryz.underlying234 (zero4 w1) HKEY.out
          rw [HLK.out] at hlook
          clear hb HM HM1
          cases hq : (List.range k).any (fun j => F j 0 == p0)
          · rw [hq] at hlook
            have HNB := hid (HNX.out (by rw [HPT.out, HP.out, hq]; rfl))
            clear hq
            go_wp2_with (at_mapUpdate; refine wpList_put rfl (.tmp 27) (.tmp 29) (.const (.bool true)) 234 rfl law3 Tryz.underlying234 rfl HM2.out (by unfold maxLen; omega) (.int .i64 p0) (.bool true) (.int .i64 p0) rfl rfl HKEY.out ?_; intro w2 hm2 hg2)
            rw [HSP.out] at hm2
            have hs2 := hg2.size
            exact ⟨⟨k + 1, by omega, by go_num, HNB.out, hm2, HB1.out.grown hg2 (by omega) (fun j hj => by injection hj with hj; omega), by omega⟩, by simp [intOf]; omega⟩
          · rw [hq] at hlook
            have HNB := hid (HX.out (by rw [HPT.out, HP.out, hq]; rfl))
            clear hq
            go_wp2_with fail
            go_ret
            exact ⟨by rw [HNB.out]; rfl, HB1.out⟩
        · have HP := hid (Bool.eq_false_iff.2 hp)
          clear hp
          have HNB := hid (HX.out (by rw [HPT.out, HP.out]; rfl))
          go_wp2_with fail
          refine (xPoint_any _ _ _ _ _ _ _ _ _ _).mono ?_
          rintro r w1 ⟨rfl, hb⟩
          rw [HP.out]
          have HB1 := hid (show Below w.heap.size w w1 from (HBwr.out.alloc hzwr _).trans (hb.mono (by simp; omega)))
          clear hb
          go_wp2_with fail
          go_ret
          exact ⟨by rw [HNB.out]; rfl, HB1.out⟩
      · obtain rfl : k = n := by omega
        have HV := hid (show validV F k = true by unfold validV; rw [HA.out]; simp; omega)
        clear hB
        go_wp2_with fail
        go_ret
        exact ⟨by rw [HV.out]; rfl, HBwr.out⟩
  · have HV := hid (show validV F n = false by simp [validV, hn])
    have hp : (1024 : Int) < (n : Int) := by omega
    have hd : decide ((1024 : Int) < (n : Int)) = true := decide_eq_true hp
    clear hn
    go_enter Tryz.func92, Tryz.ntmps92
    go_wp2_with fail
    go_ret
    exact ⟨by rw [HV.out]; rfl, Below.refl _ _⟩
end Go.Proofs.YtpfighhhemnhaaaGreat
namespace Go.Proofs.YtpfighhhemnhaaaGreat
open Go.RowKit Go.Maps

def clsB (F : Nat → Nat → Int) (i : Nat) : Bool := inB 0 255 (F i 8)
def goodV (F : Nat → Nat → Int) (n : Nat) : Bool := allN (clsB F) n && validV F n
set_option maxRecDepth 100000 in
theorem valid_none (a : Option Addr) (c : Nat) (w : World) :
    Calls Tryz.prog 92 #[.slice a 0 c] w fun r w' => r = .returned (.bool true) ∧ Below w.heap.size w w' := by
  have hmm := fun (x : Int) (W : World) => (show (Instr.makeMap 234 (some (.int .i64 x))).run Tryz.prog W = .ok (.map (some W.heap.size)) (W.alloc (.map #[] 0)) by simp [Instr.makeMap, run_underlying Tryz.underlying234, asInt, newObj]; rfl)
  go_enter Tryz.func92, Tryz.ntmps92
  go_wp2_with fail
  refine wp_loop_rounds 1 ?_
  rw [rounds_succ]
  go_wp2_with fail
  go_ret
  exact ⟨rfl, by (repeat' (first | (with_reducible exact Below.refl _ _) | (with_reducible assumption) | (with_reducible refine Below.alloc ?_ ?_ _) | (with_reducible refine Below.drew ?_) | (with_reducible refine below_drewN ?_ _) | (with_reducible refine Below.setCell ?_ ?_ _) | (with_reducible refine below_setRow ?_ ?_ _) | go_size))⟩
end Go.Proofs.YtpfighhhemnhaaaGreat
namespace Go.Proofs.YtpfighhhemnhaaaGreat
open Go.RowKit Go.Maps Go.Sort

end Go.Proofs.YtpfighhhemnhaaaGreat
namespace Go.Proofs.YtpfighhhemnhaaaGreat
open Go.RowKit
def mixA (x : Int) : Int := IntKind.u64.wrap (bits .xor .u64 x (x / 1073741824) * 13787848793156543929)
def mixB (x : Int) : Int := IntKind.u64.wrap (bits .xor .u64 x (x / 134217728) * 10723151780598845931)
def mixC (x : Int) : Int := bits .xor .u64 x (x / 2147483648)
def rankV (id : Int) : Int := mixC (mixB (mixA (IntKind.u64.wrap (IntKind.u64.wrap id + 11400714819323198485))))
end Go.Proofs.YtpfighhhemnhaaaGreat
namespace Go.Proofs.YtpfighhhemnhaaaGreat
open Go.RowKit

end Go.Proofs.YtpfighhhemnhaaaGreat
namespace Go.Proofs.YtpfighhhemnhaaaGreat
open Go.RowKit

theorem info_parts {P : Program} {t : TypeId} {z : Option Value} {sz by' : Nat} (h : (P.info? t).map (fun i => (i.zero, i.size, i.bytes)) = some (z, sz, by')) : ∃ i, P.info? t = some i ∧ i.zero = z ∧ i.size = sz ∧ i.bytes = by' := by
  cases hi : P.info? t with
  | none => rw [hi] at h; simp at h
  | some i => rw [hi] at h; simp at h; exact ⟨i, rfl, h.1, h.2.1, h.2.2⟩
theorem info36 : (Tryz.prog.info? 109).map (fun i => (i.zero, i.size, i.bytes)) = some (some (.agg #[.int .i64 0, .int .i64 0, .int .i64 0, .int .i64 0, .int .i64 0, .int .i64 0, .int .i64 0, .int .i64 0, .int .i64 0]), 9, 72) := by kernel_rfl
/-- the cells of a point, and the points behind an address as a list of rows -/
def ptRow (p : Nat → Int) : List Value := [.int .i64 (p 0), .int .i64 (p 1), .int .i64 (p 2), .int .i64 (p 3), .int .i64 (p 4), .int .i64 (p 5), .int .i64 (p 6), .int .i64 (p 7), .int .i64 (p 8)]
theorem ptRow_at (p : Nat → Int) (j : Nat) (hj : j < 9) : (ptRow p)[j]? = some (.int .i64 (p j)) := by
  match j, hj with
  | 0, _ | 1, _ | 2, _ | 3, _ | 4, _ | 5, _ | 6, _ | 7, _ | 8, _ => rfl
theorem ptRow_wide (p : Nat → Int) : (ptRow p).length = 9 ∧ ∀ u ∈ ptRow p, u.oneCell' = true := by
  refine ⟨rfl, fun u hu => ?_⟩
  simp [ptRow] at hu
  rcases hu with rfl | rfl | rfl | rfl | rfl | rfl | rfl | rfl | rfl <;> rfl
/-- a list of points as rows -/
def ptRows (l : List (Nat → Int)) : List (List Value) := l.map ptRow
theorem ptRows_wide (l : List (Nat → Int)) : Wide 9 (ptRows l) := fun r hr => by
  obtain ⟨p, _, rfl⟩ := List.mem_map.1 hr
  exact ptRow_wide p
theorem ptRows_length (l : List (Nat → Int)) : (ptRows l).length = l.length := List.length_map ..
/-- the first n points of F as a list -/
def ptList (F : Nat → Nat → Int) (n : Nat) : List (Nat → Int) := (List.range n).map F
theorem ptList_length (F : Nat → Nat → Int) (n : Nat) : (ptList F n).length = n := by simp [ptList]
theorem recs9_rows {w : World} {b off n : Nat} {F : Nat → Nat → Int} (h : recs9 w b off n F) : RowsAt w b off 9 (ptRows (ptList F n)) := fun i r hi j hj => by
  have hil : i < n := by
    have := (List.getElem?_eq_some_iff.1 hi).1
    rwa [ptRows_length, ptList_length] at this
  simp [ptRows, ptList, hil] at hi
  subst hi
  rw [ptRow_at _ _ hj]
  exact h i hil j hj
set_option maxRecDepth 100000 in
theorem clone_any (b off n c : Nat) (F : Nat → Nat → Int) (w : World) (hn : n ≤ 1000000000000) (hbw : b < w.heap.size) (hr : recs9 w b off n F) :
    Calls Tryz.prog 69 #[.slice (some ⟨b, off, none⟩) n c] w fun r w' => (∃ v, r = .returned v ∧ OwnR w' w.heap.size 109 9 v (ptRows (ptList F n))) ∧ Below w.heap.size w w' := by
  have HC := hid (recs9_rows hr)
  obtain ⟨i0, hi, hz0, hz1, hz2⟩ := info_parts info36
  have HI := hid hi
  have HZ0 := hid hz0
  have HZ1 := hid hz1
  have HZ2 := hid hz2
  clear hi hz0 hz1 hz2 hr
  have HLEN := hid (show (ptRows (ptList F n)).length = n by rw [ptRows_length, ptList_length])
  have heq := fun w => Lib.run_eql_slice_nil (P := Tryz.prog) w 73 109 (some ⟨b, off, none⟩) n c 0 0 Tryz.underlying73
  go_enter Tryz.func69, Tryz.ntmps69
  have hown0 : OwnR (w.alloc (.cells #[] 109)) w.heap.size 109 9 (.slice (some ⟨w.heap.size, 0, none⟩) 0 0) [] := ⟨Wide.nil 9, rfl, Or.inr ⟨_, 0, #[], rfl, Nat.le_refl _, (by repeat' (first | (refine heap_alloc_at _ _ _ ?_; (first | rfl | (simp; done) | (simp; omega))) | (refine heap_alloc_past _ _ _ _ ?_))), Nat.le_refl _, by unfold maxLen; omega, rfl, rfl⟩⟩
  have HOWN := hid hown0
  clear hown0
  go_wp2_with (at_builtin; refine wpList_append_rows rfl (.tmp 5) (.tmp 6) 73 rfl w.heap.size 109 i0 _ 9 72 Tryz.underlying73 HI.out HZ0.out HZ1.out HZ2.out rfl (by decide) _ [] _ rfl HOWN.out b off n c HLEN.out.symm rfl (HC.out.still ((Below.refl _ _).alloc (Nat.le_refl _) _) hbw) (ptRows_wide _) (by rw [HLEN.out]; simp; unfold maxLen; omega) (by rw [HLEN.out]; simp; omega) (by simp) ?_; intro v' w1 hown hgrow halt)
  go_ret
  refine ⟨⟨v', rfl, hown⟩, ?_⟩
  exact ((Below.refl _ _).alloc (Nat.le_refl _) _).grown hgrow (by simp) (fun k hk => by injection hk with hk; subst hk; exact Nat.le_refl _)
end Go.Proofs.YtpfighhhemnhaaaGreat
namespace Go.Proofs.YtpfighhhemnhaaaGreat
open Go.RowKit

end Go.Proofs.YtpfighhhemnhaaaGreat

namespace Go.Proofs.YtpfighhhemnhaaaGreat
open Go.RowKit

/-- the index of a coordinate in the cells of a level -/
def idxV (n : Int) (L : Nat) : Int := min ((n + 268435456) / 2 ^ (29 - L)) (2 ^ L - 1)
end Go.Proofs.YtpfighhhemnhaaaGreat
namespace Go.Proofs.YtpfighhhemnhaaaGreat
open Go.RowKit

/-- 2 to the power of a level -/
def powL (L : Int) : Int := 2 ^ L.toNat
def keyB (L x y z : Int) : Bool := inB 0 12 L && (inB 0 (powL L - 1) x && inB 0 (powL L - 1) y && inB 0 (powL L - 1) z)
theorem keyB_good {L x y z : Int} (h : 0 ≤ L ∧ L ≤ 12) : keyB L x y z = (inB 0 (powL L - 1) x && inB 0 (powL L - 1) y && inB 0 (powL L - 1) z) := by
  unfold keyB
  rw [show inB 0 12 L = true by simp [inB]; omega]
  rfl
end Go.Proofs.YtpfighhhemnhaaaGreat
namespace Go.Proofs.YtpfighhhemnhaaaGreat
open Go.RowKit

end Go.Proofs.YtpfighhhemnhaaaGreat
namespace Go.Proofs.YtpfighhhemnhaaaGreat
open Go.RowKit

theorem point_coords {id x y zl zh wd nm of cl : Int} (h : (pointB id x y zl zh wd nm of && inB 0 255 cl) = true) : (-268435456 ≤ x ∧ x ≤ 268435456) ∧ (-268435456 ≤ y ∧ y ≤ 268435456) ∧ (-268435456 ≤ zl ∧ zl ≤ 268435456) := by
  simp [pointB, placeB, inB] at h
  omega
end Go.Proofs.YtpfighhhemnhaaaGreat
namespace Go.Proofs.YtpfighhhemnhaaaGreat
open Go.RowKit

end Go.Proofs.YtpfighhhemnhaaaGreat

namespace Go.Proofs.YtpfighhhemnhaaaGreat
open Go.RowKit

structure Pt where
  id : Int
  x : Int
  y : Int
  zl : Int
  zh : Int
  wd : Int
  nm : Int
  of : Int
  cl : Int
structure Ky where
  L : Int
  x : Int
  y : Int
  z : Int
structure Tl where
  key : Ky
  pts : List Pt
instance : Inhabited Pt := ⟨⟨0, 0, 0, 0, 0, 0, 0, 0, 0⟩⟩
instance : Inhabited Ky := ⟨⟨0, 0, 0, 0⟩⟩
instance : Inhabited Tl := ⟨⟨default, []⟩⟩
def Pt.f (p : Pt) (j : Nat) : Int := match j with | 0 => p.id | 1 => p.x | 2 => p.y | 3 => p.zl | 4 => p.zh | 5 => p.wd | 6 => p.nm | 7 => p.of | _ => p.cl
theorem Ky.ext' {a b : Ky} (h1 : a.L = b.L) (h2 : a.x = b.x) (h3 : a.y = b.y) (h4 : a.z = b.z) : a = b := by
  cases a; cases b; simp at *; exact ⟨h1, h2, h3, h4⟩
instance : DecidableEq Ky := fun a b =>
  if h : a.L = b.L ∧ a.x = b.x ∧ a.y = b.y ∧ a.z = b.z then isTrue (Ky.ext' h.1 h.2.1 h.2.2.1 h.2.2.2) else isFalse (fun e => h (by subst e; exact ⟨rfl, rfl, rfl, rfl⟩))
/-- the order of keys -/
def Ky.lt (a b : Ky) : Prop := a.L < b.L ∨ (a.L = b.L ∧ (a.x < b.x ∨ (a.x = b.x ∧ (a.y < b.y ∨ (a.y = b.y ∧ a.z < b.z)))))
theorem Ky.lt_irrefl (a : Ky) : ¬ a.lt a := by unfold Ky.lt; omega
theorem Ky.lt_trans {a b c : Ky} (h : a.lt b) (h2 : b.lt c) : a.lt c := by unfold Ky.lt at *; omega
/-- the cell of a point at a level -/
def cellK (l : Nat) (p : Pt) : Ky := ⟨l, idxV p.x l, idxV p.y l, idxV p.zl l⟩
/-- q lies in p's cell of a level and has a lesser rank -/
def lessB (l : Nat) (p q : Pt) : Bool := decide (cellK l q = cellK l p) && decide (rankV q.id < rankV p.id)
/-- has the point no tile above the level? -/
def here (S : List Pt) (c : Nat) : Nat → Pt → Bool
  | 0 => fun _ => true
  | l + 1 => fun p => here S c l p && !(decide (l = 12) || decide (S.countP (fun q => here S c l q && lessB l p q) < c))
/-- would it be taken at the level? -/
def takes (S : List Pt) (c l : Nat) (p : Pt) : Bool := decide (l = 12) || decide (S.countP (fun q => here S c l q && lessB l p q) < c)
theorem here_succ (S : List Pt) (c l : Nat) (p : Pt) : here S c (l + 1) p = (here S c l p && !takes S c l p) := rfl
theorem here_perm {S S' : List Pt} (h : S.Perm S') (c : Nat) : ∀ l, here S c l = here S' c l
  | 0 => rfl
  | l + 1 => by
    funext p
    rw [here_succ, here_succ, here_perm h c l]
    unfold takes
    rw [here_perm h c l, h.countP_eq]
theorem takes_perm {S S' : List Pt} (h : S.Perm S') (c l : Nat) (p : Pt) : takes S c l p = takes S' c l p := by
  unfold takes
  rw [here_perm h c l, h.countP_eq]
theorem here_mono {S : List Pt} {c : Nat} {p : Pt} : ∀ {l m : Nat}, l ≤ m → here S c m p = true → here S c l p = true
  | l, 0, h, _ => by
    obtain rfl : l = 0 := by omega
    rfl
  | l, m + 1, h, h2 => by
    by_cases he : l = m + 1
    · subst he; exact h2
    · rw [here_succ, Bool.and_eq_true] at h2
      exact here_mono (by omega) h2.1
theorem here_13 (S : List Pt) (c : Nat) (p : Pt) : here S c 13 p = false := by
  rw [here_succ]; simp [takes]
/-- the point's tile has this key -/
def isAt (S : List Pt) (c : Nat) (p : Pt) (k : Ky) : Prop := ∃ l, l ≤ 12 ∧ here S c l p = true ∧ takes S c l p = true ∧ k = cellK l p
theorem isAt_perm {S S' : List Pt} (h : S.Perm S') {c : Nat} {p : Pt} {k : Ky} : isAt S c p k ↔ isAt S' c p k := by
  unfold isAt
  constructor
  · rintro ⟨l, h1, h2, h3, h4⟩; exact ⟨l, h1, by rw [← here_perm h]; exact h2, by rw [← takes_perm h]; exact h3, h4⟩
  · rintro ⟨l, h1, h2, h3, h4⟩; exact ⟨l, h1, by rw [here_perm h]; exact h2, by rw [takes_perm h]; exact h3, h4⟩
theorem takes_not {S : List Pt} {c l m : Nat} {p : Pt} (h : takes S c l p = true) (hlm : l < m) : here S c m p = false := by
  cases hm : here S c m p
  · rfl
  · have := here_mono (l := l + 1) (by omega) hm
    rw [here_succ, h] at this
    simp at this
theorem isAt_level {S : List Pt} {c l m : Nat} {p : Pt} (h1 : here S c l p = true) (h2 : takes S c l p = true) (h3 : here S c m p = true) (h4 : takes S c m p = true) : l = m := by
  rcases Nat.lt_trichotomy l m with h | h | h
  · rw [takes_not h2 h] at h3; cases h3
  · exact h
  · rw [takes_not h4 h] at h1; cases h1
theorem isAt_un {S : List Pt} {c : Nat} {p : Pt} {k k' : Ky} (h : isAt S c p k) (h' : isAt S c p k') : k = k' := by
  obtain ⟨l, _, h2, h3, rfl⟩ := h
  obtain ⟨m, _, g2, g3, rfl⟩ := h'
  rw [isAt_level h2 h3 g2 g3]
theorem at_or_here (S : List Pt) (c : Nat) (p : Pt) : ∀ m, here S c m p = true ∨ ∃ l, l < m ∧ here S c l p = true ∧ takes S c l p = true
  | 0 => .inl rfl
  | m + 1 => by
    rcases at_or_here S c p m with h | ⟨l, h1, h2, h3⟩
    · cases ht : takes S c m p
      · left; rw [here_succ, h, ht]; rfl
      · exact .inr ⟨m, by omega, h, ht⟩
    · exact .inr ⟨l, by omega, h2, h3⟩
theorem isAt_ex (S : List Pt) (c : Nat) (p : Pt) : ∃ k, isAt S c p k := by
  rcases at_or_here S c p 13 with h | ⟨l, h1, h2, h3⟩
  · rw [here_13] at h; cases h
  · exact ⟨_, l, by omega, h2, h3, rfl⟩
theorem isAt_bd {S : List Pt} {c : Nat} {p : Pt} {k : Ky} (h : isAt S c p k) : ∃ l : Nat, l ≤ 12 ∧ k.L = l := by
  obtain ⟨l, h1, _, _, rfl⟩ := h
  exact ⟨l, h1, rfl⟩
/-- tiles with different keys, each with the points of its key, in ascending order of Id -/
structure Tiles (Q : Pt → Ky → Prop) (T : List Tl) : Prop where
  keys : T.Pairwise (fun t u => t.key ≠ u.key)
  pts : ∀ t ∈ T, t.pts ≠ [] ∧ t.pts.Pairwise (fun p q => p.id < q.id)
  mem : ∀ t ∈ T, ∀ p, p ∈ t.pts ↔ Q p t.key
  all : ∀ p k, Q p k → ∃ t ∈ T, t.key = k
theorem Tiles.nil {Q : Pt → Ky → Prop} (h : ∀ p k, ¬ Q p k) : Tiles Q [] := ⟨List.Pairwise.nil, fun t ht => (by simp at ht), fun t ht => (by simp at ht), fun p k hq => absurd hq (h p k)⟩
theorem Tiles.congr {Q Q' : Pt → Ky → Prop} {T : List Tl} (h : Tiles Q T) (he : ∀ p k, Q p k ↔ Q' p k) : Tiles Q' T :=
  ⟨h.keys, h.pts, fun t ht p => (h.mem t ht p).trans (he p t.key), fun p k hq => h.all p k ((he p k).2 hq)⟩
theorem Tiles.perm {Q : Pt → Ky → Prop} {T T' : List Tl} (h : Tiles Q T) (hp : T.Perm T') : Tiles Q T' :=
  ⟨(hp.pairwise_iff (fun {_ _} e => Ne.symm e)).1 h.keys, fun t ht => h.pts t (hp.mem_iff.2 ht), fun t ht => h.mem t (hp.mem_iff.2 ht), fun p k hq => by
    obtain ⟨t, h1, h2⟩ := h.all p k hq
    exact ⟨t, hp.mem_iff.1 h1, h2⟩⟩
theorem Tiles.add {Q : Pt → Ky → Prop} {T : List Tl} {k : Ky} {pts : List Pt} (h : Tiles Q T) (hk : ∀ p, ¬ Q p k) (hn : pts ≠ []) (hs : pts.Pairwise (fun p q => p.id < q.id)) :
    Tiles (fun p x => Q p x ∨ (x = k ∧ p ∈ pts)) (T ++ [⟨k, pts⟩]) := by
  have hne : ∀ t ∈ T, t.key ≠ k := fun t ht e => by
    obtain ⟨h1, _⟩ := h.pts t ht
    cases hp : t.pts with
    | nil => exact h1 hp
    | cons p l => exact hk p (e ▸ (h.mem t ht p).1 (by rw [hp]; simp))
  refine ⟨?_, ?_, ?_, ?_⟩
  · rw [List.pairwise_append]
    exact ⟨h.keys, List.pairwise_singleton _ _, fun t ht u hu => by obtain rfl := List.mem_singleton.1 hu; exact hne t ht⟩
  · intro t ht
    rcases List.mem_append.1 ht with g | g
    · exact h.pts t g
    · obtain rfl := List.mem_singleton.1 g; exact ⟨hn, hs⟩
  · intro t ht p
    rcases List.mem_append.1 ht with g | g
    · rw [h.mem t g p]
      exact ⟨.inl, fun e => e.elim id (fun e => absurd e.1 (hne t g))⟩
    · obtain rfl := List.mem_singleton.1 g
      exact ⟨fun e => .inr ⟨rfl, e⟩, fun e => e.elim (fun e => absurd e (hk p)) (·.2)⟩
  · intro p x hq
    rcases hq with g | ⟨rfl, g⟩
    · obtain ⟨t, h1, h2⟩ := h.all p x g
      exact ⟨t, List.mem_append_left _ h1, h2⟩
    · exact ⟨_, List.mem_append_right _ (List.mem_singleton.2 rfl), rfl⟩
theorem Tiles.more {Q : Pt → Ky → Prop} {T : List Tl} {n : Nat} {t : Tl} {p : Pt} (h : Tiles Q T) (hn : T[n]? = some t) (hp : ∀ q ∈ t.pts, q.id < p.id) :
    Tiles (fun q x => Q q x ∨ (x = t.key ∧ q = p)) (T.set n ⟨t.key, t.pts ++ [p]⟩) := by
  have hlt : n < T.length := (List.getElem?_eq_some_iff.1 hn).1
  have hel : T[n] = t := (List.getElem?_eq_some_iff.1 hn).2
  have hap := List.pairwise_iff_getElem.1 h.keys
  have hkey : ∀ i (hi : i < T.length), T[i].key = t.key → i = n := fun i hi e => by
    rcases Nat.lt_trichotomy i n with g | g | g
    · exact absurd (e.trans (by rw [hel])) (hap i n hi hlt g)
    · exact g
    · exact absurd ((by rw [hel] : T[n].key = t.key).trans e.symm) (hap n i hlt hi g)
  have hmem : t ∈ T := List.mem_of_getElem? hn
  have hin : ∀ u, u ∈ T.set n ⟨t.key, t.pts ++ [p]⟩ → u = ⟨t.key, t.pts ++ [p]⟩ ∨ (u ∈ T ∧ u.key ≠ t.key) := fun u hu => by
    obtain ⟨i, hi, e⟩ := List.mem_iff_getElem.1 hu
    rw [List.getElem_set] at e
    split at e
    · exact .inl e.symm
    · rename_i g
      simp at hi
      exact .inr ⟨e ▸ List.getElem_mem hi, fun e2 => g (hkey i hi (by rw [e]; exact e2)).symm⟩
  refine ⟨?_, ?_, ?_, ?_⟩
  · rw [List.pairwise_iff_getElem]
    intro i j hi hj hij
    simp at hi hj
    rw [List.getElem_set, List.getElem_set]
    split
    · split
      · omega
      · rename_i g1 g2
        exact fun e => g2 (hkey j hj e.symm).symm
    · split
      · rename_i g1 g2
        exact fun e => g1 (hkey i hi e).symm
      · exact hap i j hi hj hij
  · intro u hu
    rcases hin u hu with rfl | ⟨g, _⟩
    · refine ⟨by simp, ?_⟩
      rw [List.pairwise_append]
      exact ⟨(h.pts t hmem).2, List.pairwise_singleton _ _, fun a ha b hb => by obtain rfl := List.mem_singleton.1 hb; exact hp a ha⟩
    · exact h.pts u g
  · intro u hu q
    rcases hin u hu with rfl | ⟨g, gk⟩
    · show q ∈ t.pts ++ [p] ↔ _
      rw [List.mem_append, List.mem_singleton, h.mem t hmem q]
      exact ⟨fun e => e.elim .inl (fun e => .inr ⟨rfl, e⟩), fun e => e.elim .inl (fun e => .inr e.2)⟩
    · rw [h.mem u g q]
      exact ⟨.inl, fun e => e.elim id (fun e => absurd e.1 gk)⟩
  · intro q x hq
    have hnew : (⟨t.key, t.pts ++ [p]⟩ : Tl) ∈ T.set n ⟨t.key, t.pts ++ [p]⟩ := List.mem_iff_getElem.2 ⟨n, by simpa using hlt, by rw [List.getElem_set_self]⟩
    by_cases hx : x = t.key
    · exact ⟨_, hnew, hx.symm⟩
    · rcases hq with g | ⟨g, _⟩
      · obtain ⟨u, h1, h2⟩ := h.all q x g
        obtain ⟨i, hi, e⟩ := List.mem_iff_getElem.1 h1
        refine ⟨u, List.mem_iff_getElem.2 ⟨i, by simpa using hi, ?_⟩, h2⟩
        rw [List.getElem_set_ne (by intro e2; subst e2; rw [hel] at e; subst e; exact hx h2.symm)]
        exact e
      · exact absurd g hx
/-- two strictly ascending lists with the same members are the same -/
theorem sorted_same {α : Type} {r : α → α → Prop} (irr : ∀ a, ¬ r a a) (tr : ∀ a b c, r a b → r b c → r a c) : ∀ {l m : List α}, l.Pairwise r → m.Pairwise r → (∀ a, a ∈ l ↔ a ∈ m) → l = m
  | [], [], _, _, _ => rfl
  | [], b :: m, _, _, h => by have := (h b).2 (by simp); simp at this
  | a :: l, [], _, _, h => by have := (h a).1 (by simp); simp at this
  | a :: l, b :: m, hl, hm, h => by
    obtain ⟨hl1, hl2⟩ := List.pairwise_cons.1 hl
    obtain ⟨hm1, hm2⟩ := List.pairwise_cons.1 hm
    have e : a = b := by
      rcases List.mem_cons.1 ((h a).1 (by simp)) with g | g
      · exact g
      · rcases List.mem_cons.1 ((h b).2 (by simp)) with g2 | g2
        · exact g2.symm
        · exact absurd (tr _ _ _ (hl1 b g2) (hm1 a g)) (irr a)
    subst e
    rw [sorted_same irr tr hl2 hm2 (fun x => ?_)]
    constructor
    · intro hx
      rcases List.mem_cons.1 ((h x).1 (List.mem_cons_of_mem _ hx)) with g | g
      · subst g; exact absurd (hl1 x hx) (irr x)
      · exact g
    · intro hx
      rcases List.mem_cons.1 ((h x).2 (List.mem_cons_of_mem _ hx)) with g | g
      · subst g; exact absurd (hm1 x hx) (irr x)
      · exact g
/-- the tiles of points, in the order of their keys -/
structure IsLayout (S : List Pt) (c : Nat) (T : List Tl) : Prop where
  order : T.Pairwise (fun t u => t.key.lt u.key)
  tiles : Tiles (fun p k => p ∈ S ∧ isAt S c p k) T
theorem tiles_mem {Q : Pt → Ky → Prop} {T T' : List Tl} (h : Tiles Q T) (h' : Tiles Q T') (t : Tl) (ht : t ∈ T) : t ∈ T' := by
  obtain ⟨hn, hs⟩ := h.pts t ht
  obtain ⟨p, hp⟩ : ∃ p, p ∈ t.pts := List.exists_mem_of_ne_nil _ hn
  obtain ⟨u, hu, he⟩ := h'.all p t.key ((h.mem t ht p).1 hp)
  have e : t.pts = u.pts := sorted_same (r := fun p q : Pt => p.id < q.id) (fun a => by omega) (fun a b c h1 h2 => by omega) hs (h'.pts u hu).2 (fun a => by rw [h.mem t ht a, h'.mem u hu a, he])
  have : t = u := by
    cases t; cases u; simp at he e; rw [he, e]
  rw [this]; exact hu
theorem tiles_unique {Q : Pt → Ky → Prop} {T T' : List Tl} (h : Tiles Q T) (h' : Tiles Q T') (o : T.Pairwise (fun t u => t.key.lt u.key)) (o' : T'.Pairwise (fun t u => t.key.lt u.key)) : T = T' :=
  sorted_same (r := fun t u : Tl => t.key.lt u.key) (fun _ => Ky.lt_irrefl _) (fun _ _ _ => Ky.lt_trans) o o' (fun t => ⟨tiles_mem h h' t, tiles_mem h' h t⟩)
theorem IsLayout.unique {S : List Pt} {c : Nat} {T T' : List Tl} (h : IsLayout S c T) (h' : IsLayout S c T') : T = T' := tiles_unique h.tiles h'.tiles h.order h'.order
theorem IsLayout.perm {S S' : List Pt} {c : Nat} {T : List Tl} (hp : S.Perm S') (h : IsLayout S c T) : IsLayout S' c T :=
  ⟨h.order, h.tiles.congr (fun p k => by rw [hp.mem_iff, isAt_perm hp])⟩
end Go.Proofs.YtpfighhhemnhaaaGreat
namespace Go.Proofs.YtpfighhhemnhaaaGreat
open Go.RowKit

/-- Ids that are Ids and different -/
def GoodS (S : List Pt) : Prop := S.Pairwise (fun p q => p.id ≠ q.id) ∧ ∀ p ∈ S, 0 ≤ p.id ∧ p.id ≤ 1152921504606846976
/-- the points without a tile above the level, in the order of their ranks -/
structure LeftAt (S : List Pt) (c l : Nat) (Lf : List Pt) : Prop where
  perm : Lf.Perm (S.filter (here S c l))
  rank : Lf.Pairwise (fun p q => rankV p.id < rankV q.id)
theorem LeftAt.mem {S : List Pt} {c l : Nat} {Lf : List Pt} (h : LeftAt S c l Lf) {p : Pt} : p ∈ Lf ↔ p ∈ S ∧ here S c l p = true := by
  rw [h.perm.mem_iff, List.mem_filter]
theorem LeftAt.count {S : List Pt} {c l i : Nat} {Lf : List Pt} {p : Pt} (h : LeftAt S c l Lf) (hi : Lf[i]? = some p) : S.countP (fun q => here S c l q && lessB l p q) = (Lf.take i).countP (fun q => decide (cellK l q = cellK l p)) := by
  have e1 : S.countP (fun q => here S c l q && lessB l p q) = (S.filter (here S c l)).countP (lessB l p) := by
    rw [List.countP_filter]
    exact List.countP_congr (fun q _ => by rw [Bool.and_comm])
  rw [e1, ← h.perm.countP_eq]
  obtain ⟨hlt, hel⟩ := List.getElem?_eq_some_iff.1 hi
  have hpw := List.pairwise_iff_getElem.1 h.rank
  have hsp : (Lf.take i ++ Lf.drop i).countP (lessB l p) = (Lf.take i).countP (fun q => decide (cellK l q = cellK l p)) := by
    rw [List.countP_append]
    have z : (Lf.drop i).countP (lessB l p) = 0 := by
      rw [List.countP_eq_zero]
      intro q hq
      obtain ⟨j, hj, e⟩ := List.mem_iff_getElem.1 hq
      rw [List.getElem_drop] at e
      simp at hj
      have : ¬ rankV q.id < rankV p.id := by
        rw [← e, ← hel]
        by_cases h0 : j = 0
        · subst h0; simp
        · have := hpw i (i + j) hlt (by omega) (by omega)
          omega
      simp [lessB, this]
    rw [z, Nat.add_zero]
    refine List.countP_congr fun q hq => ?_
    obtain ⟨j, hj, e⟩ := List.mem_iff_getElem.1 hq
    rw [List.getElem_take] at e
    simp at hj
    have : rankV q.id < rankV p.id := by
      rw [← e, ← hel]
      exact hpw j i (by omega) hlt (by omega)
    simp [lessB, this]
  rw [List.take_append_drop] at hsp
  exact hsp
theorem LeftAt.takes {S : List Pt} {c l i : Nat} {Lf : List Pt} {p : Pt} (h : LeftAt S c l Lf) (hi : Lf[i]? = some p) : takes S c l p = (decide (l = 12) || decide ((Lf.take i).countP (fun q => decide (cellK l q = cellK l p)) < c)) := by
  unfold YtpfighhhemnhaaaGreat.takes
  rw [h.count hi]
/-- what the tile of a key has taken of the first i points -/
def grp (S : List Pt) (c l : Nat) (Lf : List Pt) (i : Nat) (k : Ky) : List Pt := (Lf.take i).filter (fun q => decide (cellK l q = k) && takes S c l q)
def rst (S : List Pt) (c l : Nat) (Lf : List Pt) (i : Nat) : List Pt := (Lf.take i).filter (fun q => !takes S c l q)
/-- none is left: all have their tiles above -/
theorem LeftAt.none {S : List Pt} {c l : Nat} (h : LeftAt S c l []) {p : Pt} {k : Ky} (hp : p ∈ S) (hk : isAt S c p k) : k.L < l := by
  obtain ⟨m, h1, h2, h3, rfl⟩ := hk
  have hn : here S c l p = false := by
    cases hq : here S c l p
    · rfl
    · have := h.mem.2 ⟨hp, hq⟩; simp at this
  show (m : Int) < l
  rcases Nat.lt_or_ge m l with g | g
  · omega
  · rw [here_mono g h2] at hn; cases hn
end Go.Proofs.YtpfighhhemnhaaaGreat


