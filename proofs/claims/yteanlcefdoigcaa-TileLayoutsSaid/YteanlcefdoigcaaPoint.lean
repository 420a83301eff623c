/- Which points are valid: what the program and its reference return, for every point. -/
import Derived.Test.YteanlcefdoigcaaRows
import Derived.Test.YteanlcefdoigcaaPt
import Derived.Test.YteanlcefdoigcaaRec
namespace Go.Proofs.Yteanlcefdoigcaa
open Go.RowKit

def inB (lo hi : Int) (z : Int) : Bool := decide (lo ≤ z) && decide (z ≤ hi)
theorem from_any (a b c : Int) (w : World) :
    Calls Try.prog 50 #[.int .i64 a, .int .i64 b, .int .i64 c] w fun e w' => e = .returned (.bool (inB a c b)) ∧ w = w' := by
  by_cases h1 : a ≤ b <;> by_cases h2 : b ≤ c
  all_goals
    go_enter Try.func50, Try.ntmps50
    go_wp2
    go_ret
    simp [inB, *]
theorem within_any (a b c : Int) (w : World) :
    Calls Try.prog 140 #[.int .i64 a, .int .i64 b, .int .i64 c] w fun e w' => e = .returned (.bool (inB a c b)) ∧ w = w' := by
  by_cases h1 : a ≤ b <;> by_cases h2 : b ≤ c
  all_goals
    go_enter Try.func140, Try.ntmps140
    go_wp2
    go_ret
    simp [inB, *]
theorem size174 : (Try.prog.info? 174).map (·.size) = some 2 := by kernel_rfl
theorem place_any (id x y zl zh wd nm of cl : Int) (w : World) :
    Calls Try.prog 142 #[.agg #[.int .i64 id, .int .i64 x, .int .i64 y, .int .i64 zl, .int .i64 zh, .int .i64 wd, .int .i64 nm, .int .i64 of, .int .i64 cl]] w fun e w' => e = .returned (.agg #[.int .i64 x, .int .i64 y]) ∧ Below w.heap.size w w' := by
  go_enter Try.func142, Try.ntmps142
  go_wp2_with fail
  refine bodyPost_ret (results_at1 rfl rfl (heap_alloc_at _ _ _ (by simp)) Try.underlying174 rfl size174 rfl) rfl ⟨rfl, ?_⟩
  (repeat' (first | (with_reducible exact Below.refl _ _) | (with_reducible assumption) | (with_reducible refine Below.alloc ?_ ?_ _) | (with_reducible refine Below.drew ?_) | (with_reducible refine below_drewN ?_ _) | (with_reducible refine Below.setCell ?_ ?_ _) | (with_reducible refine below_setRow ?_ ?_ _) | go_size))
def placeB (x y : Int) : Bool := inB (-268435456) 268435456 x && inB (-268435456) 268435456 y
theorem vplace_any (x y : Int) (w : World) :
    Calls Try.prog 141 #[.agg #[.int .i64 x, .int .i64 y]] w fun e w' => e = .returned (.bool (placeB x y)) ∧ Below w.heap.size w w' := by
  by_cases h1 : inB (-268435456) 268435456 x = true
  · have HS := hid (show placeB x y = inB (-268435456) 268435456 y by simp [placeB, h1])
    have H1 := hid h1
    clear h1
    go_enter Try.func141, Try.ntmps141
    go_wp2_with fail
    refine (within_any _ _ _ _).mono ?_
    rintro r w1 ⟨rfl, rfl⟩
    rw [H1.out]
    go_wp2_with fail
    refine (within_any _ _ _ _).mono ?_
    rintro r w1 ⟨rfl, rfl⟩
    go_wp2_with fail
    go_ret
    refine ⟨by rw [HS.out]; rfl, ?_⟩
    (try have hB0 := HB.out)
    (repeat' (first | (with_reducible exact Below.refl _ _) | (with_reducible assumption) | (with_reducible refine Below.alloc ?_ ?_ _) | (with_reducible refine Below.drew ?_) | (with_reducible refine below_drewN ?_ _) | (with_reducible refine Below.setCell ?_ ?_ _) | (with_reducible refine below_setRow ?_ ?_ _) | go_size))
  · have HS := hid (show placeB x y = false by simp [placeB, h1])
    have H1 := hid (Bool.eq_false_iff.2 h1)
    clear h1
    go_enter Try.func141, Try.ntmps141
    go_wp2_with fail
    refine (within_any _ _ _ _).mono ?_
    rintro r w1 ⟨rfl, rfl⟩
    rw [H1.out]
    go_wp2_with fail
    go_ret
    refine ⟨by rw [HS.out]; rfl, ?_⟩
    (try have hB0 := HB.out)
    (repeat' (first | (with_reducible exact Below.refl _ _) | (with_reducible assumption) | (with_reducible refine Below.alloc ?_ ?_ _) | (with_reducible refine Below.drew ?_) | (with_reducible refine below_drewN ?_ _) | (with_reducible refine Below.setCell ?_ ?_ _) | (with_reducible refine below_setRow ?_ ?_ _) | go_size))
/-- a valid point, but for its class -/
def pointB (id x y zl zh wd nm of : Int) : Bool := inB 0 1152921504606846976 id && placeB x y && inB (-268435456) zh zl && decide (zh ≤ 268435456) && inB 0 268435456 wd && inB 1 of nm && decide (of ≤ 15)
set_option maxRecDepth 100000 in
set_option maxHeartbeats 800000 in
theorem xPoint_any (id x y zl zh wd nm of cl : Int) (w : World) :
    Calls Try.prog 123 #[.agg #[.int .i64 id, .int .i64 x, .int .i64 y, .int .i64 zl, .int .i64 zh, .int .i64 wd, .int .i64 nm, .int .i64 of, .int .i64 cl]] w fun e w' => e = .returned (.bool (pointB id x y zl zh wd nm of)) ∧ Below w.heap.size w w' := by
  have HB := hid (Below.refl w.heap.size w)
  by_cases h1 : inB 0 1152921504606846976 id = true
  · by_cases h2 : placeB x y = true
    · by_cases h3 : inB (-268435456) zh zl = true
      · by_cases h4 : decide (zh ≤ 268435456) = true
        · by_cases h5 : inB 0 268435456 wd = true
          · by_cases h6 : inB 1 of nm = true
            · have HS := hid (show pointB id x y zl zh wd nm of = decide (of ≤ 15) by simp [pointB, h1, h2, h3, h4, h5, h6])
              have H1 := hid h1
              have H2 := hid h2
              have H3 := hid h3
              have H4 := hid h4
              have H5 := hid h5
              have H6 := hid h6
              clear h1 h2 h3 h4 h5 h6
              have D4 := H4.out
              go_enter Try.func123, Try.ntmps123
              go_wp2_with fail
              refine (within_any _ _ _ _).mono ?_
              rintro r w9 ⟨rfl, rfl⟩
              rw [H1.out]
              go_wp2_with fail
              refine (place_any _ _ _ _ _ _ _ _ _ _).mono ?_
              rintro r w1 ⟨rfl, hb1⟩
              go_wp2_with fail
              refine (vplace_any _ _ _).mono ?_
              rintro r w2 ⟨rfl, hb2⟩
              have HP := hid (heap_still hb2 (heap_still hb1 (heap_alloc_at w (.cells #[.int .i64 id, .int .i64 x, .int .i64 y, .int .i64 zl, .int .i64 zh, .int .i64 wd, .int .i64 nm, .int .i64 of, .int .i64 cl] 36) _ rfl)))
              have c3 : w2.cell? ⟨w.heap.size, 3, none⟩ = some (.int .i64 zl) := (cell_row (j := 3) HP.out).trans rfl
              have c4 : w2.cell? ⟨w.heap.size, 4, none⟩ = some (.int .i64 zh) := (cell_row (j := 4) HP.out).trans rfl
              have c5 : w2.cell? ⟨w.heap.size, 5, none⟩ = some (.int .i64 wd) := (cell_row (j := 5) HP.out).trans rfl
              have c6 : w2.cell? ⟨w.heap.size, 6, none⟩ = some (.int .i64 nm) := (cell_row (j := 6) HP.out).trans rfl
              have c7 : w2.cell? ⟨w.heap.size, 7, none⟩ = some (.int .i64 of) := (cell_row (j := 7) HP.out).trans rfl
              have HB := hid (show Below w.heap.size w w2 from ((Below.refl _ _).alloc (Nat.le_refl _) _).trans ((hb1.mono (by simp)).trans (hb2.mono (by have := hb1.size; simp at this; omega))))
              clear hb1 hb2
              rw [H2.out]
              go_wp2_with fail
              refine (within_any _ _ _ _).mono ?_
              rintro r w9 ⟨rfl, rfl⟩
              rw [H3.out]
              go_wp2_with fail
              refine (within_any _ _ _ _).mono ?_
              rintro r w9 ⟨rfl, rfl⟩
              rw [H5.out]
              go_wp2_with fail
              refine (within_any _ _ _ _).mono ?_
              rintro r w9 ⟨rfl, rfl⟩
              rw [H6.out]
              go_wp2_with fail
              go_ret
              refine ⟨by rw [HS.out]; rfl, ?_⟩
              (try have hB0 := HB.out)
              (repeat' (first | (with_reducible exact Below.refl _ _) | (with_reducible assumption) | (with_reducible refine Below.alloc ?_ ?_ _) | (with_reducible refine Below.drew ?_) | (with_reducible refine below_drewN ?_ _) | (with_reducible refine Below.setCell ?_ ?_ _) | (with_reducible refine below_setRow ?_ ?_ _) | go_size))
            · have HS := hid (show pointB id x y zl zh wd nm of = false by simp [pointB, h1, h2, h3, h4, h5, h6])
              have H1 := hid h1
              have H2 := hid h2
              have H3 := hid h3
              have H4 := hid h4
              have H5 := hid h5
              have H6 := hid (Bool.eq_false_iff.2 h6)
              clear h1 h2 h3 h4 h5 h6
              have D4 := H4.out
              go_enter Try.func123, Try.ntmps123
              go_wp2_with fail
              refine (within_any _ _ _ _).mono ?_
              rintro r w9 ⟨rfl, rfl⟩
              rw [H1.out]
              go_wp2_with fail
              refine (place_any _ _ _ _ _ _ _ _ _ _).mono ?_
              rintro r w1 ⟨rfl, hb1⟩
              go_wp2_with fail
              refine (vplace_any _ _ _).mono ?_
              rintro r w2 ⟨rfl, hb2⟩
              have HP := hid (heap_still hb2 (heap_still hb1 (heap_alloc_at w (.cells #[.int .i64 id, .int .i64 x, .int .i64 y, .int .i64 zl, .int .i64 zh, .int .i64 wd, .int .i64 nm, .int .i64 of, .int .i64 cl] 36) _ rfl)))
              have c3 : w2.cell? ⟨w.heap.size, 3, none⟩ = some (.int .i64 zl) := (cell_row (j := 3) HP.out).trans rfl
              have c4 : w2.cell? ⟨w.heap.size, 4, none⟩ = some (.int .i64 zh) := (cell_row (j := 4) HP.out).trans rfl
              have c5 : w2.cell? ⟨w.heap.size, 5, none⟩ = some (.int .i64 wd) := (cell_row (j := 5) HP.out).trans rfl
              have c6 : w2.cell? ⟨w.heap.size, 6, none⟩ = some (.int .i64 nm) := (cell_row (j := 6) HP.out).trans rfl
              have c7 : w2.cell? ⟨w.heap.size, 7, none⟩ = some (.int .i64 of) := (cell_row (j := 7) HP.out).trans rfl
              have HB := hid (show Below w.heap.size w w2 from ((Below.refl _ _).alloc (Nat.le_refl _) _).trans ((hb1.mono (by simp)).trans (hb2.mono (by have := hb1.size; simp at this; omega))))
              clear hb1 hb2
              rw [H2.out]
              go_wp2_with fail
              refine (within_any _ _ _ _).mono ?_
              rintro r w9 ⟨rfl, rfl⟩
              rw [H3.out]
              go_wp2_with fail
              refine (within_any _ _ _ _).mono ?_
              rintro r w9 ⟨rfl, rfl⟩
              rw [H5.out]
              go_wp2_with fail
              refine (within_any _ _ _ _).mono ?_
              rintro r w9 ⟨rfl, rfl⟩
              rw [H6.out]
              go_wp2_with fail
              go_ret
              refine ⟨by rw [HS.out]; rfl, ?_⟩
              (try have hB0 := HB.out)
              (repeat' (first | (with_reducible exact Below.refl _ _) | (with_reducible assumption) | (with_reducible refine Below.alloc ?_ ?_ _) | (with_reducible refine Below.drew ?_) | (with_reducible refine below_drewN ?_ _) | (with_reducible refine Below.setCell ?_ ?_ _) | (with_reducible refine below_setRow ?_ ?_ _) | go_size))
          · have HS := hid (show pointB id x y zl zh wd nm of = false by simp [pointB, h1, h2, h3, h4, h5])
            have H1 := hid h1
            have H2 := hid h2
            have H3 := hid h3
            have H4 := hid h4
            have H5 := hid (Bool.eq_false_iff.2 h5)
            clear h1 h2 h3 h4 h5
            have D4 := H4.out
            go_enter Try.func123, Try.ntmps123
            go_wp2_with fail
            refine (within_any _ _ _ _).mono ?_
            rintro r w9 ⟨rfl, rfl⟩
            rw [H1.out]
            go_wp2_with fail
            refine (place_any _ _ _ _ _ _ _ _ _ _).mono ?_
            rintro r w1 ⟨rfl, hb1⟩
            go_wp2_with fail
            refine (vplace_any _ _ _).mono ?_
            rintro r w2 ⟨rfl, hb2⟩
            have HP := hid (heap_still hb2 (heap_still hb1 (heap_alloc_at w (.cells #[.int .i64 id, .int .i64 x, .int .i64 y, .int .i64 zl, .int .i64 zh, .int .i64 wd, .int .i64 nm, .int .i64 of, .int .i64 cl] 36) _ rfl)))
            have c3 : w2.cell? ⟨w.heap.size, 3, none⟩ = some (.int .i64 zl) := (cell_row (j := 3) HP.out).trans rfl
            have c4 : w2.cell? ⟨w.heap.size, 4, none⟩ = some (.int .i64 zh) := (cell_row (j := 4) HP.out).trans rfl
            have c5 : w2.cell? ⟨w.heap.size, 5, none⟩ = some (.int .i64 wd) := (cell_row (j := 5) HP.out).trans rfl
            have c6 : w2.cell? ⟨w.heap.size, 6, none⟩ = some (.int .i64 nm) := (cell_row (j := 6) HP.out).trans rfl
            have c7 : w2.cell? ⟨w.heap.size, 7, none⟩ = some (.int .i64 of) := (cell_row (j := 7) HP.out).trans rfl
            have HB := hid (show Below w.heap.size w w2 from ((Below.refl _ _).alloc (Nat.le_refl _) _).trans ((hb1.mono (by simp)).trans (hb2.mono (by have := hb1.size; simp at this; omega))))
            clear hb1 hb2
            rw [H2.out]
            go_wp2_with fail
            refine (within_any _ _ _ _).mono ?_
            rintro r w9 ⟨rfl, rfl⟩
            rw [H3.out]
            go_wp2_with fail
            refine (within_any _ _ _ _).mono ?_
            rintro r w9 ⟨rfl, rfl⟩
            rw [H5.out]
            go_wp2_with fail
            go_ret
            refine ⟨by rw [HS.out]; rfl, ?_⟩
            (try have hB0 := HB.out)
            (repeat' (first | (with_reducible exact Below.refl _ _) | (with_reducible assumption) | (with_reducible refine Below.alloc ?_ ?_ _) | (with_reducible refine Below.drew ?_) | (with_reducible refine below_drewN ?_ _) | (with_reducible refine Below.setCell ?_ ?_ _) | (with_reducible refine below_setRow ?_ ?_ _) | go_size))
        · have HS := hid (show pointB id x y zl zh wd nm of = false by simp [pointB, h1, h2, h3, h4])
          have H1 := hid h1
          have H2 := hid h2
          have H3 := hid h3
          have H4 := hid (Bool.eq_false_iff.2 h4)
          clear h1 h2 h3 h4
          have D4 := H4.out
          go_enter Try.func123, Try.ntmps123
          go_wp2_with fail
          refine (within_any _ _ _ _).mono ?_
          rintro r w9 ⟨rfl, rfl⟩
          rw [H1.out]
          go_wp2_with fail
          refine (place_any _ _ _ _ _ _ _ _ _ _).mono ?_
          rintro r w1 ⟨rfl, hb1⟩
          go_wp2_with fail
          refine (vplace_any _ _ _).mono ?_
          rintro r w2 ⟨rfl, hb2⟩
          have HP := hid (heap_still hb2 (heap_still hb1 (heap_alloc_at w (.cells #[.int .i64 id, .int .i64 x, .int .i64 y, .int .i64 zl, .int .i64 zh, .int .i64 wd, .int .i64 nm, .int .i64 of, .int .i64 cl] 36) _ rfl)))
          have c3 : w2.cell? ⟨w.heap.size, 3, none⟩ = some (.int .i64 zl) := (cell_row (j := 3) HP.out).trans rfl
          have c4 : w2.cell? ⟨w.heap.size, 4, none⟩ = some (.int .i64 zh) := (cell_row (j := 4) HP.out).trans rfl
          have c5 : w2.cell? ⟨w.heap.size, 5, none⟩ = some (.int .i64 wd) := (cell_row (j := 5) HP.out).trans rfl
          have c6 : w2.cell? ⟨w.heap.size, 6, none⟩ = some (.int .i64 nm) := (cell_row (j := 6) HP.out).trans rfl
          have c7 : w2.cell? ⟨w.heap.size, 7, none⟩ = some (.int .i64 of) := (cell_row (j := 7) HP.out).trans rfl
          have HB := hid (show Below w.heap.size w w2 from ((Below.refl _ _).alloc (Nat.le_refl _) _).trans ((hb1.mono (by simp)).trans (hb2.mono (by have := hb1.size; simp at this; omega))))
          clear hb1 hb2
          rw [H2.out]
          go_wp2_with fail
          refine (within_any _ _ _ _).mono ?_
          rintro r w9 ⟨rfl, rfl⟩
          rw [H3.out]
          go_wp2_with fail
          go_ret
          refine ⟨by rw [HS.out]; rfl, ?_⟩
          (try have hB0 := HB.out)
          (repeat' (first | (with_reducible exact Below.refl _ _) | (with_reducible assumption) | (with_reducible refine Below.alloc ?_ ?_ _) | (with_reducible refine Below.drew ?_) | (with_reducible refine below_drewN ?_ _) | (with_reducible refine Below.setCell ?_ ?_ _) | (with_reducible refine below_setRow ?_ ?_ _) | go_size))
      · have HS := hid (show pointB id x y zl zh wd nm of = false by simp [pointB, h1, h2, h3])
        have H1 := hid h1
        have H2 := hid h2
        have H3 := hid (Bool.eq_false_iff.2 h3)
        clear h1 h2 h3
        go_enter Try.func123, Try.ntmps123
        go_wp2_with fail
        refine (within_any _ _ _ _).mono ?_
        rintro r w9 ⟨rfl, rfl⟩
        rw [H1.out]
        go_wp2_with fail
        refine (place_any _ _ _ _ _ _ _ _ _ _).mono ?_
        rintro r w1 ⟨rfl, hb1⟩
        go_wp2_with fail
        refine (vplace_any _ _ _).mono ?_
        rintro r w2 ⟨rfl, hb2⟩
        have HP := hid (heap_still hb2 (heap_still hb1 (heap_alloc_at w (.cells #[.int .i64 id, .int .i64 x, .int .i64 y, .int .i64 zl, .int .i64 zh, .int .i64 wd, .int .i64 nm, .int .i64 of, .int .i64 cl] 36) _ rfl)))
        have c3 : w2.cell? ⟨w.heap.size, 3, none⟩ = some (.int .i64 zl) := (cell_row (j := 3) HP.out).trans rfl
        have c4 : w2.cell? ⟨w.heap.size, 4, none⟩ = some (.int .i64 zh) := (cell_row (j := 4) HP.out).trans rfl
        have c5 : w2.cell? ⟨w.heap.size, 5, none⟩ = some (.int .i64 wd) := (cell_row (j := 5) HP.out).trans rfl
        have c6 : w2.cell? ⟨w.heap.size, 6, none⟩ = some (.int .i64 nm) := (cell_row (j := 6) HP.out).trans rfl
        have c7 : w2.cell? ⟨w.heap.size, 7, none⟩ = some (.int .i64 of) := (cell_row (j := 7) HP.out).trans rfl
        have HB := hid (show Below w.heap.size w w2 from ((Below.refl _ _).alloc (Nat.le_refl _) _).trans ((hb1.mono (by simp)).trans (hb2.mono (by have := hb1.size; simp at this; omega))))
        clear hb1 hb2
        rw [H2.out]
        go_wp2_with fail
        refine (within_any _ _ _ _).mono ?_
        rintro r w9 ⟨rfl, rfl⟩
        rw [H3.out]
        go_wp2_with fail
        go_ret
        refine ⟨by rw [HS.out]; rfl, ?_⟩
        (try have hB0 := HB.out)
        (repeat' (first | (with_reducible exact Below.refl _ _) | (with_reducible assumption) | (with_reducible refine Below.alloc ?_ ?_ _) | (with_reducible refine Below.drew ?_) | (with_reducible refine below_drewN ?_ _) | (with_reducible refine Below.setCell ?_ ?_ _) | (with_reducible refine below_setRow ?_ ?_ _) | go_size))
    · have HS := hid (show pointB id x y zl zh wd nm of = false by simp [pointB, h1, h2])
      have H1 := hid h1
      have H2 := hid (Bool.eq_false_iff.2 h2)
      clear h1 h2
      go_enter Try.func123, Try.ntmps123
      go_wp2_with fail
      refine (within_any _ _ _ _).mono ?_
      rintro r w9 ⟨rfl, rfl⟩
      rw [H1.out]
      go_wp2_with fail
      refine (place_any _ _ _ _ _ _ _ _ _ _).mono ?_
      rintro r w1 ⟨rfl, hb1⟩
      go_wp2_with fail
      refine (vplace_any _ _ _).mono ?_
      rintro r w2 ⟨rfl, hb2⟩
      have HP := hid (heap_still hb2 (heap_still hb1 (heap_alloc_at w (.cells #[.int .i64 id, .int .i64 x, .int .i64 y, .int .i64 zl, .int .i64 zh, .int .i64 wd, .int .i64 nm, .int .i64 of, .int .i64 cl] 36) _ rfl)))
      have c3 : w2.cell? ⟨w.heap.size, 3, none⟩ = some (.int .i64 zl) := (cell_row (j := 3) HP.out).trans rfl
      have c4 : w2.cell? ⟨w.heap.size, 4, none⟩ = some (.int .i64 zh) := (cell_row (j := 4) HP.out).trans rfl
      have c5 : w2.cell? ⟨w.heap.size, 5, none⟩ = some (.int .i64 wd) := (cell_row (j := 5) HP.out).trans rfl
      have c6 : w2.cell? ⟨w.heap.size, 6, none⟩ = some (.int .i64 nm) := (cell_row (j := 6) HP.out).trans rfl
      have c7 : w2.cell? ⟨w.heap.size, 7, none⟩ = some (.int .i64 of) := (cell_row (j := 7) HP.out).trans rfl
      have HB := hid (show Below w.heap.size w w2 from ((Below.refl _ _).alloc (Nat.le_refl _) _).trans ((hb1.mono (by simp)).trans (hb2.mono (by have := hb1.size; simp at this; omega))))
      clear hb1 hb2
      rw [H2.out]
      go_wp2_with fail
      go_ret
      refine ⟨by rw [HS.out]; rfl, ?_⟩
      (try have hB0 := HB.out)
      (repeat' (first | (with_reducible exact Below.refl _ _) | (with_reducible assumption) | (with_reducible refine Below.alloc ?_ ?_ _) | (with_reducible refine Below.drew ?_) | (with_reducible refine below_drewN ?_ _) | (with_reducible refine Below.setCell ?_ ?_ _) | (with_reducible refine below_setRow ?_ ?_ _) | go_size))
  · have HS := hid (show pointB id x y zl zh wd nm of = false by simp [pointB, h1])
    have H1 := hid (Bool.eq_false_iff.2 h1)
    clear h1
    go_enter Try.func123, Try.ntmps123
    go_wp2_with fail
    refine (within_any _ _ _ _).mono ?_
    rintro r w9 ⟨rfl, rfl⟩
    rw [H1.out]
    go_wp2_with fail
    go_ret
    refine ⟨by rw [HS.out]; rfl, ?_⟩
    (try have hB0 := HB.out)
    (repeat' (first | (with_reducible exact Below.refl _ _) | (with_reducible assumption) | (with_reducible refine Below.alloc ?_ ?_ _) | (with_reducible refine Below.drew ?_) | (with_reducible refine below_drewN ?_ _) | (with_reducible refine Below.setCell ?_ ?_ _) | (with_reducible refine below_setRow ?_ ?_ _) | go_size))
def rpointB (id x y zl zh wd nm of cl : Int) : Bool := inB 0 1152921504606846976 id && inB (-268435456) 268435456 x && inB (-268435456) 268435456 y && decide (-268435456 ≤ zl) && decide (zl ≤ zh) && decide (zh ≤ 268435456) && inB 0 268435456 wd && decide (1 ≤ nm) && decide (nm ≤ of) && decide (of ≤ 15) && inB 0 255 cl
theorem rpoint_eq (id x y zl zh wd nm of cl : Int) : rpointB id x y zl zh wd nm of cl = (pointB id x y zl zh wd nm of && inB 0 255 cl) := by
  simp [rpointB, pointB, placeB, inB, Bool.and_assoc]
set_option maxRecDepth 100000 in
set_option maxHeartbeats 800000 in
theorem rPoint_any (id x y zl zh wd nm of cl : Int) (w : World) :
    Calls Try.prog 30 #[.agg #[.int .i64 id, .int .i64 x, .int .i64 y, .int .i64 zl, .int .i64 zh, .int .i64 wd, .int .i64 nm, .int .i64 of, .int .i64 cl]] w fun e w' => e = .returned (.bool (pointB id x y zl zh wd nm of && inB 0 255 cl)) ∧ Below w.heap.size w w' := by
  rw [← rpoint_eq]
  have HB := hid (Below.refl w.heap.size w)
  by_cases h1 : inB 0 1152921504606846976 id = true
  · by_cases h2 : inB (-268435456) 268435456 x = true
    · by_cases h3 : inB (-268435456) 268435456 y = true
      · by_cases h4 : decide (-268435456 ≤ zl) = true
        · by_cases h5 : decide (zl ≤ zh) = true
          · by_cases h6 : decide (zh ≤ 268435456) = true
            · by_cases h7 : inB 0 268435456 wd = true
              · by_cases h8 : decide (1 ≤ nm) = true
                · by_cases h9 : decide (nm ≤ of) = true
                  · by_cases h10 : decide (of ≤ 15) = true
                    · have HS := hid (show rpointB id x y zl zh wd nm of cl = inB 0 255 cl by simp [rpointB, h1, h2, h3, h4, h5, h6, h7, h8, h9, h10])
                      have H1 := hid h1
                      have H2 := hid h2
                      have H3 := hid h3
                      have H4 := hid h4
                      have H5 := hid h5
                      have H6 := hid h6
                      have H7 := hid h7
                      have H8 := hid h8
                      have H9 := hid h9
                      have H10 := hid h10
                      clear h1 h2 h3 h4 h5 h6 h7 h8 h9 h10
                      have D4 := H4.out
                      have D5 := H5.out
                      have D6 := H6.out
                      have D8 := H8.out
                      have D9 := H9.out
                      have D10 := H10.out
                      go_enter Try.func30, Try.ntmps30
                      go_wp2_with fail
                      refine (from_any _ _ _ _).mono ?_
                      rintro r w9 ⟨rfl, rfl⟩
                      rw [H1.out]
                      go_wp2_with fail
                      refine (from_any _ _ _ _).mono ?_
                      rintro r w9 ⟨rfl, rfl⟩
                      rw [H2.out]
                      go_wp2_with fail
                      refine (from_any _ _ _ _).mono ?_
                      rintro r w9 ⟨rfl, rfl⟩
                      rw [H3.out]
                      go_wp2_with fail
                      refine (from_any _ _ _ _).mono ?_
                      rintro r w9 ⟨rfl, rfl⟩
                      rw [H7.out]
                      go_wp2_with fail
                      refine (from_any _ _ _ _).mono ?_
                      rintro r w9 ⟨rfl, rfl⟩
                      go_wp2_with fail
                      go_ret
                      refine ⟨by rw [HS.out]; rfl, ?_⟩
                      (try have hB0 := HB.out)
                      (repeat' (first | (with_reducible exact Below.refl _ _) | (with_reducible assumption) | (with_reducible refine Below.alloc ?_ ?_ _) | (with_reducible refine Below.drew ?_) | (with_reducible refine below_drewN ?_ _) | (with_reducible refine Below.setCell ?_ ?_ _) | (with_reducible refine below_setRow ?_ ?_ _) | go_size))
                    · have HS := hid (show rpointB id x y zl zh wd nm of cl = false by simp [rpointB, h1, h2, h3, h4, h5, h6, h7, h8, h9, h10])
                      have H1 := hid h1
                      have H2 := hid h2
                      have H3 := hid h3
                      have H4 := hid h4
                      have H5 := hid h5
                      have H6 := hid h6
                      have H7 := hid h7
                      have H8 := hid h8
                      have H9 := hid h9
                      have H10 := hid (Bool.eq_false_iff.2 h10)
                      clear h1 h2 h3 h4 h5 h6 h7 h8 h9 h10
                      have D4 := H4.out
                      have D5 := H5.out
                      have D6 := H6.out
                      have D8 := H8.out
                      have D9 := H9.out
                      have D10 := H10.out
                      go_enter Try.func30, Try.ntmps30
                      go_wp2_with fail
                      refine (from_any _ _ _ _).mono ?_
                      rintro r w9 ⟨rfl, rfl⟩
                      rw [H1.out]
                      go_wp2_with fail
                      refine (from_any _ _ _ _).mono ?_
                      rintro r w9 ⟨rfl, rfl⟩
                      rw [H2.out]
                      go_wp2_with fail
                      refine (from_any _ _ _ _).mono ?_
                      rintro r w9 ⟨rfl, rfl⟩
                      rw [H3.out]
                      go_wp2_with fail
                      refine (from_any _ _ _ _).mono ?_
                      rintro r w9 ⟨rfl, rfl⟩
                      rw [H7.out]
                      go_wp2_with fail
                      go_ret
                      refine ⟨by rw [HS.out]; rfl, ?_⟩
                      (try have hB0 := HB.out)
                      (repeat' (first | (with_reducible exact Below.refl _ _) | (with_reducible assumption) | (with_reducible refine Below.alloc ?_ ?_ _) | (with_reducible refine Below.drew ?_) | (with_reducible refine below_drewN ?_ _) | (with_reducible refine Below.setCell ?_ ?_ _) | (with_reducible refine below_setRow ?_ ?_ _) | go_size))
                  · have HS := hid (show rpointB id x y zl zh wd nm of cl = false by simp [rpointB, h1, h2, h3, h4, h5, h6, h7, h8, h9])
                    have H1 := hid h1
                    have H2 := hid h2
                    have H3 := hid h3
                    have H4 := hid h4
                    have H5 := hid h5
                    have H6 := hid h6
                    have H7 := hid h7
                    have H8 := hid h8
                    have H9 := hid (Bool.eq_false_iff.2 h9)
                    clear h1 h2 h3 h4 h5 h6 h7 h8 h9
                    have D4 := H4.out
                    have D5 := H5.out
                    have D6 := H6.out
                    have D8 := H8.out
                    have D9 := H9.out
                    go_enter Try.func30, Try.ntmps30
                    go_wp2_with fail
                    refine (from_any _ _ _ _).mono ?_
                    rintro r w9 ⟨rfl, rfl⟩
                    rw [H1.out]
                    go_wp2_with fail
                    refine (from_any _ _ _ _).mono ?_
                    rintro r w9 ⟨rfl, rfl⟩
                    rw [H2.out]
                    go_wp2_with fail
                    refine (from_any _ _ _ _).mono ?_
                    rintro r w9 ⟨rfl, rfl⟩
                    rw [H3.out]
                    go_wp2_with fail
                    refine (from_any _ _ _ _).mono ?_
                    rintro r w9 ⟨rfl, rfl⟩
                    rw [H7.out]
                    go_wp2_with fail
                    go_ret
                    refine ⟨by rw [HS.out]; rfl, ?_⟩
                    (try have hB0 := HB.out)
                    (repeat' (first | (with_reducible exact Below.refl _ _) | (with_reducible assumption) | (with_reducible refine Below.alloc ?_ ?_ _) | (with_reducible refine Below.drew ?_) | (with_reducible refine below_drewN ?_ _) | (with_reducible refine Below.setCell ?_ ?_ _) | (with_reducible refine below_setRow ?_ ?_ _) | go_size))
                · have HS := hid (show rpointB id x y zl zh wd nm of cl = false by simp [rpointB, h1, h2, h3, h4, h5, h6, h7, h8])
                  have H1 := hid h1
                  have H2 := hid h2
                  have H3 := hid h3
                  have H4 := hid h4
                  have H5 := hid h5
                  have H6 := hid h6
                  have H7 := hid h7
                  have H8 := hid (Bool.eq_false_iff.2 h8)
                  clear h1 h2 h3 h4 h5 h6 h7 h8
                  have D4 := H4.out
                  have D5 := H5.out
                  have D6 := H6.out
                  have D8 := H8.out
                  go_enter Try.func30, Try.ntmps30
                  go_wp2_with fail
                  refine (from_any _ _ _ _).mono ?_
                  rintro r w9 ⟨rfl, rfl⟩
                  rw [H1.out]
                  go_wp2_with fail
                  refine (from_any _ _ _ _).mono ?_
                  rintro r w9 ⟨rfl, rfl⟩
                  rw [H2.out]
                  go_wp2_with fail
                  refine (from_any _ _ _ _).mono ?_
                  rintro r w9 ⟨rfl, rfl⟩
                  rw [H3.out]
                  go_wp2_with fail
                  refine (from_any _ _ _ _).mono ?_
                  rintro r w9 ⟨rfl, rfl⟩
                  rw [H7.out]
                  go_wp2_with fail
                  go_ret
                  refine ⟨by rw [HS.out]; rfl, ?_⟩
                  (try have hB0 := HB.out)
                  (repeat' (first | (with_reducible exact Below.refl _ _) | (with_reducible assumption) | (with_reducible refine Below.alloc ?_ ?_ _) | (with_reducible refine Below.drew ?_) | (with_reducible refine below_drewN ?_ _) | (with_reducible refine Below.setCell ?_ ?_ _) | (with_reducible refine below_setRow ?_ ?_ _) | go_size))
              · have HS := hid (show rpointB id x y zl zh wd nm of cl = false by simp [rpointB, h1, h2, h3, h4, h5, h6, h7])
                have H1 := hid h1
                have H2 := hid h2
                have H3 := hid h3
                have H4 := hid h4
                have H5 := hid h5
                have H6 := hid h6
                have H7 := hid (Bool.eq_false_iff.2 h7)
                clear h1 h2 h3 h4 h5 h6 h7
                have D4 := H4.out
                have D5 := H5.out
                have D6 := H6.out
                go_enter Try.func30, Try.ntmps30
                go_wp2_with fail
                refine (from_any _ _ _ _).mono ?_
                rintro r w9 ⟨rfl, rfl⟩
                rw [H1.out]
                go_wp2_with fail
                refine (from_any _ _ _ _).mono ?_
                rintro r w9 ⟨rfl, rfl⟩
                rw [H2.out]
                go_wp2_with fail
                refine (from_any _ _ _ _).mono ?_
                rintro r w9 ⟨rfl, rfl⟩
                rw [H3.out]
                go_wp2_with fail
                refine (from_any _ _ _ _).mono ?_
                rintro r w9 ⟨rfl, rfl⟩
                rw [H7.out]
                go_wp2_with fail
                go_ret
                refine ⟨by rw [HS.out]; rfl, ?_⟩
                (try have hB0 := HB.out)
                (repeat' (first | (with_reducible exact Below.refl _ _) | (with_reducible assumption) | (with_reducible refine Below.alloc ?_ ?_ _) | (with_reducible refine Below.drew ?_) | (with_reducible refine below_drewN ?_ _) | (with_reducible refine Below.setCell ?_ ?_ _) | (with_reducible refine below_setRow ?_ ?_ _) | go_size))
            · have HS := hid (show rpointB id x y zl zh wd nm of cl = false by simp [rpointB, h1, h2, h3, h4, h5, h6])
              have H1 := hid h1
              have H2 := hid h2
              have H3 := hid h3
              have H4 := hid h4
              have H5 := hid h5
              have H6 := hid (Bool.eq_false_iff.2 h6)
              clear h1 h2 h3 h4 h5 h6
              have D4 := H4.out
              have D5 := H5.out
              have D6 := H6.out
              go_enter Try.func30, Try.ntmps30
              go_wp2_with fail
              refine (from_any _ _ _ _).mono ?_
              rintro r w9 ⟨rfl, rfl⟩
              rw [H1.out]
              go_wp2_with fail
              refine (from_any _ _ _ _).mono ?_
              rintro r w9 ⟨rfl, rfl⟩
              rw [H2.out]
              go_wp2_with fail
              refine (from_any _ _ _ _).mono ?_
              rintro r w9 ⟨rfl, rfl⟩
              rw [H3.out]
              go_wp2_with fail
              go_ret
              refine ⟨by rw [HS.out]; rfl, ?_⟩
              (try have hB0 := HB.out)
              (repeat' (first | (with_reducible exact Below.refl _ _) | (with_reducible assumption) | (with_reducible refine Below.alloc ?_ ?_ _) | (with_reducible refine Below.drew ?_) | (with_reducible refine below_drewN ?_ _) | (with_reducible refine Below.setCell ?_ ?_ _) | (with_reducible refine below_setRow ?_ ?_ _) | go_size))
          · have HS := hid (show rpointB id x y zl zh wd nm of cl = false by simp [rpointB, h1, h2, h3, h4, h5])
            have H1 := hid h1
            have H2 := hid h2
            have H3 := hid h3
            have H4 := hid h4
            have H5 := hid (Bool.eq_false_iff.2 h5)
            clear h1 h2 h3 h4 h5
            have D4 := H4.out
            have D5 := H5.out
            go_enter Try.func30, Try.ntmps30
            go_wp2_with fail
            refine (from_any _ _ _ _).mono ?_
            rintro r w9 ⟨rfl, rfl⟩
            rw [H1.out]
            go_wp2_with fail
            refine (from_any _ _ _ _).mono ?_
            rintro r w9 ⟨rfl, rfl⟩
            rw [H2.out]
            go_wp2_with fail
            refine (from_any _ _ _ _).mono ?_
            rintro r w9 ⟨rfl, rfl⟩
            rw [H3.out]
            go_wp2_with fail
            go_ret
            refine ⟨by rw [HS.out]; rfl, ?_⟩
            (try have hB0 := HB.out)
            (repeat' (first | (with_reducible exact Below.refl _ _) | (with_reducible assumption) | (with_reducible refine Below.alloc ?_ ?_ _) | (with_reducible refine Below.drew ?_) | (with_reducible refine below_drewN ?_ _) | (with_reducible refine Below.setCell ?_ ?_ _) | (with_reducible refine below_setRow ?_ ?_ _) | go_size))
        · have HS := hid (show rpointB id x y zl zh wd nm of cl = false by simp [rpointB, h1, h2, h3, h4])
          have H1 := hid h1
          have H2 := hid h2
          have H3 := hid h3
          have H4 := hid (Bool.eq_false_iff.2 h4)
          clear h1 h2 h3 h4
          have D4 := H4.out
          go_enter Try.func30, Try.ntmps30
          go_wp2_with fail
          refine (from_any _ _ _ _).mono ?_
          rintro r w9 ⟨rfl, rfl⟩
          rw [H1.out]
          go_wp2_with fail
          refine (from_any _ _ _ _).mono ?_
          rintro r w9 ⟨rfl, rfl⟩
          rw [H2.out]
          go_wp2_with fail
          refine (from_any _ _ _ _).mono ?_
          rintro r w9 ⟨rfl, rfl⟩
          rw [H3.out]
          go_wp2_with fail
          go_ret
          refine ⟨by rw [HS.out]; rfl, ?_⟩
          (try have hB0 := HB.out)
          (repeat' (first | (with_reducible exact Below.refl _ _) | (with_reducible assumption) | (with_reducible refine Below.alloc ?_ ?_ _) | (with_reducible refine Below.drew ?_) | (with_reducible refine below_drewN ?_ _) | (with_reducible refine Below.setCell ?_ ?_ _) | (with_reducible refine below_setRow ?_ ?_ _) | go_size))
      · have HS := hid (show rpointB id x y zl zh wd nm of cl = false by simp [rpointB, h1, h2, h3])
        have H1 := hid h1
        have H2 := hid h2
        have H3 := hid (Bool.eq_false_iff.2 h3)
        clear h1 h2 h3
        go_enter Try.func30, Try.ntmps30
        go_wp2_with fail
        refine (from_any _ _ _ _).mono ?_
        rintro r w9 ⟨rfl, rfl⟩
        rw [H1.out]
        go_wp2_with fail
        refine (from_any _ _ _ _).mono ?_
        rintro r w9 ⟨rfl, rfl⟩
        rw [H2.out]
        go_wp2_with fail
        refine (from_any _ _ _ _).mono ?_
        rintro r w9 ⟨rfl, rfl⟩
        rw [H3.out]
        go_wp2_with fail
        go_ret
        refine ⟨by rw [HS.out]; rfl, ?_⟩
        (try have hB0 := HB.out)
        (repeat' (first | (with_reducible exact Below.refl _ _) | (with_reducible assumption) | (with_reducible refine Below.alloc ?_ ?_ _) | (with_reducible refine Below.drew ?_) | (with_reducible refine below_drewN ?_ _) | (with_reducible refine Below.setCell ?_ ?_ _) | (with_reducible refine below_setRow ?_ ?_ _) | go_size))
    · have HS := hid (show rpointB id x y zl zh wd nm of cl = false by simp [rpointB, h1, h2])
      have H1 := hid h1
      have H2 := hid (Bool.eq_false_iff.2 h2)
      clear h1 h2
      go_enter Try.func30, Try.ntmps30
      go_wp2_with fail
      refine (from_any _ _ _ _).mono ?_
      rintro r w9 ⟨rfl, rfl⟩
      rw [H1.out]
      go_wp2_with fail
      refine (from_any _ _ _ _).mono ?_
      rintro r w9 ⟨rfl, rfl⟩
      rw [H2.out]
      go_wp2_with fail
      go_ret
      refine ⟨by rw [HS.out]; rfl, ?_⟩
      (try have hB0 := HB.out)
      (repeat' (first | (with_reducible exact Below.refl _ _) | (with_reducible assumption) | (with_reducible refine Below.alloc ?_ ?_ _) | (with_reducible refine Below.drew ?_) | (with_reducible refine below_drewN ?_ _) | (with_reducible refine Below.setCell ?_ ?_ _) | (with_reducible refine below_setRow ?_ ?_ _) | go_size))
  · have HS := hid (show rpointB id x y zl zh wd nm of cl = false by simp [rpointB, h1])
    have H1 := hid (Bool.eq_false_iff.2 h1)
    clear h1
    go_enter Try.func30, Try.ntmps30
    go_wp2_with fail
    refine (from_any _ _ _ _).mono ?_
    rintro r w9 ⟨rfl, rfl⟩
    rw [H1.out]
    go_wp2_with fail
    go_ret
    refine ⟨by rw [HS.out]; rfl, ?_⟩
    (try have hB0 := HB.out)
    (repeat' (first | (with_reducible exact Below.refl _ _) | (with_reducible assumption) | (with_reducible refine Below.alloc ?_ ?_ _) | (with_reducible refine Below.drew ?_) | (with_reducible refine below_drewN ?_ _) | (with_reducible refine Below.setCell ?_ ?_ _) | (with_reducible refine below_setRow ?_ ?_ _) | go_size))
end Go.Proofs.Yteanlcefdoigcaa
