/- The cell of a point at a level, with its refusals: what the program and its reference return. -/
import Derived.Test.YteanlcefdoigcaaGood
import Derived.Test.YteanlcefdoigcaaCell
import Derived.Test.YteanlcefdoigcaaAbove
namespace Go.Proofs.Yteanlcefdoigcaa
open Go.RowKit

def ptOf (id x y zl zh wd nm of cl : Int) : Nat → Nat → Int := fun _ j => match j with | 0 => id | 1 => x | 2 => y | 3 => zl | 4 => zh | 5 => wd | 6 => nm | 7 => of | _ => cl
theorem good_one (id x y zl zh wd nm of cl : Int) : goodV (ptOf id x y zl zh wd nm of cl) 1 = (pointB id x y zl zh wd nm of && inB 0 255 cl) := by
  have e : goodV (ptOf id x y zl zh wd nm of cl) 1 = (inB 0 255 cl && (pointB id x y zl zh wd nm of && true)) := rfl
  rw [e, Bool.and_true, Bool.and_comm]
theorem point_coords {id x y zl zh wd nm of cl : Int} (h : (pointB id x y zl zh wd nm of && inB 0 255 cl) = true) : (-268435456 ≤ x ∧ x ≤ 268435456) ∧ (-268435456 ≤ y ∧ y ≤ 268435456) ∧ (-268435456 ≤ zl ∧ zl ≤ 268435456) := by
  simp [pointB, placeB, inB] at h
  omega
/-- the key and the answer -/
def cellOfV (id x y zl zh wd nm of cl L : Int) : Value :=
  if (pointB id x y zl zh wd nm of && inB 0 255 cl) = true then (if 0 ≤ L ∧ L ≤ 12 then .tuple #[.agg (cellC L.toNat x y zl), .int .i64 0] else .tuple #[.agg noKeyC, .int .i64 2]) else .tuple #[.agg noKeyC, .int .i64 70]
set_option maxRecDepth 100000 in
theorem rCellOf_any (id x y zl zh wd nm of cl L : Int) (w : World) :
    Calls Try.prog 20 #[.agg #[.int .i64 id, .int .i64 x, .int .i64 y, .int .i64 zl, .int .i64 zh, .int .i64 wd, .int .i64 nm, .int .i64 of, .int .i64 cl], .int .i64 L] w fun e w' => e = .returned (cellOfV id x y zl zh wd nm of cl L) ∧ Below w.heap.size w w' := by
  cases hg : (pointB id x y zl zh wd nm of && inB 0 255 cl)
  · have HV := hid (show cellOfV id x y zl zh wd nm of cl L = .tuple #[.agg noKeyC, .int .i64 70] by unfold cellOfV; rw [hg]; rfl)
    have HG := hid hg
    clear hg
    go_enter Try.func20, Try.ntmps20
    go_wp2_with fail
    refine (rPoint_any _ _ _ _ _ _ _ _ _ _).mono ?_
    rintro r w4 ⟨rfl, hb⟩
    have HB := hid ((by refine Below.trans ?_ (hb.mono ?_); (focus ((repeat' (first | (with_reducible exact Below.refl _ _) | (with_reducible assumption) | (with_reducible refine Below.alloc ?_ ?_ _) | (with_reducible refine Below.drew ?_) | (with_reducible refine below_drewN ?_ _) | (with_reducible refine Below.setCell ?_ ?_ _) | (with_reducible refine below_setRow ?_ ?_ _) | go_size)); done)); (focus (first | (simp; done) | (simp; omega)))) : Below w.heap.size w w4)
    have HR := hid (show w4.heap[w.heap.size + 1]? = some (.cells noKeyC 39) from heap_still hb (heap_alloc_at _ _ _ (by simp)))
    clear hb
    rw [HG.out]
    go_wp2_with (refine wpList_store_at rfl 39 (.tmp 4) (.tmp 9) rfl rfl rfl HR.out size39 rfl rfl rfl ?_)
    refine bodyPost_ret (results_at2 rfl rfl (setRow_heap _ _ _ _ _ _ HR.out) Try.underlying39 rfl size39 rfl) rfl ?_
    exact ⟨by rw [HV.out]; rfl, below_setRow HB.out (by omega) _⟩
  · have hpc := point_coords hg
    have HG := hid hg
    by_cases hL : 0 ≤ L ∧ L ≤ 12
    · have HV := hid (show cellOfV id x y zl zh wd nm of cl L = .tuple #[.agg (cellC L.toNat x y zl), .int .i64 0] by unfold cellOfV; rw [hg, if_pos rfl, if_pos hL])
      have hin : inB 0 12 L = true := by simp [inB]; omega
      have HIN := hid hin
      clear hg hin
      obtain ⟨l, rfl⟩ := Int.eq_ofNat_of_zero_le hL.1
      go_enter Try.func20, Try.ntmps20
      go_wp2_with fail
      refine (rPoint_any _ _ _ _ _ _ _ _ _ _).mono ?_
      rintro r w4 ⟨rfl, hb⟩
      have HB := hid ((by refine Below.trans ?_ (hb.mono ?_); (focus ((repeat' (first | (with_reducible exact Below.refl _ _) | (with_reducible assumption) | (with_reducible refine Below.alloc ?_ ?_ _) | (with_reducible refine Below.drew ?_) | (with_reducible refine below_drewN ?_ _) | (with_reducible refine Below.setCell ?_ ?_ _) | (with_reducible refine below_setRow ?_ ?_ _) | go_size)); done)); (focus (first | (simp; done) | (simp; omega)))) : Below w.heap.size w w4)
      have HR := hid (show w4.heap[w.heap.size + 1]? = some (.cells noKeyC 39) from heap_still hb (heap_alloc_at _ _ _ (by simp)))
      have HP : w4.heap[w.heap.size]? = some (.cells #[.int .i64 id, .int .i64 x, .int .i64 y, .int .i64 zl, .int .i64 zh, .int .i64 wd, .int .i64 nm, .int .i64 of, .int .i64 cl] 36) := heap_still hb (heap_alloc_past _ _ _ _ (heap_alloc_at _ _ _ rfl))
      have c0 : w4.cell? ⟨w.heap.size, 0, none⟩ = some (.int .i64 id) := (cell_row (j := 0) HP).trans rfl
      have c1 : w4.cell? ⟨w.heap.size, 1, none⟩ = some (.int .i64 x) := (cell_row (j := 1) HP).trans rfl
      have c2 : w4.cell? ⟨w.heap.size, 2, none⟩ = some (.int .i64 y) := (cell_row (j := 2) HP).trans rfl
      have c3 : w4.cell? ⟨w.heap.size, 3, none⟩ = some (.int .i64 zl) := (cell_row (j := 3) HP).trans rfl
      have c4 : w4.cell? ⟨w.heap.size, 4, none⟩ = some (.int .i64 zh) := (cell_row (j := 4) HP).trans rfl
      have c5 : w4.cell? ⟨w.heap.size, 5, none⟩ = some (.int .i64 wd) := (cell_row (j := 5) HP).trans rfl
      have c6 : w4.cell? ⟨w.heap.size, 6, none⟩ = some (.int .i64 nm) := (cell_row (j := 6) HP).trans rfl
      have c7 : w4.cell? ⟨w.heap.size, 7, none⟩ = some (.int .i64 of) := (cell_row (j := 7) HP).trans rfl
      have c8 : w4.cell? ⟨w.heap.size, 8, none⟩ = some (.int .i64 cl) := (cell_row (j := 8) HP).trans rfl
      have hs4 : w.heap.size + 1 < w4.heap.size := (Array.getElem?_eq_some_iff.1 HR.out).1
      clear hb HP
      rw [HG.out]
      go_wp2_with fail
      refine (from_any _ _ _ _).mono ?_
      rintro r w5 ⟨rfl, rfl⟩
      rw [HIN.out]
      go_wp2_with fail
      refine (rCell_any _ _ _ _ _ _ _ _ _ l (by omega) hpc.1 hpc.2.1 hpc.2.2 _).mono ?_
      rintro r w6 ⟨rfl, hb⟩
      have HB6 := hid (HB.out.trans (hb.mono (by omega)))
      have HR6 := hid (heap_still hb HR.out)
      clear hb
      go_wp2_with (refine wpList_store_at rfl 39 (.tmp 4) (.tmp 16) rfl rfl rfl HR6.out size39 rfl rfl rfl ?_)
      refine bodyPost_ret (results_at2 rfl rfl (setRow_heap _ _ _ _ _ _ HR6.out) Try.underlying39 rfl size39 rfl) rfl ?_
      exact ⟨by rw [HV.out]; rfl, below_setRow HB6.out (by omega) _⟩
    · have HV := hid (show cellOfV id x y zl zh wd nm of cl L = .tuple #[.agg noKeyC, .int .i64 2] by unfold cellOfV; rw [hg, if_pos rfl, if_neg hL])
      have hin : inB 0 12 L = false := by simp [inB]; omega
      have HIN := hid hin
      clear hg hin
      go_enter Try.func20, Try.ntmps20
      go_wp2_with fail
      refine (rPoint_any _ _ _ _ _ _ _ _ _ _).mono ?_
      rintro r w4 ⟨rfl, hb⟩
      have HB := hid ((by refine Below.trans ?_ (hb.mono ?_); (focus ((repeat' (first | (with_reducible exact Below.refl _ _) | (with_reducible assumption) | (with_reducible refine Below.alloc ?_ ?_ _) | (with_reducible refine Below.drew ?_) | (with_reducible refine below_drewN ?_ _) | (with_reducible refine Below.setCell ?_ ?_ _) | (with_reducible refine below_setRow ?_ ?_ _) | go_size)); done)); (focus (first | (simp; done) | (simp; omega)))) : Below w.heap.size w w4)
      have HR := hid (show w4.heap[w.heap.size + 1]? = some (.cells noKeyC 39) from heap_still hb (heap_alloc_at _ _ _ (by simp)))
      clear hb
      rw [HG.out]
      go_wp2_with fail
      refine (from_any _ _ _ _).mono ?_
      rintro r w5 ⟨rfl, rfl⟩
      rw [HIN.out]
      go_wp2_with (refine wpList_store_at rfl 39 (.tmp 4) (.tmp 13) rfl rfl rfl HR.out size39 rfl rfl rfl ?_)
      refine bodyPost_ret (results_at2 rfl rfl (setRow_heap _ _ _ _ _ _ HR.out) Try.underlying39 rfl size39 rfl) rfl ?_
      exact ⟨by rw [HV.out]; rfl, below_setRow HB.out (by omega) _⟩
set_option maxRecDepth 100000 in
theorem xCellOf_any (id x y zl zh wd nm of cl L : Int) (w : World) :
    Calls Try.prog 19 #[.agg #[.int .i64 id, .int .i64 x, .int .i64 y, .int .i64 zl, .int .i64 zh, .int .i64 wd, .int .i64 nm, .int .i64 of, .int .i64 cl], .int .i64 L] w fun e w' => e = .returned (cellOfV id x y zl zh wd nm of cl L) ∧ Below w.heap.size w w' := by
  cases hg : (pointB id x y zl zh wd nm of && inB 0 255 cl)
  · have HV := hid (show cellOfV id x y zl zh wd nm of cl L = .tuple #[.agg noKeyC, .int .i64 70] by unfold cellOfV; rw [hg]; rfl)
    have HG := hid hg
    clear hg
    go_enter Try.func19, Try.ntmps19
    go_wp2_with fail
    refine (good_any (w.heap.size + 2) 0 1 1 (ptOf id x y zl zh wd nm of cl) _ (by omega) (by unfold maxLen; omega) (by simp) (fun i hi j hj => ?_)).mono ?_
    · obtain rfl : i = 0 := by omega
      rw [cell_row (heap_alloc_at _ _ _ (by simp))]
      match j, hj with
      | 0, _ | 1, _ | 2, _ | 3, _ | 4, _ | 5, _ | 6, _ | 7, _ | 8, _ => rfl
    rintro r w4 ⟨rfl, hb⟩
    have HB := hid ((by refine Below.trans ?_ (hb.mono ?_); (focus ((repeat' (first | (with_reducible exact Below.refl _ _) | (with_reducible assumption) | (with_reducible refine Below.alloc ?_ ?_ _) | (with_reducible refine Below.drew ?_) | (with_reducible refine below_drewN ?_ _) | (with_reducible refine Below.setCell ?_ ?_ _) | (with_reducible refine below_setRow ?_ ?_ _) | go_size)); done)); (focus (first | (simp; done) | (simp; omega)))) : Below w.heap.size w w4)
    have HR := hid (show w4.heap[w.heap.size + 1]? = some (.cells noKeyC 39) from heap_still hb (heap_alloc_past _ _ _ _ (heap_alloc_at _ _ _ (by simp))))
    have HP : w4.heap[w.heap.size]? = some (.cells #[.int .i64 id, .int .i64 x, .int .i64 y, .int .i64 zl, .int .i64 zh, .int .i64 wd, .int .i64 nm, .int .i64 of, .int .i64 cl] 36) := heap_still hb (heap_alloc_past _ _ _ _ (heap_alloc_past _ _ _ _ (heap_alloc_at _ _ _ rfl)))
    have c0 : w4.cell? ⟨w.heap.size, 0, none⟩ = some (.int .i64 id) := (cell_row (j := 0) HP).trans rfl
    have c1 : w4.cell? ⟨w.heap.size, 1, none⟩ = some (.int .i64 x) := (cell_row (j := 1) HP).trans rfl
    have c2 : w4.cell? ⟨w.heap.size, 2, none⟩ = some (.int .i64 y) := (cell_row (j := 2) HP).trans rfl
    have c3 : w4.cell? ⟨w.heap.size, 3, none⟩ = some (.int .i64 zl) := (cell_row (j := 3) HP).trans rfl
    have c4 : w4.cell? ⟨w.heap.size, 4, none⟩ = some (.int .i64 zh) := (cell_row (j := 4) HP).trans rfl
    have c5 : w4.cell? ⟨w.heap.size, 5, none⟩ = some (.int .i64 wd) := (cell_row (j := 5) HP).trans rfl
    have c6 : w4.cell? ⟨w.heap.size, 6, none⟩ = some (.int .i64 nm) := (cell_row (j := 6) HP).trans rfl
    have c7 : w4.cell? ⟨w.heap.size, 7, none⟩ = some (.int .i64 of) := (cell_row (j := 7) HP).trans rfl
    have c8 : w4.cell? ⟨w.heap.size, 8, none⟩ = some (.int .i64 cl) := (cell_row (j := 8) HP).trans rfl
    have hs4 : w.heap.size + 1 < w4.heap.size := (Array.getElem?_eq_some_iff.1 HR.out).1
    clear hb HP
    rw [good_one, HG.out]
    go_wp2_with (refine wpList_store_at rfl 39 (.tmp 4) (.tmp 10) rfl rfl rfl HR.out size39 rfl rfl rfl ?_)
    refine bodyPost_ret (results_at2 rfl rfl (setRow_heap _ _ _ _ _ _ HR.out) Try.underlying39 rfl size39 rfl) rfl ?_
    exact ⟨by rw [HV.out]; rfl, below_setRow HB.out (by omega) _⟩
  · have hpc := point_coords hg
    have HG := hid hg
    by_cases hL : 0 ≤ L ∧ L ≤ 12
    · have HV := hid (show cellOfV id x y zl zh wd nm of cl L = .tuple #[.agg (cellC L.toNat x y zl), .int .i64 0] by unfold cellOfV; rw [hg, if_pos rfl, if_pos hL])
      clear hg
      obtain ⟨l, rfl⟩ := Int.eq_ofNat_of_zero_le hL.1
      have hL0 : ¬ (l : Int) < 0 := by omega
      have hL1 : ¬ 12 < (l : Int) := by omega
      go_enter Try.func19, Try.ntmps19
      go_wp2_with fail
      refine (good_any (w.heap.size + 2) 0 1 1 (ptOf id x y zl zh wd nm of cl) _ (by omega) (by unfold maxLen; omega) (by simp) (fun i hi j hj => ?_)).mono ?_
      · obtain rfl : i = 0 := by omega
        rw [cell_row (heap_alloc_at _ _ _ (by simp))]
        match j, hj with
        | 0, _ | 1, _ | 2, _ | 3, _ | 4, _ | 5, _ | 6, _ | 7, _ | 8, _ => rfl
      rintro r w4 ⟨rfl, hb⟩
      have HB := hid ((by refine Below.trans ?_ (hb.mono ?_); (focus ((repeat' (first | (with_reducible exact Below.refl _ _) | (with_reducible assumption) | (with_reducible refine Below.alloc ?_ ?_ _) | (with_reducible refine Below.drew ?_) | (with_reducible refine below_drewN ?_ _) | (with_reducible refine Below.setCell ?_ ?_ _) | (with_reducible refine below_setRow ?_ ?_ _) | go_size)); done)); (focus (first | (simp; done) | (simp; omega)))) : Below w.heap.size w w4)
      have HR := hid (show w4.heap[w.heap.size + 1]? = some (.cells noKeyC 39) from heap_still hb (heap_alloc_past _ _ _ _ (heap_alloc_at _ _ _ (by simp))))
      have HP : w4.heap[w.heap.size]? = some (.cells #[.int .i64 id, .int .i64 x, .int .i64 y, .int .i64 zl, .int .i64 zh, .int .i64 wd, .int .i64 nm, .int .i64 of, .int .i64 cl] 36) := heap_still hb (heap_alloc_past _ _ _ _ (heap_alloc_past _ _ _ _ (heap_alloc_at _ _ _ rfl)))
      have c0 : w4.cell? ⟨w.heap.size, 0, none⟩ = some (.int .i64 id) := (cell_row (j := 0) HP).trans rfl
      have c1 : w4.cell? ⟨w.heap.size, 1, none⟩ = some (.int .i64 x) := (cell_row (j := 1) HP).trans rfl
      have c2 : w4.cell? ⟨w.heap.size, 2, none⟩ = some (.int .i64 y) := (cell_row (j := 2) HP).trans rfl
      have c3 : w4.cell? ⟨w.heap.size, 3, none⟩ = some (.int .i64 zl) := (cell_row (j := 3) HP).trans rfl
      have c4 : w4.cell? ⟨w.heap.size, 4, none⟩ = some (.int .i64 zh) := (cell_row (j := 4) HP).trans rfl
      have c5 : w4.cell? ⟨w.heap.size, 5, none⟩ = some (.int .i64 wd) := (cell_row (j := 5) HP).trans rfl
      have c6 : w4.cell? ⟨w.heap.size, 6, none⟩ = some (.int .i64 nm) := (cell_row (j := 6) HP).trans rfl
      have c7 : w4.cell? ⟨w.heap.size, 7, none⟩ = some (.int .i64 of) := (cell_row (j := 7) HP).trans rfl
      have c8 : w4.cell? ⟨w.heap.size, 8, none⟩ = some (.int .i64 cl) := (cell_row (j := 8) HP).trans rfl
      have hs4 : w.heap.size + 1 < w4.heap.size := (Array.getElem?_eq_some_iff.1 HR.out).1
      clear hb HP
      rw [good_one, HG.out]
      go_wp2_with fail
      refine (xCell_any _ _ _ _ _ _ _ _ _ l (by omega) hpc.1 hpc.2.1 hpc.2.2 _).mono ?_
      rintro r w6 ⟨rfl, hb⟩
      have HB6 := hid (HB.out.trans (hb.mono (by omega)))
      have HR6 := hid (heap_still hb HR.out)
      clear hb
      go_wp2_with (refine wpList_store_at rfl 39 (.tmp 4) (.tmp 20) rfl rfl rfl HR6.out size39 rfl rfl rfl ?_)
      refine bodyPost_ret (results_at2 rfl rfl (setRow_heap _ _ _ _ _ _ HR6.out) Try.underlying39 rfl size39 rfl) rfl ?_
      exact ⟨by rw [HV.out]; rfl, below_setRow HB6.out (by omega) _⟩
    · have HV := hid (show cellOfV id x y zl zh wd nm of cl L = .tuple #[.agg noKeyC, .int .i64 2] by unfold cellOfV; rw [hg, if_pos rfl, if_neg hL])
      clear hg
      by_cases hL0 : L < 0
      · skip
        go_enter Try.func19, Try.ntmps19
        go_wp2_with fail
        refine (good_any (w.heap.size + 2) 0 1 1 (ptOf id x y zl zh wd nm of cl) _ (by omega) (by unfold maxLen; omega) (by simp) (fun i hi j hj => ?_)).mono ?_
        · obtain rfl : i = 0 := by omega
          rw [cell_row (heap_alloc_at _ _ _ (by simp))]
          match j, hj with
          | 0, _ | 1, _ | 2, _ | 3, _ | 4, _ | 5, _ | 6, _ | 7, _ | 8, _ => rfl
        rintro r w4 ⟨rfl, hb⟩
        have HB := hid ((by refine Below.trans ?_ (hb.mono ?_); (focus ((repeat' (first | (with_reducible exact Below.refl _ _) | (with_reducible assumption) | (with_reducible refine Below.alloc ?_ ?_ _) | (with_reducible refine Below.drew ?_) | (with_reducible refine below_drewN ?_ _) | (with_reducible refine Below.setCell ?_ ?_ _) | (with_reducible refine below_setRow ?_ ?_ _) | go_size)); done)); (focus (first | (simp; done) | (simp; omega)))) : Below w.heap.size w w4)
        have HR := hid (show w4.heap[w.heap.size + 1]? = some (.cells noKeyC 39) from heap_still hb (heap_alloc_past _ _ _ _ (heap_alloc_at _ _ _ (by simp))))
        have HP : w4.heap[w.heap.size]? = some (.cells #[.int .i64 id, .int .i64 x, .int .i64 y, .int .i64 zl, .int .i64 zh, .int .i64 wd, .int .i64 nm, .int .i64 of, .int .i64 cl] 36) := heap_still hb (heap_alloc_past _ _ _ _ (heap_alloc_past _ _ _ _ (heap_alloc_at _ _ _ rfl)))
        have c0 : w4.cell? ⟨w.heap.size, 0, none⟩ = some (.int .i64 id) := (cell_row (j := 0) HP).trans rfl
        have c1 : w4.cell? ⟨w.heap.size, 1, none⟩ = some (.int .i64 x) := (cell_row (j := 1) HP).trans rfl
        have c2 : w4.cell? ⟨w.heap.size, 2, none⟩ = some (.int .i64 y) := (cell_row (j := 2) HP).trans rfl
        have c3 : w4.cell? ⟨w.heap.size, 3, none⟩ = some (.int .i64 zl) := (cell_row (j := 3) HP).trans rfl
        have c4 : w4.cell? ⟨w.heap.size, 4, none⟩ = some (.int .i64 zh) := (cell_row (j := 4) HP).trans rfl
        have c5 : w4.cell? ⟨w.heap.size, 5, none⟩ = some (.int .i64 wd) := (cell_row (j := 5) HP).trans rfl
        have c6 : w4.cell? ⟨w.heap.size, 6, none⟩ = some (.int .i64 nm) := (cell_row (j := 6) HP).trans rfl
        have c7 : w4.cell? ⟨w.heap.size, 7, none⟩ = some (.int .i64 of) := (cell_row (j := 7) HP).trans rfl
        have c8 : w4.cell? ⟨w.heap.size, 8, none⟩ = some (.int .i64 cl) := (cell_row (j := 8) HP).trans rfl
        have hs4 : w.heap.size + 1 < w4.heap.size := (Array.getElem?_eq_some_iff.1 HR.out).1
        clear hb HP
        rw [good_one, HG.out]
        go_wp2_with (refine wpList_store_at rfl 39 (.tmp 4) (.tmp 17) rfl rfl rfl HR.out size39 rfl rfl rfl ?_)
        refine bodyPost_ret (results_at2 rfl rfl (setRow_heap _ _ _ _ _ _ HR.out) Try.underlying39 rfl size39 rfl) rfl ?_
        exact ⟨by rw [HV.out]; rfl, below_setRow HB.out (by omega) _⟩
      · have hL1 : 12 < L := by omega
        go_enter Try.func19, Try.ntmps19
        go_wp2_with fail
        refine (good_any (w.heap.size + 2) 0 1 1 (ptOf id x y zl zh wd nm of cl) _ (by omega) (by unfold maxLen; omega) (by simp) (fun i hi j hj => ?_)).mono ?_
        · obtain rfl : i = 0 := by omega
          rw [cell_row (heap_alloc_at _ _ _ (by simp))]
          match j, hj with
          | 0, _ | 1, _ | 2, _ | 3, _ | 4, _ | 5, _ | 6, _ | 7, _ | 8, _ => rfl
        rintro r w4 ⟨rfl, hb⟩
        have HB := hid ((by refine Below.trans ?_ (hb.mono ?_); (focus ((repeat' (first | (with_reducible exact Below.refl _ _) | (with_reducible assumption) | (with_reducible refine Below.alloc ?_ ?_ _) | (with_reducible refine Below.drew ?_) | (with_reducible refine below_drewN ?_ _) | (with_reducible refine Below.setCell ?_ ?_ _) | (with_reducible refine below_setRow ?_ ?_ _) | go_size)); done)); (focus (first | (simp; done) | (simp; omega)))) : Below w.heap.size w w4)
        have HR := hid (show w4.heap[w.heap.size + 1]? = some (.cells noKeyC 39) from heap_still hb (heap_alloc_past _ _ _ _ (heap_alloc_at _ _ _ (by simp))))
        have HP : w4.heap[w.heap.size]? = some (.cells #[.int .i64 id, .int .i64 x, .int .i64 y, .int .i64 zl, .int .i64 zh, .int .i64 wd, .int .i64 nm, .int .i64 of, .int .i64 cl] 36) := heap_still hb (heap_alloc_past _ _ _ _ (heap_alloc_past _ _ _ _ (heap_alloc_at _ _ _ rfl)))
        have c0 : w4.cell? ⟨w.heap.size, 0, none⟩ = some (.int .i64 id) := (cell_row (j := 0) HP).trans rfl
        have c1 : w4.cell? ⟨w.heap.size, 1, none⟩ = some (.int .i64 x) := (cell_row (j := 1) HP).trans rfl
        have c2 : w4.cell? ⟨w.heap.size, 2, none⟩ = some (.int .i64 y) := (cell_row (j := 2) HP).trans rfl
        have c3 : w4.cell? ⟨w.heap.size, 3, none⟩ = some (.int .i64 zl) := (cell_row (j := 3) HP).trans rfl
        have c4 : w4.cell? ⟨w.heap.size, 4, none⟩ = some (.int .i64 zh) := (cell_row (j := 4) HP).trans rfl
        have c5 : w4.cell? ⟨w.heap.size, 5, none⟩ = some (.int .i64 wd) := (cell_row (j := 5) HP).trans rfl
        have c6 : w4.cell? ⟨w.heap.size, 6, none⟩ = some (.int .i64 nm) := (cell_row (j := 6) HP).trans rfl
        have c7 : w4.cell? ⟨w.heap.size, 7, none⟩ = some (.int .i64 of) := (cell_row (j := 7) HP).trans rfl
        have c8 : w4.cell? ⟨w.heap.size, 8, none⟩ = some (.int .i64 cl) := (cell_row (j := 8) HP).trans rfl
        have hs4 : w.heap.size + 1 < w4.heap.size := (Array.getElem?_eq_some_iff.1 HR.out).1
        clear hb HP
        rw [good_one, HG.out]
        go_wp2_with (refine wpList_store_at rfl 39 (.tmp 4) (.tmp 17) rfl rfl rfl HR.out size39 rfl rfl rfl ?_)
        refine bodyPost_ret (results_at2 rfl rfl (setRow_heap _ _ _ _ _ _ HR.out) Try.underlying39 rfl size39 rfl) rfl ?_
        exact ⟨by rw [HV.out]; rfl, below_setRow HB.out (by omega) _⟩
end Go.Proofs.Yteanlcefdoigcaa
