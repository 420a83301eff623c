/- The cell above a key: what the program and its reference return. -/
import Derived.Test.YteanlcefdoigcaaKey
namespace Go.Proofs.Yteanlcefdoigcaa
open Go.RowKit

/-- the key above, and whether there is one -/
def aboveC (L x y z : Int) : Array Value := #[.int .i64 (L - 1), .int .i64 (x / 2), .int .i64 (y / 2), .int .i64 (z / 2)]
def noKeyC : Array Value := #[.int .i64 0, .int .i64 0, .int .i64 0, .int .i64 0]
def aboveB (L x y z : Int) : Bool := keyB L x y z && !decide (L = 0)
def aboveV (L x y z : Int) : Value := if aboveB L x y z = true then .tuple #[.agg (aboveC L x y z), .int .i64 0] else .tuple #[.agg noKeyC, .int .i64 80]
theorem aboveV_yes {L x y z : Int} (h : keyB L x y z = true) (h0 : L ≠ 0) : aboveV L x y z = .tuple #[.agg (aboveC L x y z), .int .i64 0] := by
  unfold aboveV aboveB; rw [h]; simp [h0]
theorem aboveV_no {L x y z : Int} (h : keyB L x y z = false ∨ L = 0) : aboveV L x y z = .tuple #[.agg noKeyC, .int .i64 80] := by
  unfold aboveV aboveB
  rcases h with h | h
  · rw [h]; simp
  · simp [h]
theorem keyB_yes {L x y z : Int} (h : keyB L x y z = true) : (0 ≤ L ∧ L ≤ 12) ∧ (0 ≤ x ∧ x < 4096) ∧ (0 ≤ y ∧ y < 4096) ∧ (0 ≤ z ∧ z < 4096) := by
  unfold keyB at h
  simp [inB] at h
  have := powL_bd (L := L) (by omega)
  omega
theorem half_i64 {x : Int} (h : 0 ≤ x ∧ x < 4096) : IntKind.i64.wrap (x.tdiv 2) = x / 2 := by
  rw [Int.tdiv_eq_ediv_of_nonneg h.1, IntKind.wrap_i64]
  omega
set_option maxRecDepth 100000 in
theorem xAbove_any (L x y z : Int) (w : World) :
    Calls Try.prog 21 #[.agg #[.int .i64 L, .int .i64 x, .int .i64 y, .int .i64 z]] w fun e w' => e = .returned (aboveV L x y z) ∧ Below w.heap.size w w' := by
  cases hk : keyB L x y z
  · have HV := hid (aboveV_no (.inl hk))
    have HK := hid hk
    clear hk
    go_enter Try.func21, Try.ntmps21
    go_wp2_with fail
    refine (xKey_any L x y z _).mono ?_
    rintro r w4 ⟨rfl, hb⟩
    have HB := hid ((by refine Below.trans ?_ (hb.mono ?_); (focus ((repeat' (first | (with_reducible exact Below.refl _ _) | (with_reducible assumption) | (with_reducible refine Below.alloc ?_ ?_ _) | (with_reducible refine Below.drew ?_) | (with_reducible refine below_drewN ?_ _) | (with_reducible refine Below.setCell ?_ ?_ _) | (with_reducible refine below_setRow ?_ ?_ _) | go_size)); done)); (focus (first | (simp; done) | (simp; omega)))) : Below w.heap.size w w4)
    have HR := hid (show w4.heap[w.heap.size + 1]? = some (.cells noKeyC 39) from heap_still hb (heap_alloc_at _ _ _ (by simp)))
    have HK4 : w4.heap[w.heap.size]? = some (.cells #[.int .i64 L, .int .i64 x, .int .i64 y, .int .i64 z] 39) := heap_still hb (heap_alloc_past _ _ _ _ (heap_alloc_at _ _ _ rfl))
    have hc0 : w4.cell? ⟨w.heap.size, 0, none⟩ = some (.int .i64 L) := by rw [cell_row HK4]; rfl
    have hc1 : w4.cell? ⟨w.heap.size, 1, none⟩ = some (.int .i64 x) := by rw [cell_row HK4]; rfl
    have hc2 : w4.cell? ⟨w.heap.size, 2, none⟩ = some (.int .i64 y) := by rw [cell_row HK4]; rfl
    have hc3 : w4.cell? ⟨w.heap.size, 3, none⟩ = some (.int .i64 z) := by rw [cell_row HK4]; rfl
    clear hb HK4
    rw [HK.out]
    go_wp2_with (refine wpList_store_at rfl 39 (.tmp 2) (.tmp 12) rfl rfl rfl HR.out size39 rfl rfl rfl ?_)
    refine bodyPost_ret (results_at2 rfl rfl (setRow_heap _ _ _ _ _ _ HR.out) Try.underlying39 rfl size39 rfl) rfl ?_
    exact ⟨by rw [HV.out]; rfl, below_setRow HB.out (by omega) _⟩
  · have hbd := keyB_yes hk
    have HK := hid hk
    clear hk
    by_cases h0 : L = 0
    · subst h0
      have HV := hid (aboveV_no (L := 0) (x := x) (y := y) (z := z) (.inr rfl))
      go_enter Try.func21, Try.ntmps21
      go_wp2_with fail
      refine (xKey_any 0 x y z _).mono ?_
      rintro r w4 ⟨rfl, hb⟩
      have HB := hid ((by refine Below.trans ?_ (hb.mono ?_); (focus ((repeat' (first | (with_reducible exact Below.refl _ _) | (with_reducible assumption) | (with_reducible refine Below.alloc ?_ ?_ _) | (with_reducible refine Below.drew ?_) | (with_reducible refine below_drewN ?_ _) | (with_reducible refine Below.setCell ?_ ?_ _) | (with_reducible refine below_setRow ?_ ?_ _) | go_size)); done)); (focus (first | (simp; done) | (simp; omega)))) : Below w.heap.size w w4)
      have HR := hid (show w4.heap[w.heap.size + 1]? = some (.cells noKeyC 39) from heap_still hb (heap_alloc_at _ _ _ (by simp)))
      have HK4 : w4.heap[w.heap.size]? = some (.cells #[.int .i64 0, .int .i64 x, .int .i64 y, .int .i64 z] 39) := heap_still hb (heap_alloc_past _ _ _ _ (heap_alloc_at _ _ _ rfl))
      have hc0 : w4.cell? ⟨w.heap.size, 0, none⟩ = some (.int .i64 0) := by rw [cell_row HK4]; rfl
      have hc1 : w4.cell? ⟨w.heap.size, 1, none⟩ = some (.int .i64 x) := by rw [cell_row HK4]; rfl
      have hc2 : w4.cell? ⟨w.heap.size, 2, none⟩ = some (.int .i64 y) := by rw [cell_row HK4]; rfl
      have hc3 : w4.cell? ⟨w.heap.size, 3, none⟩ = some (.int .i64 z) := by rw [cell_row HK4]; rfl
      clear hb HK4
      rw [HK.out]
      go_wp2_with (refine wpList_store_at rfl 39 (.tmp 2) (.tmp 12) rfl rfl rfl HR.out size39 rfl rfl rfl ?_)
      refine bodyPost_ret (results_at2 rfl rfl (setRow_heap _ _ _ _ _ _ HR.out) Try.underlying39 rfl size39 rfl) rfl ?_
      exact ⟨by rw [HV.out]; rfl, below_setRow HB.out (by omega) _⟩
    · have HV := hid (aboveV_yes HK.out h0)
      have hwx := half_i64 hbd.2.1
      have hwy := half_i64 hbd.2.2.1
      have hwz := half_i64 hbd.2.2.2
      go_enter Try.func21, Try.ntmps21
      go_wp2_with fail
      refine (xKey_any L x y z _).mono ?_
      rintro r w4 ⟨rfl, hb⟩
      have HB := hid ((by refine Below.trans ?_ (hb.mono ?_); (focus ((repeat' (first | (with_reducible exact Below.refl _ _) | (with_reducible assumption) | (with_reducible refine Below.alloc ?_ ?_ _) | (with_reducible refine Below.drew ?_) | (with_reducible refine below_drewN ?_ _) | (with_reducible refine Below.setCell ?_ ?_ _) | (with_reducible refine below_setRow ?_ ?_ _) | go_size)); done)); (focus (first | (simp; done) | (simp; omega)))) : Below w.heap.size w w4)
      have HR := hid (show w4.heap[w.heap.size + 1]? = some (.cells noKeyC 39) from heap_still hb (heap_alloc_at _ _ _ (by simp)))
      have HK4 : w4.heap[w.heap.size]? = some (.cells #[.int .i64 L, .int .i64 x, .int .i64 y, .int .i64 z] 39) := heap_still hb (heap_alloc_past _ _ _ _ (heap_alloc_at _ _ _ rfl))
      have hc0 : w4.cell? ⟨w.heap.size, 0, none⟩ = some (.int .i64 L) := by rw [cell_row HK4]; rfl
      have hc1 : w4.cell? ⟨w.heap.size, 1, none⟩ = some (.int .i64 x) := by rw [cell_row HK4]; rfl
      have hc2 : w4.cell? ⟨w.heap.size, 2, none⟩ = some (.int .i64 y) := by rw [cell_row HK4]; rfl
      have hc3 : w4.cell? ⟨w.heap.size, 3, none⟩ = some (.int .i64 z) := by rw [cell_row HK4]; rfl
      clear hb HK4
      rw [HK.out]
      go_wp2_with (refine wpList_store_at rfl 39 (.tmp 2) (.tmp 25) rfl rfl rfl HR.out size39 rfl rfl rfl ?_)
      refine bodyPost_ret (results_at2 rfl rfl (setRow_heap _ _ _ _ _ _ HR.out) Try.underlying39 rfl size39 rfl) rfl ?_
      exact ⟨by rw [HV.out]; rfl, below_setRow HB.out (by omega) _⟩
set_option maxRecDepth 100000 in
theorem rAbove_any (L x y z : Int) (w : World) :
    Calls Try.prog 22 #[.agg #[.int .i64 L, .int .i64 x, .int .i64 y, .int .i64 z]] w fun e w' => e = .returned (aboveV L x y z) ∧ Below w.heap.size w w' := by
  cases hk : keyB L x y z
  · have HV := hid (aboveV_no (.inl hk))
    have HK := hid hk
    clear hk
    go_enter Try.func22, Try.ntmps22
    go_wp2_with fail
    refine (rKey_any L x y z _).mono ?_
    rintro r w4 ⟨rfl, hb⟩
    have HB := hid ((by refine Below.trans ?_ (hb.mono ?_); (focus ((repeat' (first | (with_reducible exact Below.refl _ _) | (with_reducible assumption) | (with_reducible refine Below.alloc ?_ ?_ _) | (with_reducible refine Below.drew ?_) | (with_reducible refine below_drewN ?_ _) | (with_reducible refine Below.setCell ?_ ?_ _) | (with_reducible refine below_setRow ?_ ?_ _) | go_size)); done)); (focus (first | (simp; done) | (simp; omega)))) : Below w.heap.size w w4)
    have HR := hid (show w4.heap[w.heap.size + 1]? = some (.cells noKeyC 39) from heap_still hb (heap_alloc_at _ _ _ (by simp)))
    have HK4 : w4.heap[w.heap.size]? = some (.cells #[.int .i64 L, .int .i64 x, .int .i64 y, .int .i64 z] 39) := heap_still hb (heap_alloc_past _ _ _ _ (heap_alloc_at _ _ _ rfl))
    have hc0 : w4.cell? ⟨w.heap.size, 0, none⟩ = some (.int .i64 L) := by rw [cell_row HK4]; rfl
    have hc1 : w4.cell? ⟨w.heap.size, 1, none⟩ = some (.int .i64 x) := by rw [cell_row HK4]; rfl
    have hc2 : w4.cell? ⟨w.heap.size, 2, none⟩ = some (.int .i64 y) := by rw [cell_row HK4]; rfl
    have hc3 : w4.cell? ⟨w.heap.size, 3, none⟩ = some (.int .i64 z) := by rw [cell_row HK4]; rfl
    clear hb HK4
    rw [HK.out]
    go_wp2_with (refine wpList_store_at rfl 39 (.tmp 2) (.tmp 12) rfl rfl rfl HR.out size39 rfl rfl rfl ?_)
    refine bodyPost_ret (results_at2 rfl rfl (setRow_heap _ _ _ _ _ _ HR.out) Try.underlying39 rfl size39 rfl) rfl ?_
    exact ⟨by rw [HV.out]; rfl, below_setRow HB.out (by omega) _⟩
  · have hbd := keyB_yes hk
    have HK := hid hk
    clear hk
    by_cases h0 : L = 0
    · subst h0
      have HV := hid (aboveV_no (L := 0) (x := x) (y := y) (z := z) (.inr rfl))
      go_enter Try.func22, Try.ntmps22
      go_wp2_with fail
      refine (rKey_any 0 x y z _).mono ?_
      rintro r w4 ⟨rfl, hb⟩
      have HB := hid ((by refine Below.trans ?_ (hb.mono ?_); (focus ((repeat' (first | (with_reducible exact Below.refl _ _) | (with_reducible assumption) | (with_reducible refine Below.alloc ?_ ?_ _) | (with_reducible refine Below.drew ?_) | (with_reducible refine below_drewN ?_ _) | (with_reducible refine Below.setCell ?_ ?_ _) | (with_reducible refine below_setRow ?_ ?_ _) | go_size)); done)); (focus (first | (simp; done) | (simp; omega)))) : Below w.heap.size w w4)
      have HR := hid (show w4.heap[w.heap.size + 1]? = some (.cells noKeyC 39) from heap_still hb (heap_alloc_at _ _ _ (by simp)))
      have HK4 : w4.heap[w.heap.size]? = some (.cells #[.int .i64 0, .int .i64 x, .int .i64 y, .int .i64 z] 39) := heap_still hb (heap_alloc_past _ _ _ _ (heap_alloc_at _ _ _ rfl))
      have hc0 : w4.cell? ⟨w.heap.size, 0, none⟩ = some (.int .i64 0) := by rw [cell_row HK4]; rfl
      have hc1 : w4.cell? ⟨w.heap.size, 1, none⟩ = some (.int .i64 x) := by rw [cell_row HK4]; rfl
      have hc2 : w4.cell? ⟨w.heap.size, 2, none⟩ = some (.int .i64 y) := by rw [cell_row HK4]; rfl
      have hc3 : w4.cell? ⟨w.heap.size, 3, none⟩ = some (.int .i64 z) := by rw [cell_row HK4]; rfl
      clear hb HK4
      rw [HK.out]
      go_wp2_with (refine wpList_store_at rfl 39 (.tmp 2) (.tmp 12) rfl rfl rfl HR.out size39 rfl rfl rfl ?_)
      refine bodyPost_ret (results_at2 rfl rfl (setRow_heap _ _ _ _ _ _ HR.out) Try.underlying39 rfl size39 rfl) rfl ?_
      exact ⟨by rw [HV.out]; rfl, below_setRow HB.out (by omega) _⟩
    · have HV := hid (aboveV_yes HK.out h0)
      have hwx := half_i64 hbd.2.1
      have hwy := half_i64 hbd.2.2.1
      have hwz := half_i64 hbd.2.2.2
      go_enter Try.func22, Try.ntmps22
      go_wp2_with fail
      refine (rKey_any L x y z _).mono ?_
      rintro r w4 ⟨rfl, hb⟩
      have HB := hid ((by refine Below.trans ?_ (hb.mono ?_); (focus ((repeat' (first | (with_reducible exact Below.refl _ _) | (with_reducible assumption) | (with_reducible refine Below.alloc ?_ ?_ _) | (with_reducible refine Below.drew ?_) | (with_reducible refine below_drewN ?_ _) | (with_reducible refine Below.setCell ?_ ?_ _) | (with_reducible refine below_setRow ?_ ?_ _) | go_size)); done)); (focus (first | (simp; done) | (simp; omega)))) : Below w.heap.size w w4)
      have HR := hid (show w4.heap[w.heap.size + 1]? = some (.cells noKeyC 39) from heap_still hb (heap_alloc_at _ _ _ (by simp)))
      have HK4 : w4.heap[w.heap.size]? = some (.cells #[.int .i64 L, .int .i64 x, .int .i64 y, .int .i64 z] 39) := heap_still hb (heap_alloc_past _ _ _ _ (heap_alloc_at _ _ _ rfl))
      have hc0 : w4.cell? ⟨w.heap.size, 0, none⟩ = some (.int .i64 L) := by rw [cell_row HK4]; rfl
      have hc1 : w4.cell? ⟨w.heap.size, 1, none⟩ = some (.int .i64 x) := by rw [cell_row HK4]; rfl
      have hc2 : w4.cell? ⟨w.heap.size, 2, none⟩ = some (.int .i64 y) := by rw [cell_row HK4]; rfl
      have hc3 : w4.cell? ⟨w.heap.size, 3, none⟩ = some (.int .i64 z) := by rw [cell_row HK4]; rfl
      clear hb HK4
      rw [HK.out]
      go_wp2_with (refine wpList_store_at rfl 39 (.tmp 2) (.tmp 25) rfl rfl rfl HR.out size39 rfl rfl rfl ?_)
      refine bodyPost_ret (results_at2 rfl rfl (setRow_heap _ _ _ _ _ _ HR.out) Try.underlying39 rfl size39 rfl) rfl ?_
      exact ⟨by rw [HV.out]; rfl, below_setRow HB.out (by omega) _⟩
end Go.Proofs.Yteanlcefdoigcaa
