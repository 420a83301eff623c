/- The program's errors of rules and a track; its pose of a fix. -/
import Derived.Test.YteoikaedpgianaaBetween
import Derived.Test.YteoikaedpgianaaTrackAt
import Derived.Test.YteoikaedpgianaaPartOf
namespace Go.Proofs.Yteoikaedpgianaa
open Go.RowKit Limb

theorem index26_0 (x y z : Int) (W : World) : (Instr.index 26 (.agg #[.int .i64 x, .int .i64 y, .int .i64 z]) (.int .i64 0)).run Try.prog W = .ok (.int .i64 x) W := by kernel_rfl
theorem index26_1 (x y z : Int) (W : World) : (Instr.index 26 (.agg #[.int .i64 x, .int .i64 y, .int .i64 z]) (.int .i64 1)).run Try.prog W = .ok (.int .i64 y) W := by kernel_rfl
theorem index26_2 (x y z : Int) (W : World) : (Instr.index 26 (.agg #[.int .i64 x, .int .i64 y, .int .i64 z]) (.int .i64 2)).run Try.prog W = .ok (.int .i64 z) W := by kernel_rfl
/-- the pose of a fix -/
def fixPose (a : Nat → Int) : Value := poseA (a 1 - a 4) (a 1 + a 4) (a 2 - a 4) (a 2 + a 4) (a 3 - a 4) (a 3 + a 4) (a 5) (a 6) (a 7) (a 8) (a 9)
set_option maxRecDepth 100000 in
set_option maxHeartbeats 1600000 in
theorem poseOf_any (a : Nat → Int) (w : World) (ha : fixF a = true) :
    Calls Try.prog 151 #[.agg #[.int .i64 (a 0), .int .i64 (a 1), .int .i64 (a 2), .int .i64 (a 3), .int .i64 (a 4), .int .i64 (a 5), .int .i64 (a 6), .int .i64 (a 7), .int .i64 (a 8), .int .i64 (a 9)]] w
      fun r w' => r = .returned (fixPose a) ∧ Below w.heap.size w w' := by
  have pa := fix_place ha
  clear ha
  have i0 := index26_0 (a 1) (a 2) (a 3)
  have i1 := index26_1 (a 1) (a 2) (a 3)
  have i2 := index26_2 (a 1) (a 2) (a 3)
  go_enter Try.func151, Try.ntmps151
  go_wp2_with (first | (refine pt_load rfl 22 (.tmp 6) rfl w.heap.size 5 rfl [.int .i64 (a 5), .int .i64 (a 6), .int .i64 (a 7), .int .i64 (a 8)] (heap_alloc_past _ _ _ _ (heap_alloc_at _ _ _ rfl)) rfl Try.underlying22 rfl size22 ?_) | (refine pt_load rfl 26 (.tmp 11) rfl w.heap.size 1 rfl [.int .i64 (a 1), .int .i64 (a 2), .int .i64 (a 3)] (heap_alloc_past _ _ _ _ (heap_alloc_past _ _ _ _ (heap_alloc_at _ _ _ rfl))) rfl Try.underlying26 rfl size26 ?_) | (refine wpList_store_new rfl 80 (.tmp 3) (.tmp 10) rfl rfl rfl rfl size80b rfl rfl rfl ?_))
  have XA := hid (heap_alloc_past ((w.alloc (.cells #[.int .i64 (a 0), .int .i64 (a 1), .int .i64 (a 2), .int .i64 (a 3), .int .i64 (a 4), .int .i64 (a 5), .int .i64 (a 6), .int .i64 (a 7), .int .i64 (a 8), .int .i64 (a 9)] 55)).alloc (.cells #[.int .i64 0, .int .i64 0, .int .i64 0, .int .i64 0, .int .i64 0, .int .i64 0, .int .i64 0, .int .i64 0, .int .i64 0, .int .i64 0, .int .i64 0] 80)) (.cells #[.int .i64 0, .int .i64 0, .int .i64 0, .int .i64 0, .int .i64 0, .int .i64 0, .int .i64 (a 5), .int .i64 (a 6), .int .i64 (a 7), .int .i64 (a 8), .int .i64 (a 9)] 80) _ _ (heap_alloc_past _ _ _ _ (heap_alloc_at w (.cells #[.int .i64 (a 0), .int .i64 (a 1), .int .i64 (a 2), .int .i64 (a 3), .int .i64 (a 4), .int .i64 (a 5), .int .i64 (a 6), .int .i64 (a 7), .int .i64 (a 8), .int .i64 (a 9)] 55) _ rfl)))
  have XD := hid (heap_alloc_past ((w.alloc (.cells #[.int .i64 (a 0), .int .i64 (a 1), .int .i64 (a 2), .int .i64 (a 3), .int .i64 (a 4), .int .i64 (a 5), .int .i64 (a 6), .int .i64 (a 7), .int .i64 (a 8), .int .i64 (a 9)] 55)).alloc (.cells #[.int .i64 0, .int .i64 0, .int .i64 0, .int .i64 0, .int .i64 0, .int .i64 0, .int .i64 0, .int .i64 0, .int .i64 0, .int .i64 0, .int .i64 0] 80)) (.cells #[.int .i64 0, .int .i64 0, .int .i64 0, .int .i64 0, .int .i64 0, .int .i64 0, .int .i64 (a 5), .int .i64 (a 6), .int .i64 (a 7), .int .i64 (a 8), .int .i64 (a 9)] 80) _ _ (heap_alloc_at (w.alloc (.cells #[.int .i64 (a 0), .int .i64 (a 1), .int .i64 (a 2), .int .i64 (a 3), .int .i64 (a 4), .int .i64 (a 5), .int .i64 (a 6), .int .i64 (a 7), .int .i64 (a 8), .int .i64 (a 9)] 55)) (.cells #[.int .i64 0, .int .i64 0, .int .i64 0, .int .i64 0, .int .i64 0, .int .i64 0, .int .i64 0, .int .i64 0, .int .i64 0, .int .i64 0, .int .i64 0] 80) (w.heap.size + 1) (by simp)))
  have XP := hid (heap_alloc_at ((w.alloc (.cells #[.int .i64 (a 0), .int .i64 (a 1), .int .i64 (a 2), .int .i64 (a 3), .int .i64 (a 4), .int .i64 (a 5), .int .i64 (a 6), .int .i64 (a 7), .int .i64 (a 8), .int .i64 (a 9)] 55)).alloc (.cells #[.int .i64 0, .int .i64 0, .int .i64 0, .int .i64 0, .int .i64 0, .int .i64 0, .int .i64 0, .int .i64 0, .int .i64 0, .int .i64 0, .int .i64 0] 80)) (.cells #[.int .i64 0, .int .i64 0, .int .i64 0, .int .i64 0, .int .i64 0, .int .i64 0, .int .i64 (a 5), .int .i64 (a 6), .int .i64 (a 7), .int .i64 (a 8), .int .i64 (a 9)] 80) (w.heap.size + 1 + 1) (by simp))
  have XW := hid (show Below w.heap.size w (((w.alloc (.cells #[.int .i64 (a 0), .int .i64 (a 1), .int .i64 (a 2), .int .i64 (a 3), .int .i64 (a 4), .int .i64 (a 5), .int .i64 (a 6), .int .i64 (a 7), .int .i64 (a 8), .int .i64 (a 9)] 55)).alloc (.cells #[.int .i64 0, .int .i64 0, .int .i64 0, .int .i64 0, .int .i64 0, .int .i64 0, .int .i64 0, .int .i64 0, .int .i64 0, .int .i64 0, .int .i64 0] 80)).alloc (.cells #[.int .i64 0, .int .i64 0, .int .i64 0, .int .i64 0, .int .i64 0, .int .i64 0, .int .i64 (a 5), .int .i64 (a 6), .int .i64 (a 7), .int .i64 (a 8), .int .i64 (a 9)] 80)) by (repeat' (first | (with_reducible exact Below.refl _ _) | (with_reducible assumption) | (with_reducible refine Below.alloc ?_ ?_ _) | (with_reducible refine Below.drew ?_) | (with_reducible refine below_drewN ?_ _) | (with_reducible refine Below.setCell ?_ ?_ _) | (with_reducible refine below_setRow ?_ ?_ _) | go_size)))
  refine wp_loop_rounds 4 ?_
  rw [rounds_succ]
  refine gen_world (fun W1 hV => ?_)
  have YA := hid (show W1.heap[w.heap.size]? = some (.cells #[.int .i64 (a 0), .int .i64 (a 1), .int .i64 (a 2), .int .i64 (a 3), .int .i64 (a 4), .int .i64 (a 5), .int .i64 (a 6), .int .i64 (a 7), .int .i64 (a 8), .int .i64 (a 9)] 55) by rw [hV]; exact XA.out)
  have YD := hid (show W1.heap[w.heap.size + 1]? = some (.cells #[.int .i64 0, .int .i64 0, .int .i64 0, .int .i64 0, .int .i64 0, .int .i64 0, .int .i64 0, .int .i64 0, .int .i64 0, .int .i64 0, .int .i64 0] 80) by rw [hV]; exact XD.out)
  have YP := hid (show W1.heap[w.heap.size + 1 + 1]? = some (.cells #[.int .i64 0, .int .i64 0, .int .i64 0, .int .i64 0, .int .i64 0, .int .i64 0, .int .i64 (a 5), .int .i64 (a 6), .int .i64 (a 7), .int .i64 (a 8), .int .i64 (a 9)] 80) by rw [hV]; exact XP.out)
  have YW := hid (show Below w.heap.size w W1 by rw [hV]; exact XW.out)
  clear hV XA XD XP XW
  have cA4 : W1.cell? ⟨w.heap.size, 4, none⟩ = some (.int .i64 (a 4)) := (cell_row (j := 4) YA.out).trans rfl
  go_wp2_with (refine pt_store rfl 44 (.tmp 28) (.tmp 26) rfl _ _ _ rfl rfl YP.out size44 rfl (of_decide_eq_true rfl) rfl ?_)
  clear cA4
  have XA := hid (setRow_past (cells := #[.int .i64 (a 1 - a 4), .int .i64 (a 1 + a 4), .int .i64 0, .int .i64 0, .int .i64 0, .int .i64 0, .int .i64 (a 5), .int .i64 (a 6), .int .i64 (a 7), .int .i64 (a 8), .int .i64 (a 9)]) YA.out (by omega : w.heap.size ≠ w.heap.size + 1 + 1))
  have XD := hid (setRow_past (cells := #[.int .i64 (a 1 - a 4), .int .i64 (a 1 + a 4), .int .i64 0, .int .i64 0, .int .i64 0, .int .i64 0, .int .i64 (a 5), .int .i64 (a 6), .int .i64 (a 7), .int .i64 (a 8), .int .i64 (a 9)]) YD.out (by omega : w.heap.size + 1 ≠ w.heap.size + 1 + 1))
  have XP := hid (setRow_heap _ _ _ #[.int .i64 (a 1 - a 4), .int .i64 (a 1 + a 4), .int .i64 0, .int .i64 0, .int .i64 0, .int .i64 0, .int .i64 (a 5), .int .i64 (a 6), .int .i64 (a 7), .int .i64 (a 8), .int .i64 (a 9)] _ _ YP.out)
  have XW := hid (below_setRow YW.out (by omega : w.heap.size ≤ w.heap.size + 1 + 1) #[.int .i64 (a 1 - a 4), .int .i64 (a 1 + a 4), .int .i64 0, .int .i64 0, .int .i64 0, .int .i64 0, .int .i64 (a 5), .int .i64 (a 6), .int .i64 (a 7), .int .i64 (a 8), .int .i64 (a 9)])
  clear YA YD YP YW
  rw [rounds_succ]
  refine gen_world (fun W2 hV => ?_)
  have YA := hid (show W2.heap[w.heap.size]? = some (.cells #[.int .i64 (a 0), .int .i64 (a 1), .int .i64 (a 2), .int .i64 (a 3), .int .i64 (a 4), .int .i64 (a 5), .int .i64 (a 6), .int .i64 (a 7), .int .i64 (a 8), .int .i64 (a 9)] 55) by rw [hV]; exact XA.out)
  have YD := hid (show W2.heap[w.heap.size + 1]? = some (.cells #[.int .i64 0, .int .i64 0, .int .i64 0, .int .i64 0, .int .i64 0, .int .i64 0, .int .i64 0, .int .i64 0, .int .i64 0, .int .i64 0, .int .i64 0] 80) by rw [hV]; exact XD.out)
  have YP := hid (show W2.heap[w.heap.size + 1 + 1]? = some (.cells #[.int .i64 (a 1 - a 4), .int .i64 (a 1 + a 4), .int .i64 0, .int .i64 0, .int .i64 0, .int .i64 0, .int .i64 (a 5), .int .i64 (a 6), .int .i64 (a 7), .int .i64 (a 8), .int .i64 (a 9)] 80) by rw [hV]; exact XP.out)
  have YW := hid (show Below w.heap.size w W2 by rw [hV]; exact XW.out)
  clear hV XA XD XP XW
  have cA4 : W2.cell? ⟨w.heap.size, 4, none⟩ = some (.int .i64 (a 4)) := (cell_row (j := 4) YA.out).trans rfl
  go_wp2_with (refine pt_store rfl 44 (.tmp 28) (.tmp 26) rfl _ _ _ rfl rfl YP.out size44 rfl (of_decide_eq_true rfl) rfl ?_)
  clear cA4
  have XA := hid (setRow_past (cells := #[.int .i64 (a 1 - a 4), .int .i64 (a 1 + a 4), .int .i64 (a 2 - a 4), .int .i64 (a 2 + a 4), .int .i64 0, .int .i64 0, .int .i64 (a 5), .int .i64 (a 6), .int .i64 (a 7), .int .i64 (a 8), .int .i64 (a 9)]) YA.out (by omega : w.heap.size ≠ w.heap.size + 1 + 1))
  have XD := hid (setRow_past (cells := #[.int .i64 (a 1 - a 4), .int .i64 (a 1 + a 4), .int .i64 (a 2 - a 4), .int .i64 (a 2 + a 4), .int .i64 0, .int .i64 0, .int .i64 (a 5), .int .i64 (a 6), .int .i64 (a 7), .int .i64 (a 8), .int .i64 (a 9)]) YD.out (by omega : w.heap.size + 1 ≠ w.heap.size + 1 + 1))
  have XP := hid (setRow_heap _ _ _ #[.int .i64 (a 1 - a 4), .int .i64 (a 1 + a 4), .int .i64 (a 2 - a 4), .int .i64 (a 2 + a 4), .int .i64 0, .int .i64 0, .int .i64 (a 5), .int .i64 (a 6), .int .i64 (a 7), .int .i64 (a 8), .int .i64 (a 9)] _ _ YP.out)
  have XW := hid (below_setRow YW.out (by omega : w.heap.size ≤ w.heap.size + 1 + 1) #[.int .i64 (a 1 - a 4), .int .i64 (a 1 + a 4), .int .i64 (a 2 - a 4), .int .i64 (a 2 + a 4), .int .i64 0, .int .i64 0, .int .i64 (a 5), .int .i64 (a 6), .int .i64 (a 7), .int .i64 (a 8), .int .i64 (a 9)])
  clear YA YD YP YW
  rw [rounds_succ]
  refine gen_world (fun W3 hV => ?_)
  have YA := hid (show W3.heap[w.heap.size]? = some (.cells #[.int .i64 (a 0), .int .i64 (a 1), .int .i64 (a 2), .int .i64 (a 3), .int .i64 (a 4), .int .i64 (a 5), .int .i64 (a 6), .int .i64 (a 7), .int .i64 (a 8), .int .i64 (a 9)] 55) by rw [hV]; exact XA.out)
  have YD := hid (show W3.heap[w.heap.size + 1]? = some (.cells #[.int .i64 0, .int .i64 0, .int .i64 0, .int .i64 0, .int .i64 0, .int .i64 0, .int .i64 0, .int .i64 0, .int .i64 0, .int .i64 0, .int .i64 0] 80) by rw [hV]; exact XD.out)
  have YP := hid (show W3.heap[w.heap.size + 1 + 1]? = some (.cells #[.int .i64 (a 1 - a 4), .int .i64 (a 1 + a 4), .int .i64 (a 2 - a 4), .int .i64 (a 2 + a 4), .int .i64 0, .int .i64 0, .int .i64 (a 5), .int .i64 (a 6), .int .i64 (a 7), .int .i64 (a 8), .int .i64 (a 9)] 80) by rw [hV]; exact XP.out)
  have YW := hid (show Below w.heap.size w W3 by rw [hV]; exact XW.out)
  clear hV XA XD XP XW
  have cA4 : W3.cell? ⟨w.heap.size, 4, none⟩ = some (.int .i64 (a 4)) := (cell_row (j := 4) YA.out).trans rfl
  go_wp2_with (refine pt_store rfl 44 (.tmp 28) (.tmp 26) rfl _ _ _ rfl rfl YP.out size44 rfl (of_decide_eq_true rfl) rfl ?_)
  clear cA4
  have XA := hid (setRow_past (cells := #[.int .i64 (a 1 - a 4), .int .i64 (a 1 + a 4), .int .i64 (a 2 - a 4), .int .i64 (a 2 + a 4), .int .i64 (a 3 - a 4), .int .i64 (a 3 + a 4), .int .i64 (a 5), .int .i64 (a 6), .int .i64 (a 7), .int .i64 (a 8), .int .i64 (a 9)]) YA.out (by omega : w.heap.size ≠ w.heap.size + 1 + 1))
  have XD := hid (setRow_past (cells := #[.int .i64 (a 1 - a 4), .int .i64 (a 1 + a 4), .int .i64 (a 2 - a 4), .int .i64 (a 2 + a 4), .int .i64 (a 3 - a 4), .int .i64 (a 3 + a 4), .int .i64 (a 5), .int .i64 (a 6), .int .i64 (a 7), .int .i64 (a 8), .int .i64 (a 9)]) YD.out (by omega : w.heap.size + 1 ≠ w.heap.size + 1 + 1))
  have XP := hid (setRow_heap _ _ _ #[.int .i64 (a 1 - a 4), .int .i64 (a 1 + a 4), .int .i64 (a 2 - a 4), .int .i64 (a 2 + a 4), .int .i64 (a 3 - a 4), .int .i64 (a 3 + a 4), .int .i64 (a 5), .int .i64 (a 6), .int .i64 (a 7), .int .i64 (a 8), .int .i64 (a 9)] _ _ YP.out)
  have XW := hid (below_setRow YW.out (by omega : w.heap.size ≤ w.heap.size + 1 + 1) #[.int .i64 (a 1 - a 4), .int .i64 (a 1 + a 4), .int .i64 (a 2 - a 4), .int .i64 (a 2 + a 4), .int .i64 (a 3 - a 4), .int .i64 (a 3 + a 4), .int .i64 (a 5), .int .i64 (a 6), .int .i64 (a 7), .int .i64 (a 8), .int .i64 (a 9)])
  clear YA YD YP YW
  rw [rounds_succ]
  refine gen_world (fun W4 hV => ?_)
  have YA := hid (show W4.heap[w.heap.size]? = some (.cells #[.int .i64 (a 0), .int .i64 (a 1), .int .i64 (a 2), .int .i64 (a 3), .int .i64 (a 4), .int .i64 (a 5), .int .i64 (a 6), .int .i64 (a 7), .int .i64 (a 8), .int .i64 (a 9)] 55) by rw [hV]; exact XA.out)
  have YD := hid (show W4.heap[w.heap.size + 1]? = some (.cells #[.int .i64 0, .int .i64 0, .int .i64 0, .int .i64 0, .int .i64 0, .int .i64 0, .int .i64 0, .int .i64 0, .int .i64 0, .int .i64 0, .int .i64 0] 80) by rw [hV]; exact XD.out)
  have YP := hid (show W4.heap[w.heap.size + 1 + 1]? = some (.cells #[.int .i64 (a 1 - a 4), .int .i64 (a 1 + a 4), .int .i64 (a 2 - a 4), .int .i64 (a 2 + a 4), .int .i64 (a 3 - a 4), .int .i64 (a 3 + a 4), .int .i64 (a 5), .int .i64 (a 6), .int .i64 (a 7), .int .i64 (a 8), .int .i64 (a 9)] 80) by rw [hV]; exact XP.out)
  have YW := hid (show Below w.heap.size w W4 by rw [hV]; exact XW.out)
  clear hV XA XD XP XW
  go_wp2_with (first | (refine wpList_load_at rfl 80 (.tmp 3) rfl rfl YP.out Try.underlying80 rfl size80b rfl ?_) | (refine wpList_store_at rfl 80 (.tmp 2) (.tmp 30) rfl rfl rfl YD.out size80b rfl rfl rfl ?_))
  refine bodyPost_ret (results_at1 rfl rfl (setRow_heap _ _ _ _ _ _ YD.out) Try.underlying80 rfl size80b rfl) rfl ?_
  exact ⟨rfl, below_setRow YW.out (by omega) _⟩
end Go.Proofs.Yteoikaedpgianaa
