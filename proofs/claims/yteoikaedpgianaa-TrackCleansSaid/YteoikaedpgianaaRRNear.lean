/- The reference's test whether two fixes are near each other. -/
import Derived.Test.YteoikaedpgianaaRRUp
import Derived.Lib.QuietBelow
import Derived.LoopN
namespace Go.Proofs.Yteoikaedpgianaa
open Go.RowKit Limb

theorem cellsRn {w : World} {b t : Nat} {fr : Nat × Nat} {C : Array Value} (h : w.heap[b]? = some (.cells C t fr)) (j : Nat) (v : Value) (hj : C[j]? = some v) (d : Nat) (os : Array Obj) : (Sort.grow (redrawn w d) os).cell? ⟨b, j, none⟩ = some v :=
  cell_regrown (by rw [cell_row h, hj]) d os
/-- the most that two fixes may be apart -/
def mostV (ea eb sp ta tb : Int) : Int := ea + eb + upV sp (apartV ta tb) 1000000
set_option maxRecDepth 100000 in
set_option maxHeartbeats 1600000 in
theorem rnear_any (ta xa ya za ea p0 p1 p2 p3 ga tb xb yb zb eb q0 q1 q2 q3 gb m0 m1 m2 m3 : Int) (w : World) (hp : (-134217728 ≤ xa ∧ xa ≤ 134217728) ∧ (-134217728 ≤ ya ∧ ya ≤ 134217728) ∧ (-134217728 ≤ za ∧ za ≤ 134217728) ∧ (-134217728 ≤ xb ∧ xb ≤ 134217728) ∧ (-134217728 ≤ yb ∧ yb ≤ 134217728) ∧ (-134217728 ≤ zb ∧ zb ≤ 134217728))
    (ht : (0 ≤ ta ∧ ta ≤ 1125899906842624) ∧ (0 ≤ tb ∧ tb ≤ 1125899906842624)) (he : (0 ≤ ea ∧ ea ≤ 100000) ∧ (0 ≤ eb ∧ eb ≤ 100000)) (hm : 0 ≤ m1 ∧ m1 ≤ 1000000) :
    Calls Try.prog 93 #[.agg #[.int .i64 ta, .int .i64 xa, .int .i64 ya, .int .i64 za, .int .i64 ea, .int .i64 p0, .int .i64 p1, .int .i64 p2, .int .i64 p3, .int .i64 ga], .agg #[.int .i64 tb, .int .i64 xb, .int .i64 yb, .int .i64 zb, .int .i64 eb, .int .i64 q0, .int .i64 q1, .int .i64 q2, .int .i64 q3, .int .i64 gb], .agg #[.int .i64 m0, .int .i64 m1, .int .i64 m2, .int .i64 m3]] w fun r w' => r = .returned (.bool (decide (apartV xa xb ≤ mostV ea eb m1 ta tb) && decide (apartV ya yb ≤ mostV ea eb m1 ta tb) && decide (apartV za zb ≤ mostV ea eb m1 ta tb))) ∧ Below w.heap.size w w' := by
  have hap : 0 ≤ apartV ta tb ∧ apartV ta tb ≤ 1125899906842624 := by unfold apartV; split <;> omega
  have hup : 0 ≤ upV m1 (apartV ta tb) 1000000 ∧ upV m1 (apartV ta tb) 1000000 ≤ 1125899906842624 := by
    unfold upV
    have h1 : 0 ≤ m1 * apartV ta tb := Int.mul_nonneg hm.1 hap.1
    have h2 : m1 * apartV ta tb ≤ 1000000 * 1125899906842624 := Int.mul_le_mul hm.2 hap.2 hap.1 (by decide)
    generalize m1 * apartV ta tb = q at *
    omega
  have HAT := hid (fun W => apart_any ta tb W (by omega) (by omega))
  have HUP := hid (fun W => up_any m1 (apartV ta tb) 1000000 W (by omega) (by omega) (by decide) (by omega))
  have HX := hid (fun W => apart_any xa xb W (by omega) (by omega))
  have HY := hid (fun W => apart_any ya yb W (by omega) (by omega))
  have HZ := hid (fun W => apart_any za zb W (by omega) (by omega))
  have HM := hid (show mostV ea eb m1 ta tb = ea + eb + upV m1 (apartV ta tb) 1000000 from rfl)
  rw [HM.out]
  generalize upV m1 (apartV ta tb) 1000000 = up at *
  generalize apartV ta tb = at_ at *
  generalize apartV xa xb = ax at *
  generalize apartV ya yb = ay at *
  generalize apartV za zb = az at *
  go_enter Try.func93, Try.ntmps93
  go_wp2_with fail
  refine gen_world (fun W hW => ?_)
  have HB0 := hid (show Below w.heap.size w W by rw [hW]; (repeat' (first | (with_reducible exact Below.refl _ _) | (with_reducible assumption) | (with_reducible refine Below.alloc ?_ ?_ _) | (with_reducible refine Below.drew ?_) | (with_reducible refine below_drewN ?_ _) | (with_reducible refine Below.setCell ?_ ?_ _) | (with_reducible refine below_setRow ?_ ?_ _) | go_size)))
  have FA := hid (show W.heap[w.heap.size]? = some (.cells #[.int .i64 ta, .int .i64 xa, .int .i64 ya, .int .i64 za, .int .i64 ea, .int .i64 p0, .int .i64 p1, .int .i64 p2, .int .i64 p3, .int .i64 ga] 55) by rw [hW]; exact (by repeat' (first | (refine heap_alloc_at _ _ _ ?_; (first | rfl | (simp; done) | (simp; omega))) | (refine heap_alloc_past _ _ _ _ ?_))))
  have FB := hid (show W.heap[w.heap.size + 1]? = some (.cells #[.int .i64 tb, .int .i64 xb, .int .i64 yb, .int .i64 zb, .int .i64 eb, .int .i64 q0, .int .i64 q1, .int .i64 q2, .int .i64 q3, .int .i64 gb] 55) by rw [hW]; exact (by repeat' (first | (refine heap_alloc_at _ _ _ ?_; (first | rfl | (simp; done) | (simp; omega))) | (refine heap_alloc_past _ _ _ _ ?_))))
  have FC := hid (show W.heap[w.heap.size + 1 + 1]? = some (.cells #[.int .i64 m0, .int .i64 m1, .int .i64 m2, .int .i64 m3] 61) by rw [hW]; exact (by repeat' (first | (refine heap_alloc_at _ _ _ ?_; (first | rfl | (simp; done) | (simp; omega))) | (refine heap_alloc_past _ _ _ _ ?_))))
  clear hW
  have cA0 := cellsRn FA.out 0 _ rfl
  have cA4 := cellsRn FA.out 4 _ rfl
  have cB0 := cellsRn FB.out 0 _ rfl
  have cB4 := cellsRn FB.out 4 _ rfl
  have cC1 := cellsRn FC.out 1 _ rfl
  have HAT2 := hid (show ∀ W', Calls Try.prog 141 #[.int .i64 ta, .int .i64 tb] W' fun r w' => r = .returned (.int .i64 at_) ∧ Below W'.heap.size W' w' from fun W' => (HAT.out W').mono (fun r w' h => ⟨h.1, h.2 ▸ Below.refl _ _⟩))
  refine wp_region_quiet_below (by kernel_rfl) (by kernel_rfl) ?_
  repeat (first | go_big_quiet_step (first | (go_at_call 141; exact Calls.regrown_of (HAT2.out _)) | (go_at_call 98; exact Calls.regrown_of (HUP.out _))) | quiet_step (first | (go_at_call 141; exact Calls.regrown_of (HAT2.out _)) | (go_at_call 98; exact Calls.regrown_of (HUP.out _))))
  refine wpQuiet_nil ?_
  intro _ hw'
  obtain ⟨⟨dq, osq⟩, hw''⟩ := hw'
  subst hw''
  have HB1 := hid (HB0.out.trans ((below_regrown W dq osq).mono HB0.out.size))
  have FA1 := hid (heap_still (below_regrown W dq osq) FA.out)
  have FB1 := hid (heap_still (below_regrown W dq osq) FB.out)
  clear cA0 cA4 cB0 cB4 cC1
  go_wp2_with fail
  refine wp_loop_rounds 4 ?_
  rw [rounds_succ]
  go_wp2_with fail
  refine gen_world (fun V1 hV1 => ?_)
  have HB1a := hid (show Below w.heap.size w V1 by rw [hV1]; exact HB1.out)
  have FA1a := hid (show V1.heap[w.heap.size]? = some (.cells #[.int .i64 ta, .int .i64 xa, .int .i64 ya, .int .i64 za, .int .i64 ea, .int .i64 p0, .int .i64 p1, .int .i64 p2, .int .i64 p3, .int .i64 ga] 55) by rw [hV1]; exact FA1.out)
  have FB1a := hid (show V1.heap[w.heap.size + 1]? = some (.cells #[.int .i64 tb, .int .i64 xb, .int .i64 yb, .int .i64 zb, .int .i64 eb, .int .i64 q0, .int .i64 q1, .int .i64 q2, .int .i64 q3, .int .i64 gb] 55) by rw [hV1]; exact FB1.out)
  clear hV1
  have cA := cellsRn FA1a.out 1 _ rfl
  have cB := cellsRn FB1a.out 1 _ rfl
  have hszv1 := (Array.getElem?_eq_some_iff.1 FB1a.out).1
  refine wp_region_quiet_below (by kernel_rfl) (by kernel_rfl) ?_
  repeat (first | go_big_quiet_step (first | (go_at_call 141; exact Calls.regrown_of ((HX.out _).mono (fun r w' h => ⟨h.1, h.2 ▸ Below.refl _ _⟩)))) | quiet_step (first | (go_at_call 141; exact Calls.regrown_of ((HX.out _).mono (fun r w' h => ⟨h.1, h.2 ▸ Below.refl _ _⟩)))))
  refine wpQuiet_nil ?_
  intro _ hw1
  obtain ⟨⟨dq1, osq1⟩, hww1⟩ := hw1
  subst hww1
  have HB1b := hid (HB1a.out.trans ((below_regrown V1 dq1 osq1).mono HB1a.out.size))
  have FA1b := hid (heap_still (below_regrown V1 dq1 osq1) FA1a.out)
  have FB1b := hid (heap_still (below_regrown V1 dq1 osq1) FB1a.out)
  clear cA cB
  by_cases hx1 : ax ≤ ea + eb + up
  · go_wp2_with fail
    rw [rounds_succ]
    go_wp2_with fail
    refine gen_world (fun V2 hV2 => ?_)
    have HB2a := hid (show Below w.heap.size w V2 by rw [hV2]; exact HB1b.out)
    have FA2a := hid (show V2.heap[w.heap.size]? = some (.cells #[.int .i64 ta, .int .i64 xa, .int .i64 ya, .int .i64 za, .int .i64 ea, .int .i64 p0, .int .i64 p1, .int .i64 p2, .int .i64 p3, .int .i64 ga] 55) by rw [hV2]; exact FA1b.out)
    have FB2a := hid (show V2.heap[w.heap.size + 1]? = some (.cells #[.int .i64 tb, .int .i64 xb, .int .i64 yb, .int .i64 zb, .int .i64 eb, .int .i64 q0, .int .i64 q1, .int .i64 q2, .int .i64 q3, .int .i64 gb] 55) by rw [hV2]; exact FB1b.out)
    clear hV2
    have cA := cellsRn FA2a.out 2 _ rfl
    have cB := cellsRn FB2a.out 2 _ rfl
    have hszv2 := (Array.getElem?_eq_some_iff.1 FB2a.out).1
    refine wp_region_quiet_below (by kernel_rfl) (by kernel_rfl) ?_
    repeat (first | go_big_quiet_step (first | (go_at_call 141; exact Calls.regrown_of ((HY.out _).mono (fun r w' h => ⟨h.1, h.2 ▸ Below.refl _ _⟩)))) | quiet_step (first | (go_at_call 141; exact Calls.regrown_of ((HY.out _).mono (fun r w' h => ⟨h.1, h.2 ▸ Below.refl _ _⟩)))))
    refine wpQuiet_nil ?_
    intro _ hw2
    obtain ⟨⟨dq2, osq2⟩, hww2⟩ := hw2
    subst hww2
    have HB2b := hid (HB2a.out.trans ((below_regrown V2 dq2 osq2).mono HB2a.out.size))
    have FA2b := hid (heap_still (below_regrown V2 dq2 osq2) FA2a.out)
    have FB2b := hid (heap_still (below_regrown V2 dq2 osq2) FB2a.out)
    clear cA cB
    by_cases hx2 : ay ≤ ea + eb + up
    · go_wp2_with fail
      rw [rounds_succ]
      go_wp2_with fail
      refine gen_world (fun V3 hV3 => ?_)
      have HB3a := hid (show Below w.heap.size w V3 by rw [hV3]; exact HB2b.out)
      have FA3a := hid (show V3.heap[w.heap.size]? = some (.cells #[.int .i64 ta, .int .i64 xa, .int .i64 ya, .int .i64 za, .int .i64 ea, .int .i64 p0, .int .i64 p1, .int .i64 p2, .int .i64 p3, .int .i64 ga] 55) by rw [hV3]; exact FA2b.out)
      have FB3a := hid (show V3.heap[w.heap.size + 1]? = some (.cells #[.int .i64 tb, .int .i64 xb, .int .i64 yb, .int .i64 zb, .int .i64 eb, .int .i64 q0, .int .i64 q1, .int .i64 q2, .int .i64 q3, .int .i64 gb] 55) by rw [hV3]; exact FB2b.out)
      clear hV3
      have cA := cellsRn FA3a.out 3 _ rfl
      have cB := cellsRn FB3a.out 3 _ rfl
      have hszv3 := (Array.getElem?_eq_some_iff.1 FB3a.out).1
      refine wp_region_quiet_below (by kernel_rfl) (by kernel_rfl) ?_
      repeat (first | go_big_quiet_step (first | (go_at_call 141; exact Calls.regrown_of ((HZ.out _).mono (fun r w' h => ⟨h.1, h.2 ▸ Below.refl _ _⟩)))) | quiet_step (first | (go_at_call 141; exact Calls.regrown_of ((HZ.out _).mono (fun r w' h => ⟨h.1, h.2 ▸ Below.refl _ _⟩)))))
      refine wpQuiet_nil ?_
      intro _ hw3
      obtain ⟨⟨dq3, osq3⟩, hww3⟩ := hw3
      subst hww3
      have HB3b := hid (HB3a.out.trans ((below_regrown V3 dq3 osq3).mono HB3a.out.size))
      have FA3b := hid (heap_still (below_regrown V3 dq3 osq3) FA3a.out)
      have FB3b := hid (heap_still (below_regrown V3 dq3 osq3) FB3a.out)
      clear cA cB
      by_cases hx3 : az ≤ ea + eb + up
      · go_wp2_with fail
        rw [rounds_succ]
        go_wp2_with fail
        go_ret
        exact ⟨by simp only [decide_eq_true hx1, decide_eq_true hx2, decide_eq_true hx3, Bool.and_true]; rfl, HB3b.out⟩
      · go_wp2_with fail
        go_ret
        exact ⟨by (try rw [decide_eq_false (Int.not_le.2 hx3)]); (try rw [Bool.and_false]); (try rw [Bool.false_and]); (try rw [Bool.false_and]); rfl, HB3b.out⟩
    · go_wp2_with fail
      go_ret
      exact ⟨by (try rw [decide_eq_false (Int.not_le.2 hx2)]); (try rw [Bool.and_false]); (try rw [Bool.false_and]); (try rw [Bool.false_and]); rfl, HB2b.out⟩
  · go_wp2_with fail
    go_ret
    exact ⟨by (try rw [decide_eq_false (Int.not_le.2 hx1)]); (try rw [Bool.and_false]); (try rw [Bool.false_and]); (try rw [Bool.false_and]); rfl, HB1b.out⟩
end Go.Proofs.Yteoikaedpgianaa
