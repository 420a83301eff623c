/- Whether an order asks for a point: 63 of the program. (Printed by wip/gen_wanted.py.) -/
import Derived.Test.YtpablkmdpoombaaROrder
import Derived.Test.YtpablkmdpoombaaTlA
namespace Go.Proofs.Ytpablkmdpoombaa
open Go.RowKit Go.Sort

def clsW (o : Od) (p : Pt) : Bool := o.C.isEmpty || o.C.any (fun z => z == p.cl)
def rnkW (o : Od) (p : Pt) : Bool := decide (rankV p.id % o.ev = 0)
def wantB (o : Od) (p : Pt) : Bool := (o.R.isEmpty || withinB o.R ⟨p.x, p.y⟩) && clsW o p && rnkW o p
theorem rankV_nonneg (id : Int) : 0 ≤ rankV id := by
  unfold rankV mixC
  exact bits_lo_u64 _ _ _
theorem u64_id {x : Int} (h : 1 ≤ x ∧ x ≤ 1000) : IntKind.u64.wrap x = x := by
  have : IntKind.u64.wrap x = x % 18446744073709551616 := rfl
  rw [this]; omega
theorem xrank_below (id : Int) (w : World) : Calls Try.prog 101 #[.int .i64 id] w fun e w' => e = .returned (.int .u64 (rankV id)) ∧ Below w.heap.size w w' :=
  (xRank_any id w).mono (by rintro r w1 ⟨h, rfl⟩; exact ⟨h, Below.refl _ _⟩)
theorem rrank_below (id : Int) (w : World) : Calls Try.prog 105 #[.int .i64 id] w fun e w' => e = .returned (.int .u64 (rankV id)) ∧ Below w.heap.size w w' :=
  (rRank_any id w).mono (by rintro r w1 ⟨h, rfl⟩; exact ⟨h, Below.refl _ _⟩)
theorem emp_len {α : Type} {l : List α} (h : l.length = 0) : l.isEmpty = true := by cases l with | nil => rfl | cons a l => simp at h
theorem emp_pos {α : Type} {l : List α} (h : 0 < l.length) : l.isEmpty = false := by cases l with | nil => simp at h | cons a l => rfl
theorem wantB_ring {o : Od} {p : Pt} (h0 : 0 < o.R.length) (h : withinB o.R ⟨p.x, p.y⟩ = false) : wantB o p = false := by unfold wantB; rw [emp_pos h0, h]; rfl
theorem wantB_cls {o : Od} {p : Pt} (h : clsW o p = false) : wantB o p = false := by unfold wantB; rw [h]; simp
theorem wantB_rnk {o : Od} {p : Pt} (hr : o.R.length = 0 ∨ withinB o.R ⟨p.x, p.y⟩ = true) (hc : clsW o p = true) : wantB o p = rnkW o p := by
  unfold wantB
  rw [hc]
  rcases hr with h | h
  · rw [emp_len h]; simp
  · rw [h]; simp
set_option maxRecDepth 100000 in
set_option maxHeartbeats 3200000 in
theorem xwanted_any (o : Od) (p : Pt) (w : World) (h : OdV w o) (hev : 1 ≤ o.ev ∧ o.ev ≤ 1000) : Calls Try.prog 63 #[.agg p.row.toArray, .agg o.row.toArray] w fun r w' => r = .returned (.bool (wantB o p)) ∧ Below w.heap.size w w' := by
  have HO := hid h
  obtain ⟨lv, rv, R, cv, C, ev⟩ := o
  obtain ⟨⟨ra, rc, hrv, hrr⟩, hrl, ⟨ca, cc, hcv, hcr⟩, hcl⟩ := h
  obtain rfl : rv = .slice ra R.length rc := hrv
  obtain rfl : cv = .slice ca C.length cc := hcv
  have HCR := hid hcr
  clear hrr hcr
  replace hev : 1 ≤ ev ∧ ev ≤ 1000 := hev
  obtain ⟨id, x, y, zl, zh, wd, nm, of, cl⟩ := p
  simp only [Od.row, Pt.row]
  obtain ⟨m, hm⟩ : ∃ m, m = R.length := ⟨_, rfl⟩
  obtain ⟨n, hn⟩ : ∃ n, n = C.length := ⟨_, rfl⟩
  rw [← hm, ← hn] at HO ⊢
  have hrl' : m ≤ 9223372036854775807 := by have h1 : R.length ≤ maxLen := hrl; unfold maxLen at h1; omega
  have hcl' : n ≤ 9223372036854775807 := by have h1 : C.length ≤ maxLen := hcl; unfold maxLen at h1; omega
  have HM := hid hm
  have HN := hid hn
  clear hm hn hrl hcl
  obtain ⟨b, hbv⟩ : ∃ b, b = wantB ⟨lv, .slice ra m rc, R, .slice ca n cc, C, ev⟩ ⟨id, x, y, zl, zh, wd, nm, of, cl⟩ := ⟨_, rfl⟩
  rw [← hbv]
  have HRNG := hid (fun (h0 : 0 < m) (h : withinB R ⟨x, y⟩ = false) => show b = false by rw [hbv]; exact wantB_ring (by show 0 < R.length; rw [← HM.out]; exact h0) h)
  have HCLS := hid (fun (h : clsW ⟨lv, .slice ra m rc, R, .slice ca n cc, C, ev⟩ ⟨id, x, y, zl, zh, wd, nm, of, cl⟩ = false) => show b = false by rw [hbv]; exact wantB_cls h)
  have HRNK := hid (fun (h0 : m = 0 ∨ withinB R ⟨x, y⟩ = true) (h : clsW ⟨lv, .slice ra m rc, R, .slice ca n cc, C, ev⟩ ⟨id, x, y, zl, zh, wd, nm, of, cl⟩ = true) => show b = decide (rankV id % ev = 0) by rw [hbv]; exact wantB_rnk (by show R.length = 0 ∨ _; rw [← HM.out]; exact h0) h)
  have HC0 := hid (fun (h0 : n = 0) => show clsW ⟨lv, .slice ra m rc, R, .slice ca n cc, C, ev⟩ ⟨id, x, y, zl, zh, wd, nm, of, cl⟩ = true by unfold clsW; rw [emp_len (by show C.length = 0; rw [← HN.out]; exact h0)]; rfl)
  have HC1 := hid (fun (h0 : 0 < n) => show clsW ⟨lv, .slice ra m rc, R, .slice ca n cc, C, ev⟩ ⟨id, x, y, zl, zh, wd, nm, of, cl⟩ = C.any (fun z => z == cl) by unfold clsW; rw [emp_pos (by show 0 < C.length; rw [← HN.out]; exact h0)]; rfl)
  clear hbv
  obtain ⟨K, hK⟩ : ∃ K, K = rankV id := ⟨_, rfl⟩
  have HRK := hid (fun W => hK ▸ xrank_below id W)
  rw [← hK] at HRNK
  have hK0 : 0 ≤ K := by rw [hK]; exact rankV_nonneg id
  have huw : IntKind.u64.wrap ev = ev := u64_id hev
  clear hK
  go_enter Try.func63, Try.ntmps63
  go_upto_region 1 with fail
  refine gen_world (fun W0 hW0 => ?_)
  have KP0 := hid (show W0.heap[w.heap.size]? = some (.cells #[.int .i64 id, .int .i64 x, .int .i64 y, .int .i64 zl, .int .i64 zh, .int .i64 wd, .int .i64 nm, .int .i64 of, .int .i64 cl] 78) by rw [hW0]; exact (by repeat' (first | (refine heap_alloc_at _ _ _ ?_; (first | rfl | (simp; done) | (simp; omega))) | (refine heap_alloc_past _ _ _ _ ?_))))
  have KO0 := hid (show W0.heap[w.heap.size + 1]? = some (.cells #[.int .i64 lv, .slice ra m rc, .slice ca n cc, .int .i64 ev] 64) by rw [hW0]; exact (by repeat' (first | (refine heap_alloc_at _ _ _ ?_; (first | rfl | (simp; done) | (simp; omega))) | (refine heap_alloc_past _ _ _ _ ?_))))
  have HB0 := hid (show Below w.heap.size w W0 by rw [hW0]; (repeat' (first | (with_reducible exact Below.refl _ _) | (with_reducible assumption) | (with_reducible refine Below.alloc ?_ ?_ _) | (with_reducible refine Below.drew ?_) | (with_reducible refine below_drewN ?_ _) | (with_reducible refine Below.setCell ?_ ?_ _) | (with_reducible refine below_setRow ?_ ?_ _) | go_size)))
  clear hW0
  have p0 : W0.cell? ⟨w.heap.size, 0, none⟩ = some (.int .i64 id) := (cell_row (j := 0) KP0.out).trans rfl
  have p1 : W0.cell? ⟨w.heap.size, 1, none⟩ = some (.int .i64 x) := (cell_row (j := 1) KP0.out).trans rfl
  have p2 : W0.cell? ⟨w.heap.size, 2, none⟩ = some (.int .i64 y) := (cell_row (j := 2) KP0.out).trans rfl
  have p8 : W0.cell? ⟨w.heap.size, 8, none⟩ = some (.int .i64 cl) := (cell_row (j := 8) KP0.out).trans rfl
  have q0 : W0.cell? ⟨w.heap.size + 1, 0, none⟩ = some (.int .i64 lv) := (cell_row (j := 0) KO0.out).trans rfl
  have q1 : W0.cell? ⟨w.heap.size + 1, 1, none⟩ = some (.slice ra m rc) := (cell_row (j := 1) KO0.out).trans rfl
  have q2 : W0.cell? ⟨w.heap.size + 1, 2, none⟩ = some (.slice ca n cc) := (cell_row (j := 2) KO0.out).trans rfl
  have q3 : W0.cell? ⟨w.heap.size + 1, 3, none⟩ = some (.int .i64 ev) := (cell_row (j := 3) KO0.out).trans rfl
  by_cases hm0 : 0 < m
  · have dm : decide ((0 : Int) < (m : Int)) = true := decide_eq_true (by omega)
    obtain ⟨wb, hwb⟩ : ∃ wb, wb = withinB R ⟨x, y⟩ := ⟨_, rfl⟩
    have HWC := hid (fun W hb => hwb ▸ xWithin_any (.slice ra m rc) R x y W ((HO.out.still hb).r) HO.out.rl)
    have HWB := hid hwb.symm
    clear hwb
    generalize withinE R ⟨x, y⟩ = we at HWC
    go_wp2_with fail
    refine (HWC.out _ HB0.out).mono ?_
    rintro r w7 ⟨rfl, hb⟩
    have KP7 := hid (heap_still hb KP0.out)
    have KO7 := hid (heap_still hb KO0.out)
    have HB7 := hid (HB0.out.trans (hb.mono HB0.out.size))
    clear hb p0 p1 p2 p8 q0 q1 q2 q3
    have p0 : w7.cell? ⟨w.heap.size, 0, none⟩ = some (.int .i64 id) := (cell_row (j := 0) KP7.out).trans rfl
    have p1 : w7.cell? ⟨w.heap.size, 1, none⟩ = some (.int .i64 x) := (cell_row (j := 1) KP7.out).trans rfl
    have p2 : w7.cell? ⟨w.heap.size, 2, none⟩ = some (.int .i64 y) := (cell_row (j := 2) KP7.out).trans rfl
    have p8 : w7.cell? ⟨w.heap.size, 8, none⟩ = some (.int .i64 cl) := (cell_row (j := 8) KP7.out).trans rfl
    have q0 : w7.cell? ⟨w.heap.size + 1, 0, none⟩ = some (.int .i64 lv) := (cell_row (j := 0) KO7.out).trans rfl
    have q1 : w7.cell? ⟨w.heap.size + 1, 1, none⟩ = some (.slice ra m rc) := (cell_row (j := 1) KO7.out).trans rfl
    have q2 : w7.cell? ⟨w.heap.size + 1, 2, none⟩ = some (.slice ca n cc) := (cell_row (j := 2) KO7.out).trans rfl
    have q3 : w7.cell? ⟨w.heap.size + 1, 3, none⟩ = some (.int .i64 ev) := (cell_row (j := 3) KO7.out).trans rfl
    cases wb
    · have HV := hid (HRNG.out hm0 HWB.out)
      go_wp2_with fail
      go_ret
      exact ⟨by rw [HV.out]; rfl, HB7.out⟩
    · skip
      by_cases hn0 : 0 < n
      · have dn : decide ((0 : Int) < (n : Int)) = true := decide_eq_true (by omega)
        obtain ⟨cb, hcb⟩ : ∃ cb, cb = C.any (fun z => z == cl) := ⟨_, rfl⟩
        have HCC := hid (fun W hb => hcb ▸ contains_any (.slice ca n cc) C cl W ((HO.out.still hb).c) HO.out.cl)
        have HCT := hid ((HC1.out hn0).trans hcb.symm)
        clear hcb
        go_wp2_with fail
        refine (HCC.out _ HB7.out).mono ?_
        rintro r w8 ⟨rfl, hb⟩
        have KP8 := hid (heap_still hb KP7.out)
        have KO8 := hid (heap_still hb KO7.out)
        have HB8 := hid (HB7.out.trans (hb.mono HB7.out.size))
        clear hb p0 p1 p2 p8 q0 q1 q2 q3
        have p0 : w8.cell? ⟨w.heap.size, 0, none⟩ = some (.int .i64 id) := (cell_row (j := 0) KP8.out).trans rfl
        have p1 : w8.cell? ⟨w.heap.size, 1, none⟩ = some (.int .i64 x) := (cell_row (j := 1) KP8.out).trans rfl
        have p2 : w8.cell? ⟨w.heap.size, 2, none⟩ = some (.int .i64 y) := (cell_row (j := 2) KP8.out).trans rfl
        have p8 : w8.cell? ⟨w.heap.size, 8, none⟩ = some (.int .i64 cl) := (cell_row (j := 8) KP8.out).trans rfl
        have q0 : w8.cell? ⟨w.heap.size + 1, 0, none⟩ = some (.int .i64 lv) := (cell_row (j := 0) KO8.out).trans rfl
        have q1 : w8.cell? ⟨w.heap.size + 1, 1, none⟩ = some (.slice ra m rc) := (cell_row (j := 1) KO8.out).trans rfl
        have q2 : w8.cell? ⟨w.heap.size + 1, 2, none⟩ = some (.slice ca n cc) := (cell_row (j := 2) KO8.out).trans rfl
        have q3 : w8.cell? ⟨w.heap.size + 1, 3, none⟩ = some (.int .i64 ev) := (cell_row (j := 3) KO8.out).trans rfl
        cases cb
        · have HV := hid (HCLS.out HCT.out)
          go_wp2_with fail
          go_ret
          exact ⟨by rw [HV.out]; rfl, HB8.out⟩
        · skip
          have HV := hid (HRNK.out (Or.inr HWB.out) HCT.out)
          by_cases hz : K % ev = 0
          · have e1 : decide (K % ev = 0) = true := decide_eq_true hz
            have e2 : (K % ev == 0) = true := by simpa using hz
            go_upto_region 7 with fail
            have r0 := fun d os => cell_regrown p0 d os
            have r3 := fun d os => cell_regrown q3 d os
            clear p0 p1 p2 p8 q0 q1 q2 q3
            refine wp_region_quiet_below (by kernel_rfl) (by kernel_rfl) ?_
            repeat (first | go_big_quiet_step ((go_at_call 101; with_reducible exact Calls.regrown_of (HRK.out _))) | quiet_step ((go_at_call 101; with_reducible exact Calls.regrown_of (HRK.out _))))
            refine wpQuiet_nil ?_
            intro _ hw'
            obtain ⟨⟨dqV, osV⟩, hw2⟩ := hw'
            subst hw2
            have HQV := hid (below_regrown w8 dqV osV)
            generalize Sort.grow (redrawn w8 dqV) osV = V at HQV ⊢
            have hsV := HQV.out.size
            go_wp2_with fail
            go_ret
            exact ⟨by rw [HV.out, e1]; rfl, HB8.out.trans (HQV.out.mono HB8.out.size)⟩
          · have e1 : decide (K % ev = 0) = false := decide_eq_false hz
            have e2 : (K % ev == 0) = false := by simpa using hz
            go_upto_region 7 with fail
            have r0 := fun d os => cell_regrown p0 d os
            have r3 := fun d os => cell_regrown q3 d os
            clear p0 p1 p2 p8 q0 q1 q2 q3
            refine wp_region_quiet_below (by kernel_rfl) (by kernel_rfl) ?_
            repeat (first | go_big_quiet_step ((go_at_call 101; with_reducible exact Calls.regrown_of (HRK.out _))) | quiet_step ((go_at_call 101; with_reducible exact Calls.regrown_of (HRK.out _))))
            refine wpQuiet_nil ?_
            intro _ hw'
            obtain ⟨⟨dqV, osV⟩, hw2⟩ := hw'
            subst hw2
            have HQV := hid (below_regrown w8 dqV osV)
            generalize Sort.grow (redrawn w8 dqV) osV = V at HQV ⊢
            have hsV := HQV.out.size
            go_wp2_with fail
            go_ret
            exact ⟨by rw [HV.out, e1]; rfl, HB8.out.trans (HQV.out.mono HB8.out.size)⟩
      · have dn : decide ((0 : Int) < (n : Int)) = false := decide_eq_false (by omega)
        have HCT := hid (HC0.out (by omega))
        have HV := hid (HRNK.out (Or.inr HWB.out) HCT.out)
        by_cases hz : K % ev = 0
        · have e1 : decide (K % ev = 0) = true := decide_eq_true hz
          have e2 : (K % ev == 0) = true := by simpa using hz
          go_upto_region 7 with fail
          have r0 := fun d os => cell_regrown p0 d os
          have r3 := fun d os => cell_regrown q3 d os
          clear p0 p1 p2 p8 q0 q1 q2 q3
          refine wp_region_quiet_below (by kernel_rfl) (by kernel_rfl) ?_
          repeat (first | go_big_quiet_step ((go_at_call 101; with_reducible exact Calls.regrown_of (HRK.out _))) | quiet_step ((go_at_call 101; with_reducible exact Calls.regrown_of (HRK.out _))))
          refine wpQuiet_nil ?_
          intro _ hw'
          obtain ⟨⟨dqV, osV⟩, hw2⟩ := hw'
          subst hw2
          have HQV := hid (below_regrown w7 dqV osV)
          generalize Sort.grow (redrawn w7 dqV) osV = V at HQV ⊢
          have hsV := HQV.out.size
          go_wp2_with fail
          go_ret
          exact ⟨by rw [HV.out, e1]; rfl, HB7.out.trans (HQV.out.mono HB7.out.size)⟩
        · have e1 : decide (K % ev = 0) = false := decide_eq_false hz
          have e2 : (K % ev == 0) = false := by simpa using hz
          go_upto_region 7 with fail
          have r0 := fun d os => cell_regrown p0 d os
          have r3 := fun d os => cell_regrown q3 d os
          clear p0 p1 p2 p8 q0 q1 q2 q3
          refine wp_region_quiet_below (by kernel_rfl) (by kernel_rfl) ?_
          repeat (first | go_big_quiet_step ((go_at_call 101; with_reducible exact Calls.regrown_of (HRK.out _))) | quiet_step ((go_at_call 101; with_reducible exact Calls.regrown_of (HRK.out _))))
          refine wpQuiet_nil ?_
          intro _ hw'
          obtain ⟨⟨dqV, osV⟩, hw2⟩ := hw'
          subst hw2
          have HQV := hid (below_regrown w7 dqV osV)
          generalize Sort.grow (redrawn w7 dqV) osV = V at HQV ⊢
          have hsV := HQV.out.size
          go_wp2_with fail
          go_ret
          exact ⟨by rw [HV.out, e1]; rfl, HB7.out.trans (HQV.out.mono HB7.out.size)⟩
  · have dm : decide ((0 : Int) < (m : Int)) = false := decide_eq_false (by omega)
    by_cases hn0 : 0 < n
    · have dn : decide ((0 : Int) < (n : Int)) = true := decide_eq_true (by omega)
      obtain ⟨cb, hcb⟩ : ∃ cb, cb = C.any (fun z => z == cl) := ⟨_, rfl⟩
      have HCC := hid (fun W hb => hcb ▸ contains_any (.slice ca n cc) C cl W ((HO.out.still hb).c) HO.out.cl)
      have HCT := hid ((HC1.out hn0).trans hcb.symm)
      clear hcb
      go_wp2_with fail
      refine (HCC.out _ HB0.out).mono ?_
      rintro r w8 ⟨rfl, hb⟩
      have KP8 := hid (heap_still hb KP0.out)
      have KO8 := hid (heap_still hb KO0.out)
      have HB8 := hid (HB0.out.trans (hb.mono HB0.out.size))
      clear hb p0 p1 p2 p8 q0 q1 q2 q3
      have p0 : w8.cell? ⟨w.heap.size, 0, none⟩ = some (.int .i64 id) := (cell_row (j := 0) KP8.out).trans rfl
      have p1 : w8.cell? ⟨w.heap.size, 1, none⟩ = some (.int .i64 x) := (cell_row (j := 1) KP8.out).trans rfl
      have p2 : w8.cell? ⟨w.heap.size, 2, none⟩ = some (.int .i64 y) := (cell_row (j := 2) KP8.out).trans rfl
      have p8 : w8.cell? ⟨w.heap.size, 8, none⟩ = some (.int .i64 cl) := (cell_row (j := 8) KP8.out).trans rfl
      have q0 : w8.cell? ⟨w.heap.size + 1, 0, none⟩ = some (.int .i64 lv) := (cell_row (j := 0) KO8.out).trans rfl
      have q1 : w8.cell? ⟨w.heap.size + 1, 1, none⟩ = some (.slice ra m rc) := (cell_row (j := 1) KO8.out).trans rfl
      have q2 : w8.cell? ⟨w.heap.size + 1, 2, none⟩ = some (.slice ca n cc) := (cell_row (j := 2) KO8.out).trans rfl
      have q3 : w8.cell? ⟨w.heap.size + 1, 3, none⟩ = some (.int .i64 ev) := (cell_row (j := 3) KO8.out).trans rfl
      cases cb
      · have HV := hid (HCLS.out HCT.out)
        go_wp2_with fail
        go_ret
        exact ⟨by rw [HV.out]; rfl, HB8.out⟩
      · skip
        have HV := hid (HRNK.out (Or.inl (by omega)) HCT.out)
        by_cases hz : K % ev = 0
        · have e1 : decide (K % ev = 0) = true := decide_eq_true hz
          have e2 : (K % ev == 0) = true := by simpa using hz
          go_upto_region 7 with fail
          have r0 := fun d os => cell_regrown p0 d os
          have r3 := fun d os => cell_regrown q3 d os
          clear p0 p1 p2 p8 q0 q1 q2 q3
          refine wp_region_quiet_below (by kernel_rfl) (by kernel_rfl) ?_
          repeat (first | go_big_quiet_step ((go_at_call 101; with_reducible exact Calls.regrown_of (HRK.out _))) | quiet_step ((go_at_call 101; with_reducible exact Calls.regrown_of (HRK.out _))))
          refine wpQuiet_nil ?_
          intro _ hw'
          obtain ⟨⟨dqV, osV⟩, hw2⟩ := hw'
          subst hw2
          have HQV := hid (below_regrown w8 dqV osV)
          generalize Sort.grow (redrawn w8 dqV) osV = V at HQV ⊢
          have hsV := HQV.out.size
          go_wp2_with fail
          go_ret
          exact ⟨by rw [HV.out, e1]; rfl, HB8.out.trans (HQV.out.mono HB8.out.size)⟩
        · have e1 : decide (K % ev = 0) = false := decide_eq_false hz
          have e2 : (K % ev == 0) = false := by simpa using hz
          go_upto_region 7 with fail
          have r0 := fun d os => cell_regrown p0 d os
          have r3 := fun d os => cell_regrown q3 d os
          clear p0 p1 p2 p8 q0 q1 q2 q3
          refine wp_region_quiet_below (by kernel_rfl) (by kernel_rfl) ?_
          repeat (first | go_big_quiet_step ((go_at_call 101; with_reducible exact Calls.regrown_of (HRK.out _))) | quiet_step ((go_at_call 101; with_reducible exact Calls.regrown_of (HRK.out _))))
          refine wpQuiet_nil ?_
          intro _ hw'
          obtain ⟨⟨dqV, osV⟩, hw2⟩ := hw'
          subst hw2
          have HQV := hid (below_regrown w8 dqV osV)
          generalize Sort.grow (redrawn w8 dqV) osV = V at HQV ⊢
          have hsV := HQV.out.size
          go_wp2_with fail
          go_ret
          exact ⟨by rw [HV.out, e1]; rfl, HB8.out.trans (HQV.out.mono HB8.out.size)⟩
    · have dn : decide ((0 : Int) < (n : Int)) = false := decide_eq_false (by omega)
      have HCT := hid (HC0.out (by omega))
      have HV := hid (HRNK.out (Or.inl (by omega)) HCT.out)
      by_cases hz : K % ev = 0
      · have e1 : decide (K % ev = 0) = true := decide_eq_true hz
        have e2 : (K % ev == 0) = true := by simpa using hz
        go_upto_region 7 with fail
        have r0 := fun d os => cell_regrown p0 d os
        have r3 := fun d os => cell_regrown q3 d os
        clear p0 p1 p2 p8 q0 q1 q2 q3
        refine wp_region_quiet_below (by kernel_rfl) (by kernel_rfl) ?_
        repeat (first | go_big_quiet_step ((go_at_call 101; with_reducible exact Calls.regrown_of (HRK.out _))) | quiet_step ((go_at_call 101; with_reducible exact Calls.regrown_of (HRK.out _))))
        refine wpQuiet_nil ?_
        intro _ hw'
        obtain ⟨⟨dqV, osV⟩, hw2⟩ := hw'
        subst hw2
        have HQV := hid (below_regrown W0 dqV osV)
        generalize Sort.grow (redrawn W0 dqV) osV = V at HQV ⊢
        have hsV := HQV.out.size
        go_wp2_with fail
        go_ret
        exact ⟨by rw [HV.out, e1]; rfl, HB0.out.trans (HQV.out.mono HB0.out.size)⟩
      · have e1 : decide (K % ev = 0) = false := decide_eq_false hz
        have e2 : (K % ev == 0) = false := by simpa using hz
        go_upto_region 7 with fail
        have r0 := fun d os => cell_regrown p0 d os
        have r3 := fun d os => cell_regrown q3 d os
        clear p0 p1 p2 p8 q0 q1 q2 q3
        refine wp_region_quiet_below (by kernel_rfl) (by kernel_rfl) ?_
        repeat (first | go_big_quiet_step ((go_at_call 101; with_reducible exact Calls.regrown_of (HRK.out _))) | quiet_step ((go_at_call 101; with_reducible exact Calls.regrown_of (HRK.out _))))
        refine wpQuiet_nil ?_
        intro _ hw'
        obtain ⟨⟨dqV, osV⟩, hw2⟩ := hw'
        subst hw2
        have HQV := hid (below_regrown W0 dqV osV)
        generalize Sort.grow (redrawn W0 dqV) osV = V at HQV ⊢
        have hsV := HQV.out.size
        go_wp2_with fail
        go_ret
        exact ⟨by rw [HV.out, e1]; rfl, HB0.out.trans (HQV.out.mono HB0.out.size)⟩
end Go.Proofs.Ytpablkmdpoombaa
