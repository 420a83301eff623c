/- Whether an order asks for a point: 65 of the reference. (Printed by wip/gen_wanted.py.) -/
import Derived.Test.YtpablkmdpoombaaWanted
namespace Go.Proofs.Ytpablkmdpoombaa
open Go.RowKit Go.Sort

set_option maxRecDepth 100000 in
set_option maxHeartbeats 3200000 in
theorem rwanted_any (o : Od) (p : Pt) (w : World) (h : OdV w o) (hev : 1 ≤ o.ev ∧ o.ev ≤ 1000) : Calls Try.prog 65 #[.agg p.row.toArray, .agg o.row.toArray] w fun r w' => r = .returned (.bool (wantB o p)) ∧ Below w.heap.size w w' := by
  have HO := hid h
  obtain ⟨lv, rv, R, cv, C, ev⟩ := o
  obtain ⟨⟨ra, rc, hrv, hrr⟩, hrl, ⟨ca, cc, hcv, hcr⟩, hcl⟩ := h
  obtain rfl : rv = .slice ra R.length rc := hrv
  obtain rfl : cv = .slice ca C.length cc := hcv
  have HCR := hid hcr
  clear hrr hcr
  replace hev : 1 ≤ ev ∧ ev ≤ 1000 := hev
  obtain ⟨id, x, y, zl, zh, wd, nm, of, cl⟩ := p
  simp only [Od.row, Pt.row]
  obtain ⟨m, hm⟩ : ∃ m, m = R.length := ⟨_, rfl⟩
  obtain ⟨n, hn⟩ : ∃ n, n = C.length := ⟨_, rfl⟩
  rw [← hm, ← hn] at HO ⊢
  have hrl' : m ≤ 9223372036854775807 := by have h1 : R.length ≤ maxLen := hrl; unfold maxLen at h1; omega
  have hcl' : n ≤ 9223372036854775807 := by have h1 : C.length ≤ maxLen := hcl; unfold maxLen at h1; omega
  have HM := hid hm
  have HN := hid hn
  clear hm hn hrl hcl
  obtain ⟨b, hbv⟩ : ∃ b, b = wantB ⟨lv, .slice ra m rc, R, .slice ca n cc, C, ev⟩ ⟨id, x, y, zl, zh, wd, nm, of, cl⟩ := ⟨_, rfl⟩
  rw [← hbv]
  have HRNG := hid (fun (h0 : 0 < m) (h : withinB R ⟨x, y⟩ = false) => show b = false by rw [hbv]; exact wantB_ring (by show 0 < R.length; rw [← HM.out]; exact h0) h)
  have HCLS := hid (fun (h : clsW ⟨lv, .slice ra m rc, R, .slice ca n cc, C, ev⟩ ⟨id, x, y, zl, zh, wd, nm, of, cl⟩ = false) => show b = false by rw [hbv]; exact wantB_cls h)
  have HRNK := hid (fun (h0 : m = 0 ∨ withinB R ⟨x, y⟩ = true) (h : clsW ⟨lv, .slice ra m rc, R, .slice ca n cc, C, ev⟩ ⟨id, x, y, zl, zh, wd, nm, of, cl⟩ = true) => show b = decide (rankV id % ev = 0) by rw [hbv]; exact wantB_rnk (by show R.length = 0 ∨ _; rw [← HM.out]; exact h0) h)
  have HC0 := hid (fun (h0 : n = 0) => show clsW ⟨lv, .slice ra m rc, R, .slice ca n cc, C, ev⟩ ⟨id, x, y, zl, zh, wd, nm, of, cl⟩ = true by unfold clsW; rw [emp_len (by show C.length = 0; rw [← HN.out]; exact h0)]; rfl)
  have HC1 := hid (fun (h0 : 0 < n) => show clsW ⟨lv, .slice ra m rc, R, .slice ca n cc, C, ev⟩ ⟨id, x, y, zl, zh, wd, nm, of, cl⟩ = C.any (fun z => z == cl) by unfold clsW; rw [emp_pos (by show 0 < C.length; rw [← HN.out]; exact h0)]; rfl)
  clear hbv
  obtain ⟨K, hK⟩ : ∃ K, K = rankV id := ⟨_, rfl⟩
  have HRK := hid (fun W => hK ▸ rrank_below id W)
  rw [← hK] at HRNK
  have hK0 : 0 ≤ K := by rw [hK]; exact rankV_nonneg id
  have huw : IntKind.u64.wrap ev = ev := u64_id hev
  clear hK
  go_enter Try.func65, Try.ntmps65
  go_upto_region 1 with fail
  refine gen_world (fun W0 hW0 => ?_)
  have KP0 := hid (show W0.heap[w.heap.size]? = some (.cells #[.int .i64 id, .int .i64 x, .int .i64 y, .int .i64 zl, .int .i64 zh, .int .i64 wd, .int .i64 nm, .int .i64 of, .int .i64 cl] 78) by rw [hW0]; exact (by repeat' (first | (refine heap_alloc_at _ _ _ ?_; (first | rfl | (simp; done) | (simp; omega))) | (refine heap_alloc_past _ _ _ _ ?_))))
  have KO0 := hid (show W0.heap[w.heap.size + 1]? = some (.cells #[.int .i64 lv, .slice ra m rc, .slice ca n cc, .int .i64 ev] 64) by rw [hW0]; exact (by repeat' (first | (refine heap_alloc_at _ _ _ ?_; (first | rfl | (simp; done) | (simp; omega))) | (refine heap_alloc_past _ _ _ _ ?_))))
  have HB0 := hid (show Below w.heap.size w W0 by rw [hW0]; (repeat' (first | (with_reducible exact Below.refl _ _) | (with_reducible assumption) | (with_reducible refine Below.alloc ?_ ?_ _) | (with_reducible refine Below.drew ?_) | (with_reducible refine below_drewN ?_ _) | (with_reducible refine Below.setCell ?_ ?_ _) | (with_reducible refine below_setRow ?_ ?_ _) | go_size)))
  clear hW0
  have p0 : W0.cell? ⟨w.heap.size, 0, none⟩ = some (.int .i64 id) := (cell_row (j := 0) KP0.out).trans rfl
  have p1 : W0.cell? ⟨w.heap.size, 1, none⟩ = some (.int .i64 x) := (cell_row (j := 1) KP0.out).trans rfl
  have p2 : W0.cell? ⟨w.heap.size, 2, none⟩ = some (.int .i64 y) := (cell_row (j := 2) KP0.out).trans rfl
  have p8 : W0.cell? ⟨w.heap.size, 8, none⟩ = some (.int .i64 cl) := (cell_row (j := 8) KP0.out).trans rfl
  have q0 : W0.cell? ⟨w.heap.size + 1, 0, none⟩ = some (.int .i64 lv) := (cell_row (j := 0) KO0.out).trans rfl
  have q1 : W0.cell? ⟨w.heap.size + 1, 1, none⟩ = some (.slice ra m rc) := (cell_row (j := 1) KO0.out).trans rfl
  have q2 : W0.cell? ⟨w.heap.size + 1, 2, none⟩ = some (.slice ca n cc) := (cell_row (j := 2) KO0.out).trans rfl
  have q3 : W0.cell? ⟨w.heap.size + 1, 3, none⟩ = some (.int .i64 ev) := (cell_row (j := 3) KO0.out).trans rfl
  by_cases hm0 : 0 < m
  · have dm : decide ((0 : Int) < (m : Int)) = true := decide_eq_true (by omega)
    obtain ⟨wb, hwb⟩ : ∃ wb, wb = withinB R ⟨x, y⟩ := ⟨_, rfl⟩
    have HWC := hid (fun W hb => hwb ▸ rWithin_any (.slice ra m rc) R x y W ((HO.out.still hb).r) HO.out.rl)
    have HWB := hid hwb.symm
    clear hwb
    generalize withinE R ⟨x, y⟩ = we at HWC
    go_wp2_with fail
    refine (HWC.out _ HB0.out).mono ?_
    rintro r w7 ⟨rfl, hb⟩
    have KP7 := hid (heap_still hb KP0.out)
    have KO7 := hid (heap_still hb KO0.out)
    have HB7 := hid (HB0.out.trans (hb.mono HB0.out.size))
    clear hb p0 p1 p2 p8 q0 q1 q2 q3
    have p0 : w7.cell? ⟨w.heap.size, 0, none⟩ = some (.int .i64 id) := (cell_row (j := 0) KP7.out).trans rfl
    have p1 : w7.cell? ⟨w.heap.size, 1, none⟩ = some (.int .i64 x) := (cell_row (j := 1) KP7.out).trans rfl
    have p2 : w7.cell? ⟨w.heap.size, 2, none⟩ = some (.int .i64 y) := (cell_row (j := 2) KP7.out).trans rfl
    have p8 : w7.cell? ⟨w.heap.size, 8, none⟩ = some (.int .i64 cl) := (cell_row (j := 8) KP7.out).trans rfl
    have q0 : w7.cell? ⟨w.heap.size + 1, 0, none⟩ = some (.int .i64 lv) := (cell_row (j := 0) KO7.out).trans rfl
    have q1 : w7.cell? ⟨w.heap.size + 1, 1, none⟩ = some (.slice ra m rc) := (cell_row (j := 1) KO7.out).trans rfl
    have q2 : w7.cell? ⟨w.heap.size + 1, 2, none⟩ = some (.slice ca n cc) := (cell_row (j := 2) KO7.out).trans rfl
    have q3 : w7.cell? ⟨w.heap.size + 1, 3, none⟩ = some (.int .i64 ev) := (cell_row (j := 3) KO7.out).trans rfl
    cases wb
    · have HV := hid (HRNG.out hm0 HWB.out)
      go_wp2_with fail
      go_ret
      exact ⟨by rw [HV.out]; rfl, HB7.out⟩
    · skip
      by_cases hn0 : n = 0
      · have dn : decide ((n : Int) = (0 : Int)) = true := decide_eq_true (by omega)
        have dn2 : ((n : Int) == (0 : Int)) = true := by simpa using hn0
        have HCI := hid (show clsW ⟨lv, .slice ra m rc, R, .slice ca n cc, C, ev⟩ ⟨id, x, y, zl, zh, wd, nm, of, cl⟩ = (true || C.any (fun z => z == cl)) by rw [HC0.out hn0]; rfl)
        clear hn0
        go_wp2_with fail
        go_loopw [7, 34] (fun ov iv W => ∃ (i : Nat) (k : Bool), i ≤ n ∧ iv = .int .i64 (i : Int) ∧ ov = .bool k ∧ k = (true || (C.take i).any (fun z => z == cl)) ∧ W.heap[w.heap.size]? = some (.cells #[.int .i64 id, .int .i64 x, .int .i64 y, .int .i64 zl, .int .i64 zh, .int .i64 wd, .int .i64 nm, .int .i64 of, .int .i64 cl] 78) ∧ W.heap[w.heap.size + 1]? = some (.cells #[.int .i64 lv, .slice ra m rc, .slice ca n cc, .int .i64 ev] 64) ∧ Below w.heap.size w W) (fun _ iv _ => n - (intOf iv).toNat)
        case atStart => exact ⟨0, true, by omega, rfl, rfl, by simp, KP7.out, KO7.out, HB7.out⟩
        case round =>
          obtain ⟨i, k, hi, rfl, rfl, hk, hkp, hko, hB⟩ := hrel
          have HK := hid hk
          have HBwr := hid hB
          have HKP := hid hkp
          have HKO := hid hko
          have hzwr := hB.size
          clear hk hB hkp hko
          have p0 : wr.cell? ⟨w.heap.size, 0, none⟩ = some (.int .i64 id) := (cell_row (j := 0) HKP.out).trans rfl
          have p1 : wr.cell? ⟨w.heap.size, 1, none⟩ = some (.int .i64 x) := (cell_row (j := 1) HKP.out).trans rfl
          have p2 : wr.cell? ⟨w.heap.size, 2, none⟩ = some (.int .i64 y) := (cell_row (j := 2) HKP.out).trans rfl
          have p8 : wr.cell? ⟨w.heap.size, 8, none⟩ = some (.int .i64 cl) := (cell_row (j := 8) HKP.out).trans rfl
          have q0 : wr.cell? ⟨w.heap.size + 1, 0, none⟩ = some (.int .i64 lv) := (cell_row (j := 0) HKO.out).trans rfl
          have q1 : wr.cell? ⟨w.heap.size + 1, 1, none⟩ = some (.slice ra m rc) := (cell_row (j := 1) HKO.out).trans rfl
          have q2 : wr.cell? ⟨w.heap.size + 1, 2, none⟩ = some (.slice ca n cc) := (cell_row (j := 2) HKO.out).trans rfl
          have q3 : wr.cell? ⟨w.heap.size + 1, 3, none⟩ = some (.int .i64 ev) := (cell_row (j := 3) HKO.out).trans rfl
          by_cases hlt : i < n
          · have d2 : decide ((i : Int) < (n : Int)) = true := decide_eq_true (by omega)
            obtain ⟨z, hz⟩ : ∃ z, C[i]? = some z := ⟨_, List.getElem?_eq_getElem (by rw [← HN.out]; exact hlt)⟩
            obtain ⟨b2, off, rfl, hbw, hrows⟩ := HCR.out.resolve_left (fun h => by have h2 : C = [] := h; rw [h2] at hz; simp at hz)
            have c0 : wr.cell? ⟨b2, off + i, none⟩ = some (.int .i64 z) := ints_cell hrows hz HBwr.out hbw
            have HNX := hid (show (true || (C.take (i + 1)).any (fun z => z == cl)) = (k || (z == cl)) by rw [take_next hz, List.any_append, HK.out]; simp)
            clear hz hrows
            cases k
            · by_cases hzc : z = cl
              · have e1 : decide (z = cl) = true := decide_eq_true hzc
                have e2 : (z == cl) = true := by simpa using hzc
                clear hzc
                go_wp2_with fail
                exact ⟨⟨i + 1, true, by omega, by go_num, rfl, by rw [HNX.out, e2]; rfl, HKP.out, HKO.out, HBwr.out⟩, by simp [intOf]; omega⟩
              · have e1 : decide (z = cl) = false := decide_eq_false hzc
                have e2 : (z == cl) = false := by simpa using hzc
                clear hzc
                go_wp2_with fail
                exact ⟨⟨i + 1, false, by omega, by go_num, rfl, by rw [HNX.out, e2]; rfl, HKP.out, HKO.out, HBwr.out⟩, by simp [intOf]; omega⟩
            · go_wp2_with fail
              exact ⟨⟨i + 1, true, by omega, by go_num, rfl, by rw [HNX.out]; rfl, HKP.out, HKO.out, HBwr.out⟩, by simp [intOf]; omega⟩
          · obtain rfl : i = n := by omega
            have d2 : decide ((i : Int) < (i : Int)) = false := by simp
            have HKV := hid (show k = clsW ⟨lv, .slice ra m rc, R, .slice ca i cc, C, ev⟩ ⟨id, x, y, zl, zh, wd, nm, of, cl⟩ by rw [HK.out, HN.out, List.take_length]; exact (HCI.out).symm)
            cases k
            · have HV := hid (HCLS.out HKV.out.symm)
              go_upto_region 11 with fail
              have r0 := fun d os => cell_regrown p0 d os
              have r3 := fun d os => cell_regrown q3 d os
              clear p0 p1 p2 p8 q0 q1 q2 q3
              refine wp_region_quiet_below (by kernel_rfl) (by kernel_rfl) ?_
              repeat (first | go_big_quiet_step (fail) | quiet_step (fail))
              refine wpQuiet_nil ?_
              intro _ hw'
              obtain ⟨⟨dqV, osV⟩, hw2⟩ := hw'
              subst hw2
              have HQV := hid (below_regrown wr dqV osV)
              generalize Sort.grow (redrawn wr dqV) osV = V at HQV ⊢
              have hsV := HQV.out.size
              go_wp2_with fail
              go_ret
              exact ⟨by rw [HV.out]; rfl, HBwr.out.trans (HQV.out.mono HBwr.out.size)⟩
            · have HCT := hid HKV.out.symm
              have HV := hid (HRNK.out (Or.inr HWB.out) HCT.out)
              by_cases hz : K % ev = 0
              · have e1 : decide (K % ev = 0) = true := decide_eq_true hz
                have e2 : (K % ev == 0) = true := by simpa using hz
                go_upto_region 11 with fail
                have r0 := fun d os => cell_regrown p0 d os
                have r3 := fun d os => cell_regrown q3 d os
                clear p0 p1 p2 p8 q0 q1 q2 q3
                refine wp_region_quiet_below (by kernel_rfl) (by kernel_rfl) ?_
                repeat (first | go_big_quiet_step ((go_at_call 105; with_reducible exact Calls.regrown_of (HRK.out _))) | quiet_step ((go_at_call 105; with_reducible exact Calls.regrown_of (HRK.out _))))
                refine wpQuiet_nil ?_
                intro _ hw'
                obtain ⟨⟨dqV, osV⟩, hw2⟩ := hw'
                subst hw2
                have HQV := hid (below_regrown wr dqV osV)
                generalize Sort.grow (redrawn wr dqV) osV = V at HQV ⊢
                have hsV := HQV.out.size
                go_wp2_with fail
                go_ret
                exact ⟨by rw [HV.out, e1]; rfl, HBwr.out.trans (HQV.out.mono HBwr.out.size)⟩
              · have e1 : decide (K % ev = 0) = false := decide_eq_false hz
                have e2 : (K % ev == 0) = false := by simpa using hz
                go_upto_region 11 with fail
                have r0 := fun d os => cell_regrown p0 d os
                have r3 := fun d os => cell_regrown q3 d os
                clear p0 p1 p2 p8 q0 q1 q2 q3
                refine wp_region_quiet_below (by kernel_rfl) (by kernel_rfl) ?_
                repeat (first | go_big_quiet_step ((go_at_call 105; with_reducible exact Calls.regrown_of (HRK.out _))) | quiet_step ((go_at_call 105; with_reducible exact Calls.regrown_of (HRK.out _))))
                refine wpQuiet_nil ?_
                intro _ hw'
                obtain ⟨⟨dqV, osV⟩, hw2⟩ := hw'
                subst hw2
                have HQV := hid (below_regrown wr dqV osV)
                generalize Sort.grow (redrawn wr dqV) osV = V at HQV ⊢
                have hsV := HQV.out.size
                go_wp2_with fail
                go_ret
                exact ⟨by rw [HV.out, e1]; rfl, HBwr.out.trans (HQV.out.mono HBwr.out.size)⟩
      · have dn : decide ((n : Int) = (0 : Int)) = false := decide_eq_false (by omega)
        have dn2 : ((n : Int) == (0 : Int)) = false := by simpa using hn0
        have HCI := hid (show clsW ⟨lv, .slice ra m rc, R, .slice ca n cc, C, ev⟩ ⟨id, x, y, zl, zh, wd, nm, of, cl⟩ = (false || C.any (fun z => z == cl)) by rw [HC1.out (by omega)]; rfl)
        clear hn0
        go_wp2_with fail
        go_loopw [7, 34] (fun ov iv W => ∃ (i : Nat) (k : Bool), i ≤ n ∧ iv = .int .i64 (i : Int) ∧ ov = .bool k ∧ k = (false || (C.take i).any (fun z => z == cl)) ∧ W.heap[w.heap.size]? = some (.cells #[.int .i64 id, .int .i64 x, .int .i64 y, .int .i64 zl, .int .i64 zh, .int .i64 wd, .int .i64 nm, .int .i64 of, .int .i64 cl] 78) ∧ W.heap[w.heap.size + 1]? = some (.cells #[.int .i64 lv, .slice ra m rc, .slice ca n cc, .int .i64 ev] 64) ∧ Below w.heap.size w W) (fun _ iv _ => n - (intOf iv).toNat)
        case atStart => exact ⟨0, false, by omega, rfl, rfl, by simp, KP7.out, KO7.out, HB7.out⟩
        case round =>
          obtain ⟨i, k, hi, rfl, rfl, hk, hkp, hko, hB⟩ := hrel
          have HK := hid hk
          have HBwr := hid hB
          have HKP := hid hkp
          have HKO := hid hko
          have hzwr := hB.size
          clear hk hB hkp hko
          have p0 : wr.cell? ⟨w.heap.size, 0, none⟩ = some (.int .i64 id) := (cell_row (j := 0) HKP.out).trans rfl
          have p1 : wr.cell? ⟨w.heap.size, 1, none⟩ = some (.int .i64 x) := (cell_row (j := 1) HKP.out).trans rfl
          have p2 : wr.cell? ⟨w.heap.size, 2, none⟩ = some (.int .i64 y) := (cell_row (j := 2) HKP.out).trans rfl
          have p8 : wr.cell? ⟨w.heap.size, 8, none⟩ = some (.int .i64 cl) := (cell_row (j := 8) HKP.out).trans rfl
          have q0 : wr.cell? ⟨w.heap.size + 1, 0, none⟩ = some (.int .i64 lv) := (cell_row (j := 0) HKO.out).trans rfl
          have q1 : wr.cell? ⟨w.heap.size + 1, 1, none⟩ = some (.slice ra m rc) := (cell_row (j := 1) HKO.out).trans rfl
          have q2 : wr.cell? ⟨w.heap.size + 1, 2, none⟩ = some (.slice ca n cc) := (cell_row (j := 2) HKO.out).trans rfl
          have q3 : wr.cell? ⟨w.heap.size + 1, 3, none⟩ = some (.int .i64 ev) := (cell_row (j := 3) HKO.out).trans rfl
          by_cases hlt : i < n
          · have d2 : decide ((i : Int) < (n : Int)) = true := decide_eq_true (by omega)
            obtain ⟨z, hz⟩ : ∃ z, C[i]? = some z := ⟨_, List.getElem?_eq_getElem (by rw [← HN.out]; exact hlt)⟩
            obtain ⟨b2, off, rfl, hbw, hrows⟩ := HCR.out.resolve_left (fun h => by have h2 : C = [] := h; rw [h2] at hz; simp at hz)
            have c0 : wr.cell? ⟨b2, off + i, none⟩ = some (.int .i64 z) := ints_cell hrows hz HBwr.out hbw
            have HNX := hid (show (false || (C.take (i + 1)).any (fun z => z == cl)) = (k || (z == cl)) by rw [take_next hz, List.any_append, HK.out]; simp)
            clear hz hrows
            cases k
            · by_cases hzc : z = cl
              · have e1 : decide (z = cl) = true := decide_eq_true hzc
                have e2 : (z == cl) = true := by simpa using hzc
                clear hzc
                go_wp2_with fail
                exact ⟨⟨i + 1, true, by omega, by go_num, rfl, by rw [HNX.out, e2]; rfl, HKP.out, HKO.out, HBwr.out⟩, by simp [intOf]; omega⟩
              · have e1 : decide (z = cl) = false := decide_eq_false hzc
                have e2 : (z == cl) = false := by simpa using hzc
                clear hzc
                go_wp2_with fail
                exact ⟨⟨i + 1, false, by omega, by go_num, rfl, by rw [HNX.out, e2]; rfl, HKP.out, HKO.out, HBwr.out⟩, by simp [intOf]; omega⟩
            · go_wp2_with fail
              exact ⟨⟨i + 1, true, by omega, by go_num, rfl, by rw [HNX.out]; rfl, HKP.out, HKO.out, HBwr.out⟩, by simp [intOf]; omega⟩
          · obtain rfl : i = n := by omega
            have d2 : decide ((i : Int) < (i : Int)) = false := by simp
            have HKV := hid (show k = clsW ⟨lv, .slice ra m rc, R, .slice ca i cc, C, ev⟩ ⟨id, x, y, zl, zh, wd, nm, of, cl⟩ by rw [HK.out, HN.out, List.take_length]; exact (HCI.out).symm)
            cases k
            · have HV := hid (HCLS.out HKV.out.symm)
              go_upto_region 11 with fail
              have r0 := fun d os => cell_regrown p0 d os
              have r3 := fun d os => cell_regrown q3 d os
              clear p0 p1 p2 p8 q0 q1 q2 q3
              refine wp_region_quiet_below (by kernel_rfl) (by kernel_rfl) ?_
              repeat (first | go_big_quiet_step (fail) | quiet_step (fail))
              refine wpQuiet_nil ?_
              intro _ hw'
              obtain ⟨⟨dqV, osV⟩, hw2⟩ := hw'
              subst hw2
              have HQV := hid (below_regrown wr dqV osV)
              generalize Sort.grow (redrawn wr dqV) osV = V at HQV ⊢
              have hsV := HQV.out.size
              go_wp2_with fail
              go_ret
              exact ⟨by rw [HV.out]; rfl, HBwr.out.trans (HQV.out.mono HBwr.out.size)⟩
            · have HCT := hid HKV.out.symm
              have HV := hid (HRNK.out (Or.inr HWB.out) HCT.out)
              by_cases hz : K % ev = 0
              · have e1 : decide (K % ev = 0) = true := decide_eq_true hz
                have e2 : (K % ev == 0) = true := by simpa using hz
                go_upto_region 11 with fail
                have r0 := fun d os => cell_regrown p0 d os
                have r3 := fun d os => cell_regrown q3 d os
                clear p0 p1 p2 p8 q0 q1 q2 q3
                refine wp_region_quiet_below (by kernel_rfl) (by kernel_rfl) ?_
                repeat (first | go_big_quiet_step ((go_at_call 105; with_reducible exact Calls.regrown_of (HRK.out _))) | quiet_step ((go_at_call 105; with_reducible exact Calls.regrown_of (HRK.out _))))
                refine wpQuiet_nil ?_
                intro _ hw'
                obtain ⟨⟨dqV, osV⟩, hw2⟩ := hw'
                subst hw2
                have HQV := hid (below_regrown wr dqV osV)
                generalize Sort.grow (redrawn wr dqV) osV = V at HQV ⊢
                have hsV := HQV.out.size
                go_wp2_with fail
                go_ret
                exact ⟨by rw [HV.out, e1]; rfl, HBwr.out.trans (HQV.out.mono HBwr.out.size)⟩
              · have e1 : decide (K % ev = 0) = false := decide_eq_false hz
                have e2 : (K % ev == 0) = false := by simpa using hz
                go_upto_region 11 with fail
                have r0 := fun d os => cell_regrown p0 d os
                have r3 := fun d os => cell_regrown q3 d os
                clear p0 p1 p2 p8 q0 q1 q2 q3
                refine wp_region_quiet_below (by kernel_rfl) (by kernel_rfl) ?_
                repeat (first | go_big_quiet_step ((go_at_call 105; with_reducible exact Calls.regrown_of (HRK.out _))) | quiet_step ((go_at_call 105; with_reducible exact Calls.regrown_of (HRK.out _))))
                refine wpQuiet_nil ?_
                intro _ hw'
                obtain ⟨⟨dqV, osV⟩, hw2⟩ := hw'
                subst hw2
                have HQV := hid (below_regrown wr dqV osV)
                generalize Sort.grow (redrawn wr dqV) osV = V at HQV ⊢
                have hsV := HQV.out.size
                go_wp2_with fail
                go_ret
                exact ⟨by rw [HV.out, e1]; rfl, HBwr.out.trans (HQV.out.mono HBwr.out.size)⟩
  · have dm : decide ((0 : Int) < (m : Int)) = false := decide_eq_false (by omega)
    by_cases hn0 : n = 0
    · have dn : decide ((n : Int) = (0 : Int)) = true := decide_eq_true (by omega)
      have dn2 : ((n : Int) == (0 : Int)) = true := by simpa using hn0
      have HCI := hid (show clsW ⟨lv, .slice ra m rc, R, .slice ca n cc, C, ev⟩ ⟨id, x, y, zl, zh, wd, nm, of, cl⟩ = (true || C.any (fun z => z == cl)) by rw [HC0.out hn0]; rfl)
      clear hn0
      go_wp2_with fail
      go_loopw [7, 34] (fun ov iv W => ∃ (i : Nat) (k : Bool), i ≤ n ∧ iv = .int .i64 (i : Int) ∧ ov = .bool k ∧ k = (true || (C.take i).any (fun z => z == cl)) ∧ W.heap[w.heap.size]? = some (.cells #[.int .i64 id, .int .i64 x, .int .i64 y, .int .i64 zl, .int .i64 zh, .int .i64 wd, .int .i64 nm, .int .i64 of, .int .i64 cl] 78) ∧ W.heap[w.heap.size + 1]? = some (.cells #[.int .i64 lv, .slice ra m rc, .slice ca n cc, .int .i64 ev] 64) ∧ Below w.heap.size w W) (fun _ iv _ => n - (intOf iv).toNat)
      case atStart => exact ⟨0, true, by omega, rfl, rfl, by simp, KP0.out, KO0.out, HB0.out⟩
      case round =>
        obtain ⟨i, k, hi, rfl, rfl, hk, hkp, hko, hB⟩ := hrel
        have HK := hid hk
        have HBwr := hid hB
        have HKP := hid hkp
        have HKO := hid hko
        have hzwr := hB.size
        clear hk hB hkp hko
        have p0 : wr.cell? ⟨w.heap.size, 0, none⟩ = some (.int .i64 id) := (cell_row (j := 0) HKP.out).trans rfl
        have p1 : wr.cell? ⟨w.heap.size, 1, none⟩ = some (.int .i64 x) := (cell_row (j := 1) HKP.out).trans rfl
        have p2 : wr.cell? ⟨w.heap.size, 2, none⟩ = some (.int .i64 y) := (cell_row (j := 2) HKP.out).trans rfl
        have p8 : wr.cell? ⟨w.heap.size, 8, none⟩ = some (.int .i64 cl) := (cell_row (j := 8) HKP.out).trans rfl
        have q0 : wr.cell? ⟨w.heap.size + 1, 0, none⟩ = some (.int .i64 lv) := (cell_row (j := 0) HKO.out).trans rfl
        have q1 : wr.cell? ⟨w.heap.size + 1, 1, none⟩ = some (.slice ra m rc) := (cell_row (j := 1) HKO.out).trans rfl
        have q2 : wr.cell? ⟨w.heap.size + 1, 2, none⟩ = some (.slice ca n cc) := (cell_row (j := 2) HKO.out).trans rfl
        have q3 : wr.cell? ⟨w.heap.size + 1, 3, none⟩ = some (.int .i64 ev) := (cell_row (j := 3) HKO.out).trans rfl
        by_cases hlt : i < n
        · have d2 : decide ((i : Int) < (n : Int)) = true := decide_eq_true (by omega)
          obtain ⟨z, hz⟩ : ∃ z, C[i]? = some z := ⟨_, List.getElem?_eq_getElem (by rw [← HN.out]; exact hlt)⟩
          obtain ⟨b2, off, rfl, hbw, hrows⟩ := HCR.out.resolve_left (fun h => by have h2 : C = [] := h; rw [h2] at hz; simp at hz)
          have c0 : wr.cell? ⟨b2, off + i, none⟩ = some (.int .i64 z) := ints_cell hrows hz HBwr.out hbw
          have HNX := hid (show (true || (C.take (i + 1)).any (fun z => z == cl)) = (k || (z == cl)) by rw [take_next hz, List.any_append, HK.out]; simp)
          clear hz hrows
          cases k
          · by_cases hzc : z = cl
            · have e1 : decide (z = cl) = true := decide_eq_true hzc
              have e2 : (z == cl) = true := by simpa using hzc
              clear hzc
              go_wp2_with fail
              exact ⟨⟨i + 1, true, by omega, by go_num, rfl, by rw [HNX.out, e2]; rfl, HKP.out, HKO.out, HBwr.out⟩, by simp [intOf]; omega⟩
            · have e1 : decide (z = cl) = false := decide_eq_false hzc
              have e2 : (z == cl) = false := by simpa using hzc
              clear hzc
              go_wp2_with fail
              exact ⟨⟨i + 1, false, by omega, by go_num, rfl, by rw [HNX.out, e2]; rfl, HKP.out, HKO.out, HBwr.out⟩, by simp [intOf]; omega⟩
          · go_wp2_with fail
            exact ⟨⟨i + 1, true, by omega, by go_num, rfl, by rw [HNX.out]; rfl, HKP.out, HKO.out, HBwr.out⟩, by simp [intOf]; omega⟩
        · obtain rfl : i = n := by omega
          have d2 : decide ((i : Int) < (i : Int)) = false := by simp
          have HKV := hid (show k = clsW ⟨lv, .slice ra m rc, R, .slice ca i cc, C, ev⟩ ⟨id, x, y, zl, zh, wd, nm, of, cl⟩ by rw [HK.out, HN.out, List.take_length]; exact (HCI.out).symm)
          cases k
          · have HV := hid (HCLS.out HKV.out.symm)
            go_upto_region 11 with fail
            have r0 := fun d os => cell_regrown p0 d os
            have r3 := fun d os => cell_regrown q3 d os
            clear p0 p1 p2 p8 q0 q1 q2 q3
            refine wp_region_quiet_below (by kernel_rfl) (by kernel_rfl) ?_
            repeat (first | go_big_quiet_step (fail) | quiet_step (fail))
            refine wpQuiet_nil ?_
            intro _ hw'
            obtain ⟨⟨dqV, osV⟩, hw2⟩ := hw'
            subst hw2
            have HQV := hid (below_regrown wr dqV osV)
            generalize Sort.grow (redrawn wr dqV) osV = V at HQV ⊢
            have hsV := HQV.out.size
            go_wp2_with fail
            go_ret
            exact ⟨by rw [HV.out]; rfl, HBwr.out.trans (HQV.out.mono HBwr.out.size)⟩
          · have HCT := hid HKV.out.symm
            have HV := hid (HRNK.out (Or.inl (by omega)) HCT.out)
            by_cases hz : K % ev = 0
            · have e1 : decide (K % ev = 0) = true := decide_eq_true hz
              have e2 : (K % ev == 0) = true := by simpa using hz
              go_upto_region 11 with fail
              have r0 := fun d os => cell_regrown p0 d os
              have r3 := fun d os => cell_regrown q3 d os
              clear p0 p1 p2 p8 q0 q1 q2 q3
              refine wp_region_quiet_below (by kernel_rfl) (by kernel_rfl) ?_
              repeat (first | go_big_quiet_step ((go_at_call 105; with_reducible exact Calls.regrown_of (HRK.out _))) | quiet_step ((go_at_call 105; with_reducible exact Calls.regrown_of (HRK.out _))))
              refine wpQuiet_nil ?_
              intro _ hw'
              obtain ⟨⟨dqV, osV⟩, hw2⟩ := hw'
              subst hw2
              have HQV := hid (below_regrown wr dqV osV)
              generalize Sort.grow (redrawn wr dqV) osV = V at HQV ⊢
              have hsV := HQV.out.size
              go_wp2_with fail
              go_ret
              exact ⟨by rw [HV.out, e1]; rfl, HBwr.out.trans (HQV.out.mono HBwr.out.size)⟩
            · have e1 : decide (K % ev = 0) = false := decide_eq_false hz
              have e2 : (K % ev == 0) = false := by simpa using hz
              go_upto_region 11 with fail
              have r0 := fun d os => cell_regrown p0 d os
              have r3 := fun d os => cell_regrown q3 d os
              clear p0 p1 p2 p8 q0 q1 q2 q3
              refine wp_region_quiet_below (by kernel_rfl) (by kernel_rfl) ?_
              repeat (first | go_big_quiet_step ((go_at_call 105; with_reducible exact Calls.regrown_of (HRK.out _))) | quiet_step ((go_at_call 105; with_reducible exact Calls.regrown_of (HRK.out _))))
              refine wpQuiet_nil ?_
              intro _ hw'
              obtain ⟨⟨dqV, osV⟩, hw2⟩ := hw'
              subst hw2
              have HQV := hid (below_regrown wr dqV osV)
              generalize Sort.grow (redrawn wr dqV) osV = V at HQV ⊢
              have hsV := HQV.out.size
              go_wp2_with fail
              go_ret
              exact ⟨by rw [HV.out, e1]; rfl, HBwr.out.trans (HQV.out.mono HBwr.out.size)⟩
    · have dn : decide ((n : Int) = (0 : Int)) = false := decide_eq_false (by omega)
      have dn2 : ((n : Int) == (0 : Int)) = false := by simpa using hn0
      have HCI := hid (show clsW ⟨lv, .slice ra m rc, R, .slice ca n cc, C, ev⟩ ⟨id, x, y, zl, zh, wd, nm, of, cl⟩ = (false || C.any (fun z => z == cl)) by rw [HC1.out (by omega)]; rfl)
      clear hn0
      go_wp2_with fail
      go_loopw [7, 34] (fun ov iv W => ∃ (i : Nat) (k : Bool), i ≤ n ∧ iv = .int .i64 (i : Int) ∧ ov = .bool k ∧ k = (false || (C.take i).any (fun z => z == cl)) ∧ W.heap[w.heap.size]? = some (.cells #[.int .i64 id, .int .i64 x, .int .i64 y, .int .i64 zl, .int .i64 zh, .int .i64 wd, .int .i64 nm, .int .i64 of, .int .i64 cl] 78) ∧ W.heap[w.heap.size + 1]? = some (.cells #[.int .i64 lv, .slice ra m rc, .slice ca n cc, .int .i64 ev] 64) ∧ Below w.heap.size w W) (fun _ iv _ => n - (intOf iv).toNat)
      case atStart => exact ⟨0, false, by omega, rfl, rfl, by simp, KP0.out, KO0.out, HB0.out⟩
      case round =>
        obtain ⟨i, k, hi, rfl, rfl, hk, hkp, hko, hB⟩ := hrel
        have HK := hid hk
        have HBwr := hid hB
        have HKP := hid hkp
        have HKO := hid hko
        have hzwr := hB.size
        clear hk hB hkp hko
        have p0 : wr.cell? ⟨w.heap.size, 0, none⟩ = some (.int .i64 id) := (cell_row (j := 0) HKP.out).trans rfl
        have p1 : wr.cell? ⟨w.heap.size, 1, none⟩ = some (.int .i64 x) := (cell_row (j := 1) HKP.out).trans rfl
        have p2 : wr.cell? ⟨w.heap.size, 2, none⟩ = some (.int .i64 y) := (cell_row (j := 2) HKP.out).trans rfl
        have p8 : wr.cell? ⟨w.heap.size, 8, none⟩ = some (.int .i64 cl) := (cell_row (j := 8) HKP.out).trans rfl
        have q0 : wr.cell? ⟨w.heap.size + 1, 0, none⟩ = some (.int .i64 lv) := (cell_row (j := 0) HKO.out).trans rfl
        have q1 : wr.cell? ⟨w.heap.size + 1, 1, none⟩ = some (.slice ra m rc) := (cell_row (j := 1) HKO.out).trans rfl
        have q2 : wr.cell? ⟨w.heap.size + 1, 2, none⟩ = some (.slice ca n cc) := (cell_row (j := 2) HKO.out).trans rfl
        have q3 : wr.cell? ⟨w.heap.size + 1, 3, none⟩ = some (.int .i64 ev) := (cell_row (j := 3) HKO.out).trans rfl
        by_cases hlt : i < n
        · have d2 : decide ((i : Int) < (n : Int)) = true := decide_eq_true (by omega)
          obtain ⟨z, hz⟩ : ∃ z, C[i]? = some z := ⟨_, List.getElem?_eq_getElem (by rw [← HN.out]; exact hlt)⟩
          obtain ⟨b2, off, rfl, hbw, hrows⟩ := HCR.out.resolve_left (fun h => by have h2 : C = [] := h; rw [h2] at hz; simp at hz)
          have c0 : wr.cell? ⟨b2, off + i, none⟩ = some (.int .i64 z) := ints_cell hrows hz HBwr.out hbw
          have HNX := hid (show (false || (C.take (i + 1)).any (fun z => z == cl)) = (k || (z == cl)) by rw [take_next hz, List.any_append, HK.out]; simp)
          clear hz hrows
          cases k
          · by_cases hzc : z = cl
            · have e1 : decide (z = cl) = true := decide_eq_true hzc
              have e2 : (z == cl) = true := by simpa using hzc
              clear hzc
              go_wp2_with fail
              exact ⟨⟨i + 1, true, by omega, by go_num, rfl, by rw [HNX.out, e2]; rfl, HKP.out, HKO.out, HBwr.out⟩, by simp [intOf]; omega⟩
            · have e1 : decide (z = cl) = false := decide_eq_false hzc
              have e2 : (z == cl) = false := by simpa using hzc
              clear hzc
              go_wp2_with fail
              exact ⟨⟨i + 1, false, by omega, by go_num, rfl, by rw [HNX.out, e2]; rfl, HKP.out, HKO.out, HBwr.out⟩, by simp [intOf]; omega⟩
          · go_wp2_with fail
            exact ⟨⟨i + 1, true, by omega, by go_num, rfl, by rw [HNX.out]; rfl, HKP.out, HKO.out, HBwr.out⟩, by simp [intOf]; omega⟩
        · obtain rfl : i = n := by omega
          have d2 : decide ((i : Int) < (i : Int)) = false := by simp
          have HKV := hid (show k = clsW ⟨lv, .slice ra m rc, R, .slice ca i cc, C, ev⟩ ⟨id, x, y, zl, zh, wd, nm, of, cl⟩ by rw [HK.out, HN.out, List.take_length]; exact (HCI.out).symm)
          cases k
          · have HV := hid (HCLS.out HKV.out.symm)
            go_upto_region 11 with fail
            have r0 := fun d os => cell_regrown p0 d os
            have r3 := fun d os => cell_regrown q3 d os
            clear p0 p1 p2 p8 q0 q1 q2 q3
            refine wp_region_quiet_below (by kernel_rfl) (by kernel_rfl) ?_
            repeat (first | go_big_quiet_step (fail) | quiet_step (fail))
            refine wpQuiet_nil ?_
            intro _ hw'
            obtain ⟨⟨dqV, osV⟩, hw2⟩ := hw'
            subst hw2
            have HQV := hid (below_regrown wr dqV osV)
            generalize Sort.grow (redrawn wr dqV) osV = V at HQV ⊢
            have hsV := HQV.out.size
            go_wp2_with fail
            go_ret
            exact ⟨by rw [HV.out]; rfl, HBwr.out.trans (HQV.out.mono HBwr.out.size)⟩
          · have HCT := hid HKV.out.symm
            have HV := hid (HRNK.out (Or.inl (by omega)) HCT.out)
            by_cases hz : K % ev = 0
            · have e1 : decide (K % ev = 0) = true := decide_eq_true hz
              have e2 : (K % ev == 0) = true := by simpa using hz
              go_upto_region 11 with fail
              have r0 := fun d os => cell_regrown p0 d os
              have r3 := fun d os => cell_regrown q3 d os
              clear p0 p1 p2 p8 q0 q1 q2 q3
              refine wp_region_quiet_below (by kernel_rfl) (by kernel_rfl) ?_
              repeat (first | go_big_quiet_step ((go_at_call 105; with_reducible exact Calls.regrown_of (HRK.out _))) | quiet_step ((go_at_call 105; with_reducible exact Calls.regrown_of (HRK.out _))))
              refine wpQuiet_nil ?_
              intro _ hw'
              obtain ⟨⟨dqV, osV⟩, hw2⟩ := hw'
              subst hw2
              have HQV := hid (below_regrown wr dqV osV)
              generalize Sort.grow (redrawn wr dqV) osV = V at HQV ⊢
              have hsV := HQV.out.size
              go_wp2_with fail
              go_ret
              exact ⟨by rw [HV.out, e1]; rfl, HBwr.out.trans (HQV.out.mono HBwr.out.size)⟩
            · have e1 : decide (K % ev = 0) = false := decide_eq_false hz
              have e2 : (K % ev == 0) = false := by simpa using hz
              go_upto_region 11 with fail
              have r0 := fun d os => cell_regrown p0 d os
              have r3 := fun d os => cell_regrown q3 d os
              clear p0 p1 p2 p8 q0 q1 q2 q3
              refine wp_region_quiet_below (by kernel_rfl) (by kernel_rfl) ?_
              repeat (first | go_big_quiet_step ((go_at_call 105; with_reducible exact Calls.regrown_of (HRK.out _))) | quiet_step ((go_at_call 105; with_reducible exact Calls.regrown_of (HRK.out _))))
              refine wpQuiet_nil ?_
              intro _ hw'
              obtain ⟨⟨dqV, osV⟩, hw2⟩ := hw'
              subst hw2
              have HQV := hid (below_regrown wr dqV osV)
              generalize Sort.grow (redrawn wr dqV) osV = V at HQV ⊢
              have hsV := HQV.out.size
              go_wp2_with fail
              go_ret
              exact ⟨by rw [HV.out, e1]; rfl, HBwr.out.trans (HQV.out.mono HBwr.out.size)⟩
end Go.Proofs.Ytpablkmdpoombaa
