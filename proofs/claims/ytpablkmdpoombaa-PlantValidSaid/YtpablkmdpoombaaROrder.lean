/- The reference's ValidOrder 22. (Printed by wip/gen_order.py.) -/
import Derived.Test.YtpablkmdpoombaaOrder
namespace Go.Proofs.Ytpablkmdpoombaa
open Go.RowKit

set_option maxRecDepth 100000 in
set_option maxHeartbeats 3200000 in
theorem rorder_any (o : Od) (w : World) (h : OdV w o) : Calls Try.prog 22 #[.agg o.row.toArray] w fun r w' => r = .returned (.bool (odB o)) ∧ Below w.heap.size w w' := by
  have HO := hid h
  obtain ⟨lv, rv, R, cv, C, ev⟩ := o
  obtain ⟨⟨ra, rc, hrv, hrr⟩, hrl, ⟨ca, cc, hcv, hcr⟩, hcl⟩ := h
  obtain rfl : rv = .slice ra R.length rc := hrv
  obtain rfl : cv = .slice ca C.length cc := hcv
  have HCR := hid hcr
  clear hrr hcr
  simp only [Od.row]
  obtain ⟨m, hm⟩ : ∃ m, m = R.length := ⟨_, rfl⟩
  obtain ⟨n, hn⟩ : ∃ n, n = C.length := ⟨_, rfl⟩
  rw [← hm, ← hn] at HO ⊢
  have hrl' : m ≤ 9223372036854775807 := by have h1 : R.length ≤ maxLen := hrl; unfold maxLen at h1; omega
  have hcl' : n ≤ 9223372036854775807 := by have h1 : C.length ≤ maxLen := hcl; unfold maxLen at h1; omega
  have HM := hid hm
  have HN := hid hn
  clear hm hn hrl hcl
  have HRI := hid (fun W (hb : Below w.heap.size w W) => (HO.out.still hb).r)
  have HRL := hid (show R.length ≤ maxLen from HO.out.rl)
  obtain ⟨ra0, hra0⟩ : ∃ x, x = ra := ⟨_, rfl⟩
  obtain ⟨ca0, hca0⟩ : ∃ x, x = ca := ⟨_, rfl⟩
  have HOD := hid (show odB ⟨lv, .slice ra m rc, R, .slice ca n cc, C, ev⟩ = odB ⟨lv, .slice ra0 m rc, R, .slice ca0 n cc, C, ev⟩ from rfl)
  rw [HOD.out]
  clear HOD hra0 hca0
  go_enter Try.func22, Try.ntmps22
  go_wp2_with fail
  go_loopw [8] (fun iv W => ∃ i : Nat, i ≤ n ∧ iv = .int .i64 (i : Int) ∧ (C.take i).all clB = true ∧ Below w.heap.size w W ∧ W.heap[w.heap.size]? = some (.cells #[.int .i64 lv, .slice ra m rc, .slice ca n cc, .int .i64 ev] 64)) (fun iv _ => n - (intOf iv).toNat)
  case atStart => exact ⟨0, by omega, rfl, rfl, ((Below.refl _ _).alloc (Nat.le_refl _) _), heap_alloc_at _ _ _ rfl⟩
  case round =>
    obtain ⟨i, hi, rfl, hall, hB, hk⟩ := hrel
    have HALL := hid hall
    have HBwr := hid hB
    have HKwr := hid hk
    have hzwr := hB.size
    clear hall hB hk
    by_cases hlt : i < n
    · have d2 : decide ((i : Int) < (n : Int)) = true := decide_eq_true (by omega)
      obtain ⟨z, hz⟩ : ∃ z, C[i]? = some z := ⟨_, List.getElem?_eq_getElem (by rw [← HN.out]; exact hlt)⟩
      obtain ⟨b, off, rfl, hbw, hrows⟩ := HCR.out.resolve_left (fun h => by have h2 : C = [] := h; rw [h2] at hz; simp at hz)
      have c0 : wr.cell? ⟨b, off + i, none⟩ = some (.int .i64 z) := ints_cell hrows hz HBwr.out hbw
      cases h1 : inB 0 255 z
      · have H1 := hid h1
        have HV := hid (show odB ⟨lv, .slice ra0 m rc, R, .slice ca0 n cc, C, ev⟩ = false from odB_false (Or.inr (Or.inr (Or.inr (Or.inr (cl_stop hz h1))))))
        clear h1 hz hrows
        go_wp2_with fail
        refine (rfrom_any _ _ _ _).mono ?_
        rintro r w6 ⟨rfl, rfl⟩
        rw [H1.out]
        go_wp2_with fail
        go_ret
        exact ⟨by rw [HV.out]; rfl, HBwr.out⟩
      · have H1 := hid h1
        have HX := hid (cl_next hz h1 HALL.out)
        clear h1 hz hrows
        go_wp2_with fail
        refine (rfrom_any _ _ _ _).mono ?_
        rintro r w6 ⟨rfl, rfl⟩
        rw [H1.out]
        go_wp2_with fail
        exact ⟨⟨i + 1, by omega, by go_num, HX.out, HBwr.out, HKwr.out⟩, by simp [intOf]; omega⟩
    · obtain rfl : i = n := by omega
      have d2 : decide ((i : Int) < (i : Int)) = false := by simp
      have HCA := hid (show C.all clB = true by have h := HALL.out; rw [HN.out, List.take_length] at h; exact h)
      have q0 : wr.cell? ⟨w.heap.size, 0, none⟩ = some (.int .i64 lv) := (cell_row (j := 0) HKwr.out).trans rfl
      have q1 : wr.cell? ⟨w.heap.size, 1, none⟩ = some (.slice ra m rc) := (cell_row (j := 1) HKwr.out).trans rfl
      have q2 : wr.cell? ⟨w.heap.size, 2, none⟩ = some (.slice ca i cc) := (cell_row (j := 2) HKwr.out).trans rfl
      have q3 : wr.cell? ⟨w.heap.size, 3, none⟩ = some (.int .i64 ev) := (cell_row (j := 3) HKwr.out).trans rfl
      cases hA : inB 0 12 lv
      · have HA := hid hA
        have HV := hid (show odB ⟨lv, .slice ra0 m rc, R, .slice ca0 i cc, C, ev⟩ = false from odB_false (Or.inl hA))
        clear hA
        go_wp2_with fail
        refine (rfrom_any _ _ _ _).mono ?_
        rintro r w6 ⟨rfl, rfl⟩
        rw [HA.out]
        go_wp2_with fail
        go_ret
        exact ⟨by rw [HV.out]; rfl, HBwr.out⟩
      have HA := hid hA
      clear hA
      by_cases h0 : m = 0
      · have d1 : decide ((m : Int) = (0 : Int)) = true := decide_eq_true (by omega)
        have d6 : ((m : Int) == (0 : Int)) = true := by simpa using h0
        have HM0 := hid (show R.length = 0 by rw [← HM.out]; exact h0)
        by_cases h16 : i ≤ 16
        · have d5 : decide ((i : Int) ≤ (16 : Int)) = true := decide_eq_true (by omega)
          cases hE : inB 1 1000 ev
          · have HE := hid hE
            have HV := hid (show odB ⟨lv, .slice ra0 m rc, R, .slice ca0 i cc, C, ev⟩ = false from odB_false (Or.inr (Or.inl hE)))
            clear hE
            go_wp2_with fail
            refine (rfrom_any _ _ _ _).mono ?_
            rintro r w6 ⟨rfl, rfl⟩
            rw [HA.out]
            go_wp2_with fail
            refine (rfrom_any _ _ _ _).mono ?_
            rintro r w6 ⟨rfl, rfl⟩
            rw [HE.out]
            go_wp2_with fail
            go_ret
            exact ⟨by rw [HV.out]; rfl, HBwr.out⟩
          · have HE := hid hE
            have HV := hid (show odB ⟨lv, .slice ra0 m rc, R, .slice ca0 i cc, C, ev⟩ = true from odB_true HA.out HE.out (by show C.length ≤ 16; rw [← HN.out]; exact h16) (Or.inl HM0.out) HCA.out)
            clear hE
            go_wp2_with fail
            refine (rfrom_any _ _ _ _).mono ?_
            rintro r w6 ⟨rfl, rfl⟩
            rw [HA.out]
            go_wp2_with fail
            refine (rfrom_any _ _ _ _).mono ?_
            rintro r w6 ⟨rfl, rfl⟩
            rw [HE.out]
            go_wp2_with fail
            go_ret
            exact ⟨by rw [HV.out]; rfl, HBwr.out⟩
        · have d5 : decide ((i : Int) ≤ (16 : Int)) = false := decide_eq_false (by omega)
          have HV := hid (show odB ⟨lv, .slice ra0 m rc, R, .slice ca0 i cc, C, ev⟩ = false from odB_false (Or.inr (Or.inr (Or.inl (by show 16 < C.length; rw [← HN.out]; omega)))))
          go_wp2_with fail
          refine (rfrom_any _ _ _ _).mono ?_
          rintro r w6 ⟨rfl, rfl⟩
          rw [HA.out]
          go_wp2_with fail
          go_ret
          exact ⟨by rw [HV.out]; rfl, HBwr.out⟩
      · have d1 : decide ((m : Int) = (0 : Int)) = false := decide_eq_false (by omega)
        have d6 : ((m : Int) == (0 : Int)) = false := by simpa using h0
        cases hr : ringB R
        · have HR := hid hr
          have HV := hid (show odB ⟨lv, .slice ra0 m rc, R, .slice ca0 i cc, C, ev⟩ = false from odB_false (Or.inr (Or.inr (Or.inr (Or.inl ⟨by show 0 < R.length; rw [← HM.out]; omega, hr⟩)))))
          clear hr
          go_wp2_with fail
          refine (rfrom_any _ _ _ _).mono ?_
          rintro r w6 ⟨rfl, rfl⟩
          rw [HA.out]
          go_wp2_with fail
          refine (rRing_any _ R _ ((HO.out.still HBwr.out).r) HRL.out).mono ?_
          rintro r w7 ⟨rfl, hb⟩
          rw [HR.out]
          have HB7 := hid (HBwr.out.trans (hb.mono hzwr))
          have K7 := hid (heap_still hb HKwr.out)
          clear hb
          have q0 : w7.cell? ⟨w.heap.size, 0, none⟩ = some (.int .i64 lv) := (cell_row (j := 0) K7.out).trans rfl
          have q1 : w7.cell? ⟨w.heap.size, 1, none⟩ = some (.slice ra m rc) := (cell_row (j := 1) K7.out).trans rfl
          have q2 : w7.cell? ⟨w.heap.size, 2, none⟩ = some (.slice ca i cc) := (cell_row (j := 2) K7.out).trans rfl
          have q3 : w7.cell? ⟨w.heap.size, 3, none⟩ = some (.int .i64 ev) := (cell_row (j := 3) K7.out).trans rfl
          go_wp2_with fail
          go_ret
          exact ⟨by rw [HV.out]; rfl, HB7.out⟩
        · have HR := hid hr
          clear hr
          by_cases h16 : i ≤ 16
          · have d5 : decide ((i : Int) ≤ (16 : Int)) = true := decide_eq_true (by omega)
            cases hE : inB 1 1000 ev
            · have HE := hid hE
              have HV := hid (show odB ⟨lv, .slice ra0 m rc, R, .slice ca0 i cc, C, ev⟩ = false from odB_false (Or.inr (Or.inl hE)))
              clear hE
              go_wp2_with fail
              refine (rfrom_any _ _ _ _).mono ?_
              rintro r w6 ⟨rfl, rfl⟩
              rw [HA.out]
              go_wp2_with fail
              refine (rRing_any _ R _ ((HO.out.still HBwr.out).r) HRL.out).mono ?_
              rintro r w7 ⟨rfl, hb⟩
              rw [HR.out]
              have HB7 := hid (HBwr.out.trans (hb.mono hzwr))
              have K7 := hid (heap_still hb HKwr.out)
              clear hb
              have q0 : w7.cell? ⟨w.heap.size, 0, none⟩ = some (.int .i64 lv) := (cell_row (j := 0) K7.out).trans rfl
              have q1 : w7.cell? ⟨w.heap.size, 1, none⟩ = some (.slice ra m rc) := (cell_row (j := 1) K7.out).trans rfl
              have q2 : w7.cell? ⟨w.heap.size, 2, none⟩ = some (.slice ca i cc) := (cell_row (j := 2) K7.out).trans rfl
              have q3 : w7.cell? ⟨w.heap.size, 3, none⟩ = some (.int .i64 ev) := (cell_row (j := 3) K7.out).trans rfl
              go_wp2_with fail
              refine (rfrom_any _ _ _ _).mono ?_
              rintro r w6 ⟨rfl, rfl⟩
              rw [HE.out]
              go_wp2_with fail
              go_ret
              exact ⟨by rw [HV.out]; rfl, HB7.out⟩
            · have HE := hid hE
              have HV := hid (show odB ⟨lv, .slice ra0 m rc, R, .slice ca0 i cc, C, ev⟩ = true from odB_true HA.out HE.out (by show C.length ≤ 16; rw [← HN.out]; exact h16) (Or.inr HR.out) HCA.out)
              clear hE
              go_wp2_with fail
              refine (rfrom_any _ _ _ _).mono ?_
              rintro r w6 ⟨rfl, rfl⟩
              rw [HA.out]
              go_wp2_with fail
              refine (rRing_any _ R _ ((HO.out.still HBwr.out).r) HRL.out).mono ?_
              rintro r w7 ⟨rfl, hb⟩
              rw [HR.out]
              have HB7 := hid (HBwr.out.trans (hb.mono hzwr))
              have K7 := hid (heap_still hb HKwr.out)
              clear hb
              have q0 : w7.cell? ⟨w.heap.size, 0, none⟩ = some (.int .i64 lv) := (cell_row (j := 0) K7.out).trans rfl
              have q1 : w7.cell? ⟨w.heap.size, 1, none⟩ = some (.slice ra m rc) := (cell_row (j := 1) K7.out).trans rfl
              have q2 : w7.cell? ⟨w.heap.size, 2, none⟩ = some (.slice ca i cc) := (cell_row (j := 2) K7.out).trans rfl
              have q3 : w7.cell? ⟨w.heap.size, 3, none⟩ = some (.int .i64 ev) := (cell_row (j := 3) K7.out).trans rfl
              go_wp2_with fail
              refine (rfrom_any _ _ _ _).mono ?_
              rintro r w6 ⟨rfl, rfl⟩
              rw [HE.out]
              go_wp2_with fail
              go_ret
              exact ⟨by rw [HV.out]; rfl, HB7.out⟩
          · have d5 : decide ((i : Int) ≤ (16 : Int)) = false := decide_eq_false (by omega)
            have HV := hid (show odB ⟨lv, .slice ra0 m rc, R, .slice ca0 i cc, C, ev⟩ = false from odB_false (Or.inr (Or.inr (Or.inl (by show 16 < C.length; rw [← HN.out]; omega)))))
            go_wp2_with fail
            refine (rfrom_any _ _ _ _).mono ?_
            rintro r w6 ⟨rfl, rfl⟩
            rw [HA.out]
            go_wp2_with fail
            refine (rRing_any _ R _ ((HO.out.still HBwr.out).r) HRL.out).mono ?_
            rintro r w7 ⟨rfl, hb⟩
            rw [HR.out]
            have HB7 := hid (HBwr.out.trans (hb.mono hzwr))
            have K7 := hid (heap_still hb HKwr.out)
            clear hb
            have q0 : w7.cell? ⟨w.heap.size, 0, none⟩ = some (.int .i64 lv) := (cell_row (j := 0) K7.out).trans rfl
            have q1 : w7.cell? ⟨w.heap.size, 1, none⟩ = some (.slice ra m rc) := (cell_row (j := 1) K7.out).trans rfl
            have q2 : w7.cell? ⟨w.heap.size, 2, none⟩ = some (.slice ca i cc) := (cell_row (j := 2) K7.out).trans rfl
            have q3 : w7.cell? ⟨w.heap.size, 3, none⟩ = some (.int .i64 ev) := (cell_row (j := 3) K7.out).trans rfl
            go_wp2_with fail
            go_ret
            exact ⟨by rw [HV.out]; rfl, HB7.out⟩
end Go.Proofs.Ytpablkmdpoombaa
