/- The reference's One 108 and Valid 68 (a point may bear any class). (Printed by wip/gen_rval.py.) -/
import Derived.Test.YtpablkmdpoombaaRWithin
import Derived.Lib.QuietBelow
namespace Go.Proofs.Ytpablkmdpoombaa
open Go.RowKit Go.Sort

set_option maxRecDepth 100000 in
set_option maxHeartbeats 1600000 in
theorem one_any (id x y zl zh wd nm of cl : Int) (w : World) :
    Calls Try.prog 108 #[.agg #[.int .i64 id, .int .i64 x, .int .i64 y, .int .i64 zl, .int .i64 zh, .int .i64 wd, .int .i64 nm, .int .i64 of, .int .i64 cl]] w fun e w' => e = .returned (.bool (pointB id x y zl zh wd nm of)) ∧ Below w.heap.size w w' := by
  obtain ⟨A, hA⟩ : ∃ A, A = inB 0 1152921504606846976 id := ⟨_, rfl⟩
  obtain ⟨B, hB⟩ : ∃ B, B = placeB x y := ⟨_, rfl⟩
  obtain ⟨C, hC⟩ : ∃ C, C = decide (zl ≤ zh) := ⟨_, rfl⟩
  obtain ⟨D, hD⟩ : ∃ D, D = decide ((-268435456 : Int) ≤ zl) := ⟨_, rfl⟩
  obtain ⟨E, hE⟩ : ∃ E, E = decide (zh ≤ (268435456 : Int)) := ⟨_, rfl⟩
  obtain ⟨G, hG⟩ : ∃ G, G = inB 0 268435456 wd := ⟨_, rfl⟩
  obtain ⟨H, hH⟩ : ∃ H, H = inB 1 of nm := ⟨_, rfl⟩
  obtain ⟨I, hI⟩ : ∃ I, I = decide (of ≤ (15 : Int)) := ⟨_, rfl⟩
  have HV := hid (show pointB id x y zl zh wd nm of = (A && B && (D && C) && E && G && H && I) by rw [hA, hB, hC, hD, hE, hG, hH, hI]; rfl)
  have HA := hid hA.symm
  have HB := hid hB.symm
  have HG := hid hG.symm
  have HH := hid hH.symm
  have dC := hC.symm
  have dD := hD.symm
  have dE := hE.symm
  have dI := hI.symm
  clear hA hB hC hD hE hG hH hI
  go_enter Try.func108, Try.ntmps108
  go_upto_region 1 with fail
  refine gen_world (fun W0 hW0 => ?_)
  have K0 := hid (show W0.heap[w.heap.size]? = some (.cells #[.int .i64 id, .int .i64 x, .int .i64 y, .int .i64 zl, .int .i64 zh, .int .i64 wd, .int .i64 nm, .int .i64 of, .int .i64 cl] 78) by rw [hW0]; exact heap_alloc_at _ _ _ rfl)
  have HB0 := hid (show Below w.heap.size w W0 by rw [hW0]; exact (Below.refl _ _).alloc (Nat.le_refl _) _)
  clear hW0
  have c0 : W0.cell? ⟨w.heap.size, 0, none⟩ = some (.int .i64 id) := (cell_row (j := 0) K0.out).trans rfl
  have c1 : W0.cell? ⟨w.heap.size, 1, none⟩ = some (.int .i64 x) := (cell_row (j := 1) K0.out).trans rfl
  have c2 : W0.cell? ⟨w.heap.size, 2, none⟩ = some (.int .i64 y) := (cell_row (j := 2) K0.out).trans rfl
  have c3 : W0.cell? ⟨w.heap.size, 3, none⟩ = some (.int .i64 zl) := (cell_row (j := 3) K0.out).trans rfl
  have c4 : W0.cell? ⟨w.heap.size, 4, none⟩ = some (.int .i64 zh) := (cell_row (j := 4) K0.out).trans rfl
  have c5 : W0.cell? ⟨w.heap.size, 5, none⟩ = some (.int .i64 wd) := (cell_row (j := 5) K0.out).trans rfl
  have c6 : W0.cell? ⟨w.heap.size, 6, none⟩ = some (.int .i64 nm) := (cell_row (j := 6) K0.out).trans rfl
  have c7 : W0.cell? ⟨w.heap.size, 7, none⟩ = some (.int .i64 of) := (cell_row (j := 7) K0.out).trans rfl
  have c8 : W0.cell? ⟨w.heap.size, 8, none⟩ = some (.int .i64 cl) := (cell_row (j := 8) K0.out).trans rfl
  cases A
  · go_wp2_with fail
    refine (rwithin_any _ _ _ _).mono ?_
    rintro r w6 ⟨rfl, rfl⟩
    rw [HA.out]
    go_wp2_with fail
    go_ret
    exact ⟨by rw [HV.out]; (first | rfl | simp), HB0.out⟩
  go_wp2_with fail
  refine (rwithin_any _ _ _ _).mono ?_
  rintro r w6 ⟨rfl, rfl⟩
  rw [HA.out]
  go_wp2_with fail
  refine (rplace_any _ _ _).mono ?_
  rintro r w1 ⟨rfl, hb⟩
  rw [HB.out]
  have K1 := hid (heap_still hb K0.out)
  have HB1 := hid (HB0.out.trans (hb.mono HB0.out.size))
  clear hb K0 HB0 c0 c1 c2 c3 c4 c5 c6 c7 c8
  have c0 : w1.cell? ⟨w.heap.size, 0, none⟩ = some (.int .i64 id) := (cell_row (j := 0) K1.out).trans rfl
  have c1 : w1.cell? ⟨w.heap.size, 1, none⟩ = some (.int .i64 x) := (cell_row (j := 1) K1.out).trans rfl
  have c2 : w1.cell? ⟨w.heap.size, 2, none⟩ = some (.int .i64 y) := (cell_row (j := 2) K1.out).trans rfl
  have c3 : w1.cell? ⟨w.heap.size, 3, none⟩ = some (.int .i64 zl) := (cell_row (j := 3) K1.out).trans rfl
  have c4 : w1.cell? ⟨w.heap.size, 4, none⟩ = some (.int .i64 zh) := (cell_row (j := 4) K1.out).trans rfl
  have c5 : w1.cell? ⟨w.heap.size, 5, none⟩ = some (.int .i64 wd) := (cell_row (j := 5) K1.out).trans rfl
  have c6 : w1.cell? ⟨w.heap.size, 6, none⟩ = some (.int .i64 nm) := (cell_row (j := 6) K1.out).trans rfl
  have c7 : w1.cell? ⟨w.heap.size, 7, none⟩ = some (.int .i64 of) := (cell_row (j := 7) K1.out).trans rfl
  have c8 : w1.cell? ⟨w.heap.size, 8, none⟩ = some (.int .i64 cl) := (cell_row (j := 8) K1.out).trans rfl
  cases B
  · go_wp2_with fail
    go_ret
    exact ⟨by rw [HV.out]; (first | rfl | simp), HB1.out⟩
  cases C
  · go_wp2_with fail
    go_ret
    exact ⟨by rw [HV.out]; (first | rfl | simp), HB1.out⟩
  cases D
  · go_wp2_with fail
    go_ret
    exact ⟨by rw [HV.out]; (first | rfl | simp), HB1.out⟩
  cases E
  · go_wp2_with fail
    go_ret
    exact ⟨by rw [HV.out]; (first | rfl | simp), HB1.out⟩
  cases G
  · go_wp2_with fail
    refine (rwithin_any _ _ _ _).mono ?_
    rintro r w6 ⟨rfl, rfl⟩
    rw [HG.out]
    go_wp2_with fail
    go_ret
    exact ⟨by rw [HV.out]; (first | rfl | simp), HB1.out⟩
  go_wp2_with fail
  refine (rwithin_any _ _ _ _).mono ?_
  rintro r w6 ⟨rfl, rfl⟩
  rw [HG.out]
  cases H
  · go_wp2_with fail
    refine (rwithin_any _ _ _ _).mono ?_
    rintro r w6 ⟨rfl, rfl⟩
    rw [HH.out]
    go_wp2_with fail
    go_ret
    exact ⟨by rw [HV.out]; (first | rfl | simp), HB1.out⟩
  go_wp2_with fail
  refine (rwithin_any _ _ _ _).mono ?_
  rintro r w6 ⟨rfl, rfl⟩
  rw [HH.out]
  cases I
  · go_wp2_with fail
    go_ret
    exact ⟨by rw [HV.out]; (first | rfl | simp), HB1.out⟩
  · go_wp2_with fail
    go_ret
    exact ⟨by rw [HV.out]; (first | rfl | simp), HB1.out⟩
def onewB (F : Nat → Nat → Int) (i : Nat) : Bool := ptB (F i) && !anyId F i (F i 0)
theorem validV_ref (F : Nat → Nat → Int) (n : Nat) : validV F n = (decide (n ≤ 1024) && allN (onewB F) n) := rfl
set_option maxRecDepth 100000 in
theorem rValidP_none (a : Option Addr) (c : Nat) (w : World) :
    Calls Try.prog 68 #[.slice a 0 c] w fun r w' => r = .returned (.bool true) ∧ Below w.heap.size w w' := by
  go_enter Try.func68, Try.ntmps68
  go_wp2_with fail
  refine wp_loop_rounds 1 ?_
  rw [rounds_succ]
  go_wp2_with fail
  go_ret
  exact ⟨rfl, by (repeat' (first | (with_reducible exact Below.refl _ _) | (with_reducible assumption) | (with_reducible refine Below.alloc ?_ ?_ _) | (with_reducible refine Below.drew ?_) | (with_reducible refine below_drewN ?_ _) | (with_reducible refine Below.setCell ?_ ?_ _) | (with_reducible refine below_setRow ?_ ?_ _) | go_size))⟩
set_option maxRecDepth 100000 in
set_option maxHeartbeats 1600000 in
theorem rValidP_any (b off n c : Nat) (F : Nat → Nat → Int) (w : World) (hn0 : 0 < n) (hbw : b < w.heap.size) (hr : recs9 w b off n F) :
    Calls Try.prog 68 #[.slice (some ⟨b, off, none⟩) n c] w fun r w' => r = .returned (.bool (validV F n)) ∧ Below w.heap.size w w' := by
  rw [validV_ref]
  obtain ⟨gv, hgv⟩ : ∃ gv, gv = (decide (n ≤ 1024) && allN (onewB F) n) := ⟨_, rfl⟩
  rw [← hgv]
  have HC := hid hr
  clear hr
  by_cases hn : n ≤ 1024
  · have hp : ¬ (1024 : Int) < (n : Int) := by omega
    have hd : decide ((1024 : Int) < (n : Int)) = false := decide_eq_false hp
    have HGV := hid (show gv = allN (onewB F) n by rw [hgv]; simp [hn])
    clear hgv
    go_enter Try.func68, Try.ntmps68
    go_wp2_with fail
    go_loopw [3] (fun iv W => ∃ k : Nat, k ≤ n ∧ iv = .int .i64 (k : Int) ∧ allN (onewB F) k = true ∧ Below w.heap.size w W) (fun iv _ => n - (intOf iv).toNat)
    case atStart => exact ⟨0, by omega, rfl, rfl, Below.refl _ _⟩
    case round =>
      obtain ⟨k, hk, rfl, hall, hB⟩ := hrel
      have HBwr := hid hB
      have hzwr := hB.size
      have HA := hid hall
      clear hall
      by_cases hlt : k < n
      · have hcs := HC.out.still hB hbw k hlt
        have HRW := hid (HC.out.still hB hbw)
        have c0 := hcs 0 (by decide)
        have c1 := hcs 1 (by decide)
        have c2 := hcs 2 (by decide)
        have c3 := hcs 3 (by decide)
        have c4 := hcs 4 (by decide)
        have c5 := hcs 5 (by decide)
        have c6 := hcs 6 (by decide)
        have c7 := hcs 7 (by decide)
        have c8 := hcs 8 (by decide)
        rw [Nat.add_zero] at c0
        have HNB := hid (show onewB F k = (pointB (F k 0) (F k 1) (F k 2) (F k 3) (F k 4) (F k 5) (F k 6) (F k 7) && !anyId F k (F k 0)) from rfl)
        have HNX := hid (fun h : onewB F k = true => allN_next HA.out h)
        have HX := hid (fun h : onewB F k = false => show gv = false by rw [HGV.out]; exact allN_stop hlt h)
        clear hB hcs
        generalize F k 0 = p0 at HNB c0 ⊢
        generalize F k 1 = p1 at HNB c1 ⊢
        generalize F k 2 = p2 at HNB c2 ⊢
        generalize F k 3 = p3 at HNB c3 ⊢
        generalize F k 4 = p4 at HNB c4 ⊢
        generalize F k 5 = p5 at HNB c5 ⊢
        generalize F k 6 = p6 at HNB c6 ⊢
        generalize F k 7 = p7 at HNB c7 ⊢
        generalize F k 8 = p8 at HNB c8 ⊢
        have C0 := hid c0
        go_wp2_with fail
        refine (one_any _ _ _ _ _ _ _ _ _ _).mono ?_
        rintro r w1 ⟨rfl, hb⟩
        have HB1 := hid (show Below w.heap.size w w1 from HBwr.out.trans (hb.mono hzwr))
        have HRW1 := hid (HRW.out.still hb (by omega))
        have D0 := hid (show w1.cell? ⟨b, off + k * 9, none⟩ = some (.int .i64 p0) from (hb.cell (p := ⟨b, off + k * 9, none⟩) (show b < wr.heap.size by omega)).trans C0.out)
        have hs1 := hb.size
        clear hb c0 c1 c2 c3 c4 c5 c6 c7 c8
        cases hq : pointB p0 p1 p2 p3 p4 p5 p6 p7
        · have HF := hid (HX.out (by rw [HNB.out, hq]; rfl))
          clear hq
          go_wp2_with fail
          go_ret
          exact ⟨by rw [HF.out]; rfl, HB1.out⟩
        · have HQ := hid hq
          clear hq
          have hzw1 := HB1.out.size
          go_wp2_with fail
          go_loopw [4] (fun jv W => ∃ j : Nat, j ≤ k ∧ jv = .int .i64 (j : Int) ∧ anyId F j p0 = false ∧ Below w1.heap.size w1 W) (fun jv _ => k - (intOf jv).toNat)
          case atStart => exact ⟨0, by omega, rfl, rfl, Below.refl _ _⟩
          case round =>
            obtain ⟨j, hjk, rfl, hany, hB2⟩ := hrel
            have HB2 := hid hB2
            have HAN := hid hany
            clear hany
            have hz2 := hB2.size
            by_cases hjl : j < k
            · have hcj := HRW1.out.still hB2 (by omega) j (by omega) 0 (by decide)
              rw [Nat.add_zero] at hcj
              have hck : wr.cell? ⟨b, off + k * 9, none⟩ = some (.int .i64 p0) := (hB2.cell (p := ⟨b, off + k * 9, none⟩) (show b < w1.heap.size by omega)).trans D0.out
              have HST := hid (fun h : F j 0 = p0 => @anyId_stop F k j p0 hjl h)
              have HNJ := hid (anyId_next F j p0)
              clear hB2
              generalize F j 0 = q at *
              have a0 := fun d os => cell_regrown hcj d os
              have b0 := fun d os => cell_regrown hck d os
              go_wp2_with fail
              refine wp_region_quiet_below (by kernel_rfl) (by kernel_rfl) ?_
              repeat (first | go_big_quiet_step (fail) | quiet_step (fail))
              refine wpQuiet_nil ?_
              intro _ hw'
              obtain ⟨⟨dq, osq⟩, hw2⟩ := hw'
              subst hw2
              have HB3 := hid (HB2.out.trans ((below_regrown wr dq osq).mono hz2))
              clear a0 b0 hcj hck
              generalize grow (redrawn wr dq) osq = W9 at *
              by_cases hqp : q = p0
              · have hb9 : (q == p0) = true := beq_iff_eq.2 hqp
                have HF := hid (HX.out (by rw [HNB.out, HQ.out, HST.out hqp]; rfl))
                clear hqp
                go_wp2_with fail
                go_ret
                exact ⟨by rw [HF.out]; rfl, HB1.out.trans (HB3.out.mono hzw1)⟩
              · have hb9 : (q == p0) = false := beq_eq_false_iff_ne.2 hqp
                have HJ := hid (show anyId F (j + 1) p0 = false by rw [HNJ.out, HAN.out, hb9]; rfl)
                clear hqp
                go_wp2_with fail
                exact ⟨⟨j + 1, by omega, by go_num, HJ.out, HB3.out⟩, by simp [intOf]; omega⟩
            · obtain rfl : j = k := by omega
              have HN := hid (HNX.out (by rw [HNB.out, HQ.out, HAN.out]; rfl))
              clear hB2
              go_wp2_with fail
              exact ⟨⟨j + 1, by omega, by go_num, HN.out, HB1.out.trans (HB2.out.mono hzw1)⟩, by simp [intOf]; omega⟩
      · obtain rfl : k = n := by omega
        have HV := hid (show gv = true by rw [HGV.out, HA.out])
        clear hB
        go_wp2_with fail
        go_ret
        exact ⟨by rw [HV.out]; rfl, HBwr.out⟩
  · have HV := hid (show gv = false by rw [hgv]; simp [hn])
    have hp : (1024 : Int) < (n : Int) := by omega
    have hd : decide ((1024 : Int) < (n : Int)) = true := decide_eq_true hp
    clear hn hgv
    go_enter Try.func68, Try.ntmps68
    go_wp2_with fail
    go_ret
    exact ⟨by rw [HV.out]; rfl, Below.refl _ _⟩
end Go.Proofs.Ytpablkmdpoombaa
