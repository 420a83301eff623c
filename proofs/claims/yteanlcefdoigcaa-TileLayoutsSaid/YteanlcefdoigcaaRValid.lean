/- Which lists of points are valid: what the reference returns, for every list. -/
import Derived.Test.YteanlcefdoigcaaGood
import Derived.Lib.QuietBelow
namespace Go.Proofs.Yteanlcefdoigcaa
open Go.RowKit Go.Maps Go.Sort

def anyId (F : Nat → Nat → Int) (i : Nat) (p : Int) : Bool := (List.range i).any (fun j => F j 0 == p)
theorem anyId_next (F : Nat → Nat → Int) (i : Nat) (p : Int) : anyId F (i + 1) p = (anyId F i p || F i 0 == p) := by
  unfold anyId
  rw [List.range_succ, List.any_append]
  simp
theorem anyId_stop {F : Nat → Nat → Int} {i j : Nat} {p : Int} (h : j < i) (he : F j 0 = p) : anyId F i p = true := by
  unfold anyId
  rw [List.any_eq_true]
  exact ⟨j, List.mem_range.2 h, by simp [he]⟩
def rnewB (F : Nat → Nat → Int) (i : Nat) : Bool := (ptB (F i) && inB 0 255 (F i 8)) && !anyId F i (F i 0)
theorem allN_and (p q : Nat → Bool) (n : Nat) : allN (fun i => p i && q i) n = (allN p n && allN q n) := by
  induction n with
  | zero => rfl
  | succ n ih =>
    simp only [allN, ih]
    cases allN p n <;> cases allN q n <;> cases p n <;> cases q n <;> rfl
theorem goodV_ref (F : Nat → Nat → Int) (n : Nat) : goodV F n = (decide (n ≤ 1024) && allN (rnewB F) n) := by
  have e : rnewB F = fun i => clsB F i && newB F i := by
    funext i
    unfold rnewB clsB newB anyId
    cases ptB (F i) <;> cases inB 0 255 (F i 8) <;> rfl
  rw [e, allN_and]
  unfold goodV validV
  cases allN (clsB F) n <;> cases decide (n ≤ 1024) <;> rfl
set_option maxRecDepth 100000 in
theorem rValid_none (a : Option Addr) (c : Nat) (w : World) :
    Calls Try.prog 18 #[.slice a 0 c] w fun r w' => r = .returned (.bool true) ∧ Below w.heap.size w w' := by
  go_enter Try.func18, Try.ntmps18
  go_wp2_with fail
  refine wp_loop_rounds 1 ?_
  rw [rounds_succ]
  go_wp2_with fail
  go_ret
  exact ⟨rfl, by (repeat' (first | (with_reducible exact Below.refl _ _) | (with_reducible assumption) | (with_reducible refine Below.alloc ?_ ?_ _) | (with_reducible refine Below.drew ?_) | (with_reducible refine below_drewN ?_ _) | (with_reducible refine Below.setCell ?_ ?_ _) | (with_reducible refine below_setRow ?_ ?_ _) | go_size))⟩
set_option maxRecDepth 100000 in
set_option maxHeartbeats 1600000 in
theorem rValid_any (b off n c : Nat) (F : Nat → Nat → Int) (w : World) (hn0 : 0 < n) (hbw : b < w.heap.size) (hr : recs9 w b off n F) :
    Calls Try.prog 18 #[.slice (some ⟨b, off, none⟩) n c] w fun r w' => r = .returned (.bool (goodV F n)) ∧ Below w.heap.size w w' := by
  rw [goodV_ref]
  obtain ⟨gv, hgv⟩ : ∃ gv, gv = (decide (n ≤ 1024) && allN (rnewB F) n) := ⟨_, rfl⟩
  rw [← hgv]
  have HC := hid hr
  clear hr
  by_cases hn : n ≤ 1024
  · have hp : ¬ (1024 : Int) < (n : Int) := by omega
    have hd : decide ((1024 : Int) < (n : Int)) = false := decide_eq_false hp
    have HGV := hid (show gv = allN (rnewB F) n by rw [hgv]; simp [hn])
    clear hgv
    go_enter Try.func18, Try.ntmps18
    go_wp2_with fail
    go_loopw [10] (fun iv W => ∃ k : Nat, k ≤ n ∧ iv = .int .i64 (k : Int) ∧ allN (rnewB F) k = true ∧ Below w.heap.size w W) (fun iv _ => n - (intOf iv).toNat)
    case atStart => exact ⟨0, by omega, rfl, rfl, Below.refl _ _⟩
    case round =>
      obtain ⟨k, hk, rfl, hall, hB⟩ := hrel
      have HBwr := hid hB
      have hzwr := hB.size
      have HA := hid hall
      clear hall
      by_cases hlt : k < n
      · have hcs := HC.out.still hB hbw k hlt
        have HRW := hid (HC.out.still hB hbw)
        have c0 := hcs 0 (by decide)
        have c1 := hcs 1 (by decide)
        have c2 := hcs 2 (by decide)
        have c3 := hcs 3 (by decide)
        have c4 := hcs 4 (by decide)
        have c5 := hcs 5 (by decide)
        have c6 := hcs 6 (by decide)
        have c7 := hcs 7 (by decide)
        have c8 := hcs 8 (by decide)
        rw [Nat.add_zero] at c0
        have HNB := hid (show rnewB F k = ((pointB (F k 0) (F k 1) (F k 2) (F k 3) (F k 4) (F k 5) (F k 6) (F k 7) && inB 0 255 (F k 8)) && !anyId F k (F k 0)) from rfl)
        have HNX := hid (fun h : rnewB F k = true => allN_next HA.out h)
        have HX := hid (fun h : rnewB F k = false => show gv = false by rw [HGV.out]; exact allN_stop hlt h)
        clear hB hcs
        generalize F k 0 = p0 at HNB c0 ⊢
        generalize F k 1 = p1 at HNB c1 ⊢
        generalize F k 2 = p2 at HNB c2 ⊢
        generalize F k 3 = p3 at HNB c3 ⊢
        generalize F k 4 = p4 at HNB c4 ⊢
        generalize F k 5 = p5 at HNB c5 ⊢
        generalize F k 6 = p6 at HNB c6 ⊢
        generalize F k 7 = p7 at HNB c7 ⊢
        generalize F k 8 = p8 at HNB c8 ⊢
        have C0 := hid c0
        go_wp2_with fail
        refine (rPoint_any _ _ _ _ _ _ _ _ _ _).mono ?_
        rintro r w1 ⟨rfl, hb⟩
        have HB1 := hid (show Below w.heap.size w w1 from HBwr.out.trans (hb.mono hzwr))
        have HRW1 := hid (HRW.out.still hb (by omega))
        have D0 := hid (show w1.cell? ⟨b, off + k * 9, none⟩ = some (.int .i64 p0) from (hb.cell (p := ⟨b, off + k * 9, none⟩) (show b < wr.heap.size by omega)).trans C0.out)
        have hs1 := hb.size
        clear hb c0 c1 c2 c3 c4 c5 c6 c7 c8
        cases hq : (pointB p0 p1 p2 p3 p4 p5 p6 p7 && inB 0 255 p8)
        · have HF := hid (HX.out (by rw [HNB.out, hq]; rfl))
          clear hq
          go_wp2_with fail
          go_ret
          exact ⟨by rw [HF.out]; rfl, HB1.out⟩
        · have HQ := hid hq
          clear hq
          have hzw1 := HB1.out.size
          go_wp2_with fail
          go_loopw [4] (fun jv W => ∃ j : Nat, j ≤ k ∧ jv = .int .i64 (j : Int) ∧ anyId F j p0 = false ∧ Below w1.heap.size w1 W) (fun jv _ => k - (intOf jv).toNat)
          case atStart => exact ⟨0, by omega, rfl, rfl, Below.refl _ _⟩
          case round =>
            obtain ⟨j, hjk, rfl, hany, hB2⟩ := hrel
            have HB2 := hid hB2
            have HAN := hid hany
            clear hany
            have hz2 := hB2.size
            by_cases hjl : j < k
            · have hcj := HRW1.out.still hB2 (by omega) j (by omega) 0 (by decide)
              rw [Nat.add_zero] at hcj
              have hck : wr.cell? ⟨b, off + k * 9, none⟩ = some (.int .i64 p0) := (hB2.cell (p := ⟨b, off + k * 9, none⟩) (show b < w1.heap.size by omega)).trans D0.out
              have HST := hid (fun h : F j 0 = p0 => @anyId_stop F k j p0 hjl h)
              have HNJ := hid (anyId_next F j p0)
              clear hB2
              generalize F j 0 = q at *
              have a0 := fun d os => cell_regrown hcj d os
              have b0 := fun d os => cell_regrown hck d os
              go_wp2_with fail
              refine wp_region_quiet_below (by kernel_rfl) (by kernel_rfl) ?_
              repeat (first | go_big_quiet_step (fail) | quiet_step (fail))
              refine wpQuiet_nil ?_
              intro _ hw'
              obtain ⟨⟨dq, osq⟩, hw2⟩ := hw'
              subst hw2
              have HB3 := hid (HB2.out.trans ((below_regrown wr dq osq).mono hz2))
              clear a0 b0 hcj hck
              generalize grow (redrawn wr dq) osq = W9 at *
              by_cases hqp : q = p0
              · have hb9 : (q == p0) = true := beq_iff_eq.2 hqp
                have HF := hid (HX.out (by rw [HNB.out, HQ.out, HST.out hqp]; rfl))
                clear hqp
                go_wp2_with fail
                go_ret
                exact ⟨by rw [HF.out]; rfl, HB1.out.trans (HB3.out.mono hzw1)⟩
              · have hb9 : (q == p0) = false := beq_eq_false_iff_ne.2 hqp
                have HJ := hid (show anyId F (j + 1) p0 = false by rw [HNJ.out, HAN.out, hb9]; rfl)
                clear hqp
                go_wp2_with fail
                exact ⟨⟨j + 1, by omega, by go_num, HJ.out, HB3.out⟩, by simp [intOf]; omega⟩
            · obtain rfl : j = k := by omega
              have HN := hid (HNX.out (by rw [HNB.out, HQ.out, HAN.out]; rfl))
              clear hB2
              go_wp2_with fail
              exact ⟨⟨j + 1, by omega, by go_num, HN.out, HB1.out.trans (HB2.out.mono hzw1)⟩, by simp [intOf]; omega⟩
      · obtain rfl : k = n := by omega
        have HV := hid (show gv = true by rw [HGV.out, HA.out])
        clear hB
        go_wp2_with fail
        go_ret
        exact ⟨by rw [HV.out]; rfl, HBwr.out⟩
  · have HV := hid (show gv = false by rw [hgv]; simp [hn])
    have hp : (1024 : Int) < (n : Int) := by omega
    have hd : decide ((1024 : Int) < (n : Int)) = true := decide_eq_true hp
    clear hn hgv
    go_enter Try.func18, Try.ntmps18
    go_wp2_with fail
    go_ret
    exact ⟨by rw [HV.out]; rfl, Below.refl _ _⟩
end Go.Proofs.Yteanlcefdoigcaa
