/- The program's pose between two fixes. -/
import Derived.Test.YteoikaedpgianaaXNear
import Derived.Test.YteoikaedpgianaaOneCell
import Derived.Test.YteoikaedpgianaaExt
namespace Go.Proofs.Yteoikaedpgianaa
open Go.RowKit Limb

theorem fix_tilt {a : Nat → Int} (h : fixF a = true) : 0 ≤ a 9 ∧ a 9 ≤ 1000000 := by
  unfold fixF fixB at h
  simp only [Bool.and_eq_true] at h
  have := h.2
  simp [inB] at this
  omega
theorem size80b : (Try.prog.info? 80).map (·.size) = some 11 := by kernel_rfl
theorem floor_parts {a b : Int} (hb : 0 < b) : (0 ≤ a.tmod b → a.tdiv b = a / b) ∧ (a.tmod b < 0 → a.tdiv b - 1 = a / b) := by
  have h1 := Int.mul_tdiv_add_tmod a b
  have h2 := Int.tmod_lt_of_pos a hb
  have h3 := Int.lt_tmod_of_pos a hb
  constructor
  · intro h
    exact ((Int.ediv_emod_unique hb).2 ⟨by omega, h, h2⟩).1.symm
  · intro h
    refine ((Int.ediv_emod_unique (r := a.tmod b + b) hb).2 ⟨?_, by omega, by omega⟩).1.symm
    rw [Int.mul_sub, Int.mul_one]
    omega
theorem div_bd {a b l : Int} (hb : 0 < b) (hl : 0 ≤ l) (h : -l ≤ a ∧ a ≤ l) : -l ≤ a / b ∧ a / b ≤ l := by
  constructor
  · exact Int.le_ediv_of_mul_le hb (by have := Int.mul_le_mul_of_nonneg_left (show 1 ≤ b by omega) hl; rw [Int.neg_mul]; omega)
  · exact Int.ediv_le_of_le_mul hb (by have := Int.mul_le_mul_of_nonneg_left (show 1 ≤ b by omega) hl; omega)
set_option maxRecDepth 100000 in
theorem floor_any (a b : Int) (w : World) (ha : -9000000000000000000 ≤ a ∧ a ≤ 9000000000000000000) (hb : 0 < b ∧ b ≤ 9000000000000000000) :
    Calls Try.prog 165 #[.int .i64 a, .int .i64 b] w fun r w' => r = .returned (.int .i64 (a / b)) ∧ w = w' := by
  have hq2 := div_bd hb.1 (by decide) ha
  obtain ⟨f1, f2⟩ := @floor_parts a b hb.1
  generalize a / b = z at *
  have F1 := hid f1
  have F2 := hid f2
  clear f1 f2
  by_cases hc : a.tmod b < 0
  · have e := F2.out hc
    obtain ⟨q, hq⟩ : ∃ q, a.tdiv b = q := ⟨_, rfl⟩
    obtain ⟨r, hr⟩ : ∃ r, a.tmod b = r := ⟨_, rfl⟩
    rw [hq] at e
    rw [hr] at hc
    clear F1 F2
    have hw : wrap64 q = q := by unfold wrap64; omega
    go_enter Try.func165, Try.ntmps165
    go_wp2_with fail
    go_ret
    exact ⟨by rw [← e]; rfl, rfl⟩
  · have hc' : 0 ≤ a.tmod b := by omega
    have e := F1.out hc'
    obtain ⟨q, hq⟩ : ∃ q, a.tdiv b = q := ⟨_, rfl⟩
    obtain ⟨r, hr⟩ : ∃ r, a.tmod b = r := ⟨_, rfl⟩
    rw [hq] at e
    rw [hr] at hc hc'
    clear F1 F2
    have hw : wrap64 q = q := by unfold wrap64; omega
    go_enter Try.func165, Try.ntmps165
    go_wp2_with fail
    go_ret
    exact ⟨by rw [← e]; rfl, rfl⟩
set_option maxRecDepth 100000 in
theorem ceil_any (a b : Int) (w : World) (ha : -9000000000000000000 ≤ a ∧ a ≤ 9000000000000000000) (hb : 0 < b ∧ b ≤ 9000000000000000000) :
    Calls Try.prog 164 #[.int .i64 a, .int .i64 b] w fun r w' => r = .returned (.int .i64 (-(-a / b))) ∧ w = w' := by
  have HF := hid (fun W => floor_any (-a) b W (by omega) hb)
  have hq2 := div_bd (a := -a) hb.1 (show (0:Int) ≤ 9000000000000000000 by decide) (by omega)
  generalize -a / b = z at *
  go_enter Try.func164, Try.ntmps164
  go_wp2_with fail
  refine (HF.out _).mono ?_
  rintro r W' ⟨rfl, rfl⟩
  go_wp2_with fail
  go_ret
  exact ⟨rfl, rfl⟩
def betBend (a b : Nat → Int) (acc time : Int) : Int := -(-(acc * (time - a 0) * (b 0 - time)) / 2000000000000)
def betLo (a b : Nat → Int) (acc time : Int) (i : Nat) : Int := ((a (i + 1) - a 4) * (b 0 - time) + (b (i + 1) - b 4) * (time - a 0)) / (time - a 0 + (b 0 - time)) - betBend a b acc time
def betHi (a b : Nat → Int) (acc time : Int) (i : Nat) : Int := -(-((a (i + 1) + a 4) * (b 0 - time) + (b (i + 1) + b 4) * (time - a 0)) / (time - a 0 + (b 0 - time))) + betBend a b acc time
def betNear (a b : Nat → Int) (time : Int) : Nat → Int := if b 0 - time < time - a 0 then b else a
def betWay (a b : Nat → Int) (time : Int) : Int := if b 0 - time < time - a 0 then b 0 - time else time - a 0
/-- a pose by its eleven numbers -/
def poseA (l0 h0 l1 h1 l2 h2 q0 q1 q2 q3 g : Int) : Value := .agg #[.int .i64 l0, .int .i64 h0, .int .i64 l1, .int .i64 h1, .int .i64 l2, .int .i64 h2, .int .i64 q0, .int .i64 q1, .int .i64 q2, .int .i64 q3, .int .i64 g]
def betV (a b : Nat → Int) (acc rate time : Int) : Value :=
  poseA (betLo a b acc time 0) (betHi a b acc time 0) (betLo a b acc time 1) (betHi a b acc time 1) (betLo a b acc time 2) (betHi a b acc time 2)
    (betNear a b time 5) (betNear a b time 6) (betNear a b time 7) (betNear a b time 8) (betNear a b time 9 + upV rate (betWay a b time) 1000000)
theorem mul_in {x y l m : Int} (hx : -l ≤ x ∧ x ≤ l) (hy : 0 ≤ y ∧ y ≤ m) : -(l * m) ≤ x * y ∧ x * y ≤ l * m := by
  have h1 : x * y ≤ l * m := by
    rcases Int.le_total 0 x with h | h
    · exact Int.mul_le_mul hx.2 hy.2 hy.1 (by omega)
    · have := Int.mul_nonneg (show 0 ≤ -x by omega) hy.1
      have h2 := Int.mul_nonneg (show 0 ≤ l by omega) (show 0 ≤ m by omega)
      rw [Int.neg_mul] at this
      omega
  have h2 : -x * y ≤ l * m := by
    rcases Int.le_total 0 x with h | h
    · have := Int.mul_nonneg h hy.1
      have h2 := Int.mul_nonneg (show 0 ≤ l by omega) (show 0 ≤ m by omega)
      rw [Int.neg_mul]
      omega
    · exact Int.mul_le_mul (by omega) hy.2 hy.1 (by omega)
  rw [Int.neg_mul] at h2
  omega
theorem uv_bd {u v : Int} (hu : 0 ≤ u) (hv : 0 ≤ v) (h : u + v ≤ 10000000) : 0 ≤ u * v ∧ u * v ≤ 25000000000000 := by
  have h1 := Int.mul_le_mul_of_nonneg_left (show v ≤ 10000000 - u by omega) hu
  have h2 : 0 ≤ (5000000 - u) * (5000000 - u) := by
    rcases Int.le_total 0 (5000000 - u) with h | h
    · exact Int.mul_nonneg h h
    · have := Int.mul_nonneg (show 0 ≤ -(5000000 - u) by omega) (show 0 ≤ -(5000000 - u) by omega)
      rwa [Int.neg_mul_neg] at this
  have h3 : (5000000 - u) * (5000000 - u) = 25000000000000 - 10000000 * u + u * u := by grind
  have h4 : u * (10000000 - u) = 10000000 * u - u * u := by grind
  exact ⟨Int.mul_nonneg hu hv, by omega⟩
set_option maxRecDepth 100000 in
set_option maxHeartbeats 1600000 in
theorem between_any (a b : Nat → Int) (m0 m1 m2 m3 time : Int) (w : World) (ha : fixF a = true) (hb : fixF b = true) (hm : 0 ≤ m2 ∧ m2 ≤ 100000) (hm3 : 0 ≤ m3 ∧ m3 ≤ 10000000)
    (hu : 0 ≤ time - a 0) (hv : 0 ≤ b 0 - time) (hd : 0 < b 0 - a 0 ∧ b 0 - a 0 ≤ 10000000) :
    Calls Try.prog 152 #[.agg #[.int .i64 (a 0), .int .i64 (a 1), .int .i64 (a 2), .int .i64 (a 3), .int .i64 (a 4), .int .i64 (a 5), .int .i64 (a 6), .int .i64 (a 7), .int .i64 (a 8), .int .i64 (a 9)], .agg #[.int .i64 (b 0), .int .i64 (b 1), .int .i64 (b 2), .int .i64 (b 3), .int .i64 (b 4), .int .i64 (b 5), .int .i64 (b 6), .int .i64 (b 7), .int .i64 (b 8), .int .i64 (b 9)], .agg #[.int .i64 m0, .int .i64 m1, .int .i64 m2, .int .i64 m3], .int .i64 time] w
      fun r w' => r = .returned (betV a b m2 m3 time) ∧ Below w.heap.size w w' := by
  have pa := fix_place ha
  have pb := fix_place hb
  have ga := fix_tilt ha
  have gb := fix_tilt hb
  obtain ⟨res, hres⟩ : ∃ r, r = betV a b m2 m3 time := ⟨_, rfl⟩
  rw [← hres]
  have HRES := hid hres
  clear hres ha hb
  have HBw := hid (Below.refl w.heap.size w)
  have k1 := mul_in (x := m2) (y := time - a 0) (l := 100000) (m := 10000000) (by omega) (by omega)
  have k0 := uv_bd hu hv (by omega)
  have k2 := mul_in (x := m2) (y := (time - a 0) * (b 0 - time)) (l := 100000) (m := 25000000000000) (by omega) k0
  rw [← Int.mul_assoc] at k2
  have HBE := hid (fun W => ceil_any (m2 * (time - a 0) * (b 0 - time)) 2000000000000 W (by omega) (by decide))
  have HBEN := hid (show -(-(m2 * (time - a 0) * (b 0 - time)) / 2000000000000) = betBend a b m2 time from rfl)
  have hbe := div_bd (a := -(m2 * (time - a 0) * (b 0 - time))) (b := 2000000000000) (l := 2500000000000000000) (by decide) (by decide) (by omega)
  go_enter Try.func152, Try.ntmps152
  go_wp2_with fail
  refine gen_world (fun W hW => ?_)
  have HB0 := hid (show Below w.heap.size w W by rw [hW]; (repeat' (first | (with_reducible exact Below.refl _ _) | (with_reducible assumption) | (with_reducible refine Below.alloc ?_ ?_ _) | (with_reducible refine Below.drew ?_) | (with_reducible refine below_drewN ?_ _) | (with_reducible refine Below.setCell ?_ ?_ _) | (with_reducible refine below_setRow ?_ ?_ _) | go_size)))
  have FA := hid (show W.heap[w.heap.size]? = some (.cells #[.int .i64 (a 0), .int .i64 (a 1), .int .i64 (a 2), .int .i64 (a 3), .int .i64 (a 4), .int .i64 (a 5), .int .i64 (a 6), .int .i64 (a 7), .int .i64 (a 8), .int .i64 (a 9)] 55) by rw [hW]; exact (by repeat' (first | (refine heap_alloc_at _ _ _ ?_; (first | rfl | (simp; done) | (simp; omega))) | (refine heap_alloc_past _ _ _ _ ?_))))
  have FB := hid (show W.heap[w.heap.size + 1]? = some (.cells #[.int .i64 (b 0), .int .i64 (b 1), .int .i64 (b 2), .int .i64 (b 3), .int .i64 (b 4), .int .i64 (b 5), .int .i64 (b 6), .int .i64 (b 7), .int .i64 (b 8), .int .i64 (b 9)] 55) by rw [hW]; exact (by repeat' (first | (refine heap_alloc_at _ _ _ ?_; (first | rfl | (simp; done) | (simp; omega))) | (refine heap_alloc_past _ _ _ _ ?_))))
  have FC := hid (show W.heap[w.heap.size + 1 + 1]? = some (.cells #[.int .i64 m0, .int .i64 m1, .int .i64 m2, .int .i64 m3] 61) by rw [hW]; exact (by repeat' (first | (refine heap_alloc_at _ _ _ ?_; (first | rfl | (simp; done) | (simp; omega))) | (refine heap_alloc_past _ _ _ _ ?_))))
  have FD := hid (show W.heap[w.heap.size + 1 + 1 + 1]? = some (.cells #[.int .i64 0, .int .i64 0, .int .i64 0, .int .i64 0, .int .i64 0, .int .i64 0, .int .i64 0, .int .i64 0, .int .i64 0, .int .i64 0, .int .i64 0] 80) by rw [hW]; exact (by repeat' (first | (refine heap_alloc_at _ _ _ ?_; (first | rfl | (simp; done) | (simp; omega))) | (refine heap_alloc_past _ _ _ _ ?_))))
  clear hW
  have cA0 := cellsRn FA.out 0 _ rfl
  have cB0 := cellsRn FB.out 0 _ rfl
  refine wp_region_quiet_below (by kernel_rfl) (by kernel_rfl) ?_
  repeat (first | go_big_quiet_step (fail) | quiet_step (fail))
  refine wpQuiet_nil ?_
  intro _ hww
  obtain ⟨⟨dq, osq⟩, hww'⟩ := hww
  subst hww'
  clear cA0 cB0
  have hbq := below_regrown W dq osq
  have HB1 := hid (HB0.out.trans (hbq.mono HB0.out.size))
  have FA1 := hid (heap_still hbq FA.out)
  have FB1 := hid (heap_still hbq FB.out)
  have FC1 := hid (heap_still hbq FC.out)
  have FD1 := hid (heap_still hbq FD.out)
  clear FA FB FC FD HB0 hbq
  generalize Sort.grow (redrawn W dq) osq = W1 at *
  have cC2 : W1.cell? ⟨w.heap.size + 1 + 1, 2, none⟩ = some (.int .i64 m2) := (cell_row (j := 2) FC1.out).trans rfl
  go_wp2_with fail
  clear cC2
  refine (HBE.out _).mono ?_
  rintro r w' ⟨rfl, rfl⟩
  rw [HBEN.out]
  have hbe2 : -2500000000000000000 ≤ betBend a b m2 time ∧ betBend a b m2 time ≤ 2500000000000000000 := by rw [← HBEN.out]; omega
  have HL := hid (show ∀ i, betLo a b m2 time i = ((a (i + 1) - a 4) * (b 0 - time) + (b (i + 1) - b 4) * (time - a 0)) / (time - a 0 + (b 0 - time)) - betBend a b m2 time from fun _ => rfl)
  have HH := hid (show ∀ i, betHi a b m2 time i = -(-((a (i + 1) + a 4) * (b 0 - time) + (b (i + 1) + b 4) * (time - a 0)) / (time - a 0 + (b 0 - time))) + betBend a b m2 time from fun _ => rfl)
  clear HBE HBEN hbe k0 k1 k2
  generalize betBend a b m2 time = bend at *
  go_wp2_with fail
  have hp1 : w.heap.size + 1 + 1 + 1 < W1.heap.size := (Array.getElem?_eq_some_iff.1 FD1.out).1
  have XA := hid (heap_alloc_past _ (.cells #[.int .i64 0, .int .i64 0, .int .i64 0, .int .i64 0, .int .i64 0, .int .i64 0, .int .i64 0, .int .i64 0, .int .i64 0, .int .i64 0, .int .i64 0] 80) _ _ FA1.out)
  have XB := hid (heap_alloc_past _ (.cells #[.int .i64 0, .int .i64 0, .int .i64 0, .int .i64 0, .int .i64 0, .int .i64 0, .int .i64 0, .int .i64 0, .int .i64 0, .int .i64 0, .int .i64 0] 80) _ _ FB1.out)
  have XC := hid (heap_alloc_past _ (.cells #[.int .i64 0, .int .i64 0, .int .i64 0, .int .i64 0, .int .i64 0, .int .i64 0, .int .i64 0, .int .i64 0, .int .i64 0, .int .i64 0, .int .i64 0] 80) _ _ FC1.out)
  have XD := hid (heap_alloc_past _ (.cells #[.int .i64 0, .int .i64 0, .int .i64 0, .int .i64 0, .int .i64 0, .int .i64 0, .int .i64 0, .int .i64 0, .int .i64 0, .int .i64 0, .int .i64 0] 80) _ _ FD1.out)
  have XP := hid (heap_alloc_at W1 (.cells #[.int .i64 0, .int .i64 0, .int .i64 0, .int .i64 0, .int .i64 0, .int .i64 0, .int .i64 0, .int .i64 0, .int .i64 0, .int .i64 0, .int .i64 0] 80) _ rfl)
  have XW := hid (show Below w.heap.size w (W1.alloc (.cells #[.int .i64 0, .int .i64 0, .int .i64 0, .int .i64 0, .int .i64 0, .int .i64 0, .int .i64 0, .int .i64 0, .int .i64 0, .int .i64 0, .int .i64 0] 80)) by (have hB0 := HB1.out); (repeat' (first | (with_reducible exact Below.refl _ _) | (with_reducible assumption) | (with_reducible refine Below.alloc ?_ ?_ _) | (with_reducible refine Below.drew ?_) | (with_reducible refine below_drewN ?_ _) | (with_reducible refine Below.setCell ?_ ?_ _) | (with_reducible refine below_setRow ?_ ?_ _) | go_size)))
  clear FA1 FB1 FC1 FD1 HB1
  refine wp_loop_rounds 4 ?_
  rw [rounds_succ]
  go_wp2_with fail
  refine gen_world (fun V1 hV => ?_)
  have YA := hid (show V1.heap[w.heap.size]? = some (.cells #[.int .i64 (a 0), .int .i64 (a 1), .int .i64 (a 2), .int .i64 (a 3), .int .i64 (a 4), .int .i64 (a 5), .int .i64 (a 6), .int .i64 (a 7), .int .i64 (a 8), .int .i64 (a 9)] 55) by rw [hV]; exact XA.out)
  have YB := hid (show V1.heap[w.heap.size + 1]? = some (.cells #[.int .i64 (b 0), .int .i64 (b 1), .int .i64 (b 2), .int .i64 (b 3), .int .i64 (b 4), .int .i64 (b 5), .int .i64 (b 6), .int .i64 (b 7), .int .i64 (b 8), .int .i64 (b 9)] 55) by rw [hV]; exact XB.out)
  have YC := hid (show V1.heap[w.heap.size + 1 + 1]? = some (.cells #[.int .i64 m0, .int .i64 m1, .int .i64 m2, .int .i64 m3] 61) by rw [hV]; exact XC.out)
  have YD := hid (show V1.heap[w.heap.size + 1 + 1 + 1]? = some (.cells #[.int .i64 0, .int .i64 0, .int .i64 0, .int .i64 0, .int .i64 0, .int .i64 0, .int .i64 0, .int .i64 0, .int .i64 0, .int .i64 0, .int .i64 0] 80) by rw [hV]; exact XD.out)
  have YP := hid (show V1.heap[W1.heap.size]? = some (.cells #[.int .i64 0, .int .i64 0, .int .i64 0, .int .i64 0, .int .i64 0, .int .i64 0, .int .i64 0, .int .i64 0, .int .i64 0, .int .i64 0, .int .i64 0] 80) by rw [hV]; exact XP.out)
  have YW := hid (show Below w.heap.size w V1 by rw [hV]; exact XW.out)
  clear hV XA XB XC XD XP XW
  have p1 := mul_in (x := a 1 - a 4) (y := b 0 - time) (l := 134317728) (m := 10000000) (by omega) (by omega)
  have p2 := mul_in (x := b 1 - b 4) (y := time - a 0) (l := 134317728) (m := 10000000) (by omega) (by omega)
  have HF := hid (fun W => floor_any ((a 1 - a 4) * (b 0 - time) + (b 1 - b 4) * (time - a 0)) (time - a 0 + (b 0 - time)) W (by omega) (by omega))
  have HL0 := hid (show betLo a b m2 time 0 = ((a 1 - a 4) * (b 0 - time) + (b 1 - b 4) * (time - a 0)) / (time - a 0 + (b 0 - time)) - bend from HL.out 0)
  have pq0 := div_bd (a := (a 1 - a 4) * (b 0 - time) + (b 1 - b 4) * (time - a 0)) (b := time - a 0 + (b 0 - time)) (l := 2686354560000000) (by omega) (by omega) (by omega)
  generalize ((a 1 - a 4) * (b 0 - time) + (b 1 - b 4) * (time - a 0)) / (time - a 0 + (b 0 - time)) = fl0 at *
  have cA := cellsRn YA.out 1 _ rfl
  have cA4 := cellsRn YA.out 4 _ rfl
  have cB := cellsRn YB.out 1 _ rfl
  have cB4 := cellsRn YB.out 4 _ rfl
  refine wp_region_quiet_below (by kernel_rfl) (by kernel_rfl) ?_
  repeat (first | go_big_quiet_step (first | (go_at_call 165; exact Calls.regrown_of ((HF.out _).mono (fun r w' h => ⟨h.1, h.2 ▸ Below.refl _ _⟩)))) | quiet_step (first | (go_at_call 165; exact Calls.regrown_of ((HF.out _).mono (fun r w' h => ⟨h.1, h.2 ▸ Below.refl _ _⟩)))))
  refine wpQuiet_nil ?_
  intro _ hww
  obtain ⟨⟨dq, osq⟩, hww'⟩ := hww
  subst hww'
  have hbq := below_regrown V1 dq osq
  clear cA cA4 cB cB4 p1 p2 HF
  have ZA := hid (heap_still hbq YA.out)
  have ZB := hid (heap_still hbq YB.out)
  have ZC := hid (heap_still hbq YC.out)
  have ZD := hid (heap_still hbq YD.out)
  have ZP := hid (heap_still hbq YP.out)
  have ZW := hid (YW.out.trans (hbq.mono YW.out.size))
  clear YA YB YC YD YP YW hbq
  generalize Sort.grow (redrawn V1 dq) osq = V2 at *
  go_wp2_with fail
  refine gen_world (fun V3 hV => ?_)
  have UA := hid (show V3.heap[w.heap.size]? = some (.cells #[.int .i64 (a 0), .int .i64 (a 1), .int .i64 (a 2), .int .i64 (a 3), .int .i64 (a 4), .int .i64 (a 5), .int .i64 (a 6), .int .i64 (a 7), .int .i64 (a 8), .int .i64 (a 9)] 55) by rw [hV]; exact ZA.out)
  have UB := hid (show V3.heap[w.heap.size + 1]? = some (.cells #[.int .i64 (b 0), .int .i64 (b 1), .int .i64 (b 2), .int .i64 (b 3), .int .i64 (b 4), .int .i64 (b 5), .int .i64 (b 6), .int .i64 (b 7), .int .i64 (b 8), .int .i64 (b 9)] 55) by rw [hV]; exact ZB.out)
  have UC := hid (show V3.heap[w.heap.size + 1 + 1]? = some (.cells #[.int .i64 m0, .int .i64 m1, .int .i64 m2, .int .i64 m3] 61) by rw [hV]; exact ZC.out)
  have UD := hid (show V3.heap[w.heap.size + 1 + 1 + 1]? = some (.cells #[.int .i64 0, .int .i64 0, .int .i64 0, .int .i64 0, .int .i64 0, .int .i64 0, .int .i64 0, .int .i64 0, .int .i64 0, .int .i64 0, .int .i64 0] 80) by rw [hV]; exact ZD.out)
  have UP := hid (show V3.heap[W1.heap.size]? = some (.cells #[.int .i64 0, .int .i64 0, .int .i64 0, .int .i64 0, .int .i64 0, .int .i64 0, .int .i64 0, .int .i64 0, .int .i64 0, .int .i64 0, .int .i64 0] 80) by rw [hV]; exact ZP.out)
  have UW := hid (show Below w.heap.size w V3 by rw [hV]; exact ZW.out)
  clear hV ZA ZB ZC ZD ZP ZW
  have p1 := mul_in (x := a 1 + a 4) (y := b 0 - time) (l := 134317728) (m := 10000000) (by omega) (by omega)
  have p2 := mul_in (x := b 1 + b 4) (y := time - a 0) (l := 134317728) (m := 10000000) (by omega) (by omega)
  have HF := hid (fun W => ceil_any ((a 1 + a 4) * (b 0 - time) + (b 1 + b 4) * (time - a 0)) (time - a 0 + (b 0 - time)) W (by omega) (by omega))
  have HH0 := hid (show betHi a b m2 time 0 = -(-((a 1 + a 4) * (b 0 - time) + (b 1 + b 4) * (time - a 0)) / (time - a 0 + (b 0 - time))) + bend from HH.out 0)
  have pr0 := div_bd (a := -((a 1 + a 4) * (b 0 - time) + (b 1 + b 4) * (time - a 0))) (b := time - a 0 + (b 0 - time)) (l := 2686354560000000) (by omega) (by omega) (by omega)
  generalize -((a 1 + a 4) * (b 0 - time) + (b 1 + b 4) * (time - a 0)) / (time - a 0 + (b 0 - time)) = ce0 at *
  have cA := cellsRn UA.out 1 _ rfl
  have cA4 := cellsRn UA.out 4 _ rfl
  have cB := cellsRn UB.out 1 _ rfl
  have cB4 := cellsRn UB.out 4 _ rfl
  refine wp_region_quiet_below (by kernel_rfl) (by kernel_rfl) ?_
  repeat (first | go_big_quiet_step (first | (go_at_call 164; exact Calls.regrown_of ((HF.out _).mono (fun r w' h => ⟨h.1, h.2 ▸ Below.refl _ _⟩)))) | quiet_step (first | (go_at_call 164; exact Calls.regrown_of ((HF.out _).mono (fun r w' h => ⟨h.1, h.2 ▸ Below.refl _ _⟩)))))
  refine wpQuiet_nil ?_
  intro _ hww
  obtain ⟨⟨dq, osq⟩, hww'⟩ := hww
  subst hww'
  have hbq := below_regrown V3 dq osq
  clear cA cA4 cB cB4 p1 p2 HF
  have TA := hid (heap_still hbq UA.out)
  have TB := hid (heap_still hbq UB.out)
  have TC := hid (heap_still hbq UC.out)
  have TD := hid (heap_still hbq UD.out)
  have TP := hid (heap_still hbq UP.out)
  have TW := hid (UW.out.trans (hbq.mono UW.out.size))
  clear UA UB UC UD UP UW hbq
  generalize Sort.grow (redrawn V3 dq) osq = V4 at *
  have hpl := (Array.getElem?_eq_some_iff.1 TP.out).1
  go_wp2_with (refine pt_store rfl 44 (.tmp 91) (.tmp 89) rfl _ _ _ rfl rfl TP.out size44 rfl (of_decide_eq_true rfl) rfl ?_)
  have XA := hid (setRow_past (cells := #[.int .i64 (fl0 - bend), .int .i64 (-ce0 + bend), .int .i64 0, .int .i64 0, .int .i64 0, .int .i64 0, .int .i64 0, .int .i64 0, .int .i64 0, .int .i64 0, .int .i64 0]) TA.out (by omega : w.heap.size ≠ W1.heap.size))
  have XB := hid (setRow_past (cells := #[.int .i64 (fl0 - bend), .int .i64 (-ce0 + bend), .int .i64 0, .int .i64 0, .int .i64 0, .int .i64 0, .int .i64 0, .int .i64 0, .int .i64 0, .int .i64 0, .int .i64 0]) TB.out (by omega : w.heap.size + 1 ≠ W1.heap.size))
  have XC := hid (setRow_past (cells := #[.int .i64 (fl0 - bend), .int .i64 (-ce0 + bend), .int .i64 0, .int .i64 0, .int .i64 0, .int .i64 0, .int .i64 0, .int .i64 0, .int .i64 0, .int .i64 0, .int .i64 0]) TC.out (by omega : w.heap.size + 1 + 1 ≠ W1.heap.size))
  have XD := hid (setRow_past (cells := #[.int .i64 (fl0 - bend), .int .i64 (-ce0 + bend), .int .i64 0, .int .i64 0, .int .i64 0, .int .i64 0, .int .i64 0, .int .i64 0, .int .i64 0, .int .i64 0, .int .i64 0]) TD.out (by omega : w.heap.size + 1 + 1 + 1 ≠ W1.heap.size))
  have XP := hid (setRow_heap _ _ _ #[.int .i64 (fl0 - bend), .int .i64 (-ce0 + bend), .int .i64 0, .int .i64 0, .int .i64 0, .int .i64 0, .int .i64 0, .int .i64 0, .int .i64 0, .int .i64 0, .int .i64 0] _ _ TP.out)
  have XW := hid (below_setRow TW.out (by omega : w.heap.size ≤ W1.heap.size) #[.int .i64 (fl0 - bend), .int .i64 (-ce0 + bend), .int .i64 0, .int .i64 0, .int .i64 0, .int .i64 0, .int .i64 0, .int .i64 0, .int .i64 0, .int .i64 0, .int .i64 0])
  clear TA TB TC TD TP TW
  rw [rounds_succ]
  go_wp2_with fail
  refine gen_world (fun V1 hV => ?_)
  have YA := hid (show V1.heap[w.heap.size]? = some (.cells #[.int .i64 (a 0), .int .i64 (a 1), .int .i64 (a 2), .int .i64 (a 3), .int .i64 (a 4), .int .i64 (a 5), .int .i64 (a 6), .int .i64 (a 7), .int .i64 (a 8), .int .i64 (a 9)] 55) by rw [hV]; exact XA.out)
  have YB := hid (show V1.heap[w.heap.size + 1]? = some (.cells #[.int .i64 (b 0), .int .i64 (b 1), .int .i64 (b 2), .int .i64 (b 3), .int .i64 (b 4), .int .i64 (b 5), .int .i64 (b 6), .int .i64 (b 7), .int .i64 (b 8), .int .i64 (b 9)] 55) by rw [hV]; exact XB.out)
  have YC := hid (show V1.heap[w.heap.size + 1 + 1]? = some (.cells #[.int .i64 m0, .int .i64 m1, .int .i64 m2, .int .i64 m3] 61) by rw [hV]; exact XC.out)
  have YD := hid (show V1.heap[w.heap.size + 1 + 1 + 1]? = some (.cells #[.int .i64 0, .int .i64 0, .int .i64 0, .int .i64 0, .int .i64 0, .int .i64 0, .int .i64 0, .int .i64 0, .int .i64 0, .int .i64 0, .int .i64 0] 80) by rw [hV]; exact XD.out)
  have YP := hid (show V1.heap[W1.heap.size]? = some (.cells #[.int .i64 (fl0 - bend), .int .i64 (-ce0 + bend), .int .i64 0, .int .i64 0, .int .i64 0, .int .i64 0, .int .i64 0, .int .i64 0, .int .i64 0, .int .i64 0, .int .i64 0] 80) by rw [hV]; exact XP.out)
  have YW := hid (show Below w.heap.size w V1 by rw [hV]; exact XW.out)
  clear hV XA XB XC XD XP XW
  have p1 := mul_in (x := a 2 - a 4) (y := b 0 - time) (l := 134317728) (m := 10000000) (by omega) (by omega)
  have p2 := mul_in (x := b 2 - b 4) (y := time - a 0) (l := 134317728) (m := 10000000) (by omega) (by omega)
  have HF := hid (fun W => floor_any ((a 2 - a 4) * (b 0 - time) + (b 2 - b 4) * (time - a 0)) (time - a 0 + (b 0 - time)) W (by omega) (by omega))
  have HL1 := hid (show betLo a b m2 time 1 = ((a 2 - a 4) * (b 0 - time) + (b 2 - b 4) * (time - a 0)) / (time - a 0 + (b 0 - time)) - bend from HL.out 1)
  have pq1 := div_bd (a := (a 2 - a 4) * (b 0 - time) + (b 2 - b 4) * (time - a 0)) (b := time - a 0 + (b 0 - time)) (l := 2686354560000000) (by omega) (by omega) (by omega)
  generalize ((a 2 - a 4) * (b 0 - time) + (b 2 - b 4) * (time - a 0)) / (time - a 0 + (b 0 - time)) = fl1 at *
  have cA := cellsRn YA.out 2 _ rfl
  have cA4 := cellsRn YA.out 4 _ rfl
  have cB := cellsRn YB.out 2 _ rfl
  have cB4 := cellsRn YB.out 4 _ rfl
  refine wp_region_quiet_below (by kernel_rfl) (by kernel_rfl) ?_
  repeat (first | go_big_quiet_step (first | (go_at_call 165; exact Calls.regrown_of ((HF.out _).mono (fun r w' h => ⟨h.1, h.2 ▸ Below.refl _ _⟩)))) | quiet_step (first | (go_at_call 165; exact Calls.regrown_of ((HF.out _).mono (fun r w' h => ⟨h.1, h.2 ▸ Below.refl _ _⟩)))))
  refine wpQuiet_nil ?_
  intro _ hww
  obtain ⟨⟨dq, osq⟩, hww'⟩ := hww
  subst hww'
  have hbq := below_regrown V1 dq osq
  clear cA cA4 cB cB4 p1 p2 HF
  have ZA := hid (heap_still hbq YA.out)
  have ZB := hid (heap_still hbq YB.out)
  have ZC := hid (heap_still hbq YC.out)
  have ZD := hid (heap_still hbq YD.out)
  have ZP := hid (heap_still hbq YP.out)
  have ZW := hid (YW.out.trans (hbq.mono YW.out.size))
  clear YA YB YC YD YP YW hbq
  generalize Sort.grow (redrawn V1 dq) osq = V2 at *
  go_wp2_with fail
  refine gen_world (fun V3 hV => ?_)
  have UA := hid (show V3.heap[w.heap.size]? = some (.cells #[.int .i64 (a 0), .int .i64 (a 1), .int .i64 (a 2), .int .i64 (a 3), .int .i64 (a 4), .int .i64 (a 5), .int .i64 (a 6), .int .i64 (a 7), .int .i64 (a 8), .int .i64 (a 9)] 55) by rw [hV]; exact ZA.out)
  have UB := hid (show V3.heap[w.heap.size + 1]? = some (.cells #[.int .i64 (b 0), .int .i64 (b 1), .int .i64 (b 2), .int .i64 (b 3), .int .i64 (b 4), .int .i64 (b 5), .int .i64 (b 6), .int .i64 (b 7), .int .i64 (b 8), .int .i64 (b 9)] 55) by rw [hV]; exact ZB.out)
  have UC := hid (show V3.heap[w.heap.size + 1 + 1]? = some (.cells #[.int .i64 m0, .int .i64 m1, .int .i64 m2, .int .i64 m3] 61) by rw [hV]; exact ZC.out)
  have UD := hid (show V3.heap[w.heap.size + 1 + 1 + 1]? = some (.cells #[.int .i64 0, .int .i64 0, .int .i64 0, .int .i64 0, .int .i64 0, .int .i64 0, .int .i64 0, .int .i64 0, .int .i64 0, .int .i64 0, .int .i64 0] 80) by rw [hV]; exact ZD.out)
  have UP := hid (show V3.heap[W1.heap.size]? = some (.cells #[.int .i64 (fl0 - bend), .int .i64 (-ce0 + bend), .int .i64 0, .int .i64 0, .int .i64 0, .int .i64 0, .int .i64 0, .int .i64 0, .int .i64 0, .int .i64 0, .int .i64 0] 80) by rw [hV]; exact ZP.out)
  have UW := hid (show Below w.heap.size w V3 by rw [hV]; exact ZW.out)
  clear hV ZA ZB ZC ZD ZP ZW
  have p1 := mul_in (x := a 2 + a 4) (y := b 0 - time) (l := 134317728) (m := 10000000) (by omega) (by omega)
  have p2 := mul_in (x := b 2 + b 4) (y := time - a 0) (l := 134317728) (m := 10000000) (by omega) (by omega)
  have HF := hid (fun W => ceil_any ((a 2 + a 4) * (b 0 - time) + (b 2 + b 4) * (time - a 0)) (time - a 0 + (b 0 - time)) W (by omega) (by omega))
  have HH1 := hid (show betHi a b m2 time 1 = -(-((a 2 + a 4) * (b 0 - time) + (b 2 + b 4) * (time - a 0)) / (time - a 0 + (b 0 - time))) + bend from HH.out 1)
  have pr1 := div_bd (a := -((a 2 + a 4) * (b 0 - time) + (b 2 + b 4) * (time - a 0))) (b := time - a 0 + (b 0 - time)) (l := 2686354560000000) (by omega) (by omega) (by omega)
  generalize -((a 2 + a 4) * (b 0 - time) + (b 2 + b 4) * (time - a 0)) / (time - a 0 + (b 0 - time)) = ce1 at *
  have cA := cellsRn UA.out 2 _ rfl
  have cA4 := cellsRn UA.out 4 _ rfl
  have cB := cellsRn UB.out 2 _ rfl
  have cB4 := cellsRn UB.out 4 _ rfl
  refine wp_region_quiet_below (by kernel_rfl) (by kernel_rfl) ?_
  repeat (first | go_big_quiet_step (first | (go_at_call 164; exact Calls.regrown_of ((HF.out _).mono (fun r w' h => ⟨h.1, h.2 ▸ Below.refl _ _⟩)))) | quiet_step (first | (go_at_call 164; exact Calls.regrown_of ((HF.out _).mono (fun r w' h => ⟨h.1, h.2 ▸ Below.refl _ _⟩)))))
  refine wpQuiet_nil ?_
  intro _ hww
  obtain ⟨⟨dq, osq⟩, hww'⟩ := hww
  subst hww'
  have hbq := below_regrown V3 dq osq
  clear cA cA4 cB cB4 p1 p2 HF
  have TA := hid (heap_still hbq UA.out)
  have TB := hid (heap_still hbq UB.out)
  have TC := hid (heap_still hbq UC.out)
  have TD := hid (heap_still hbq UD.out)
  have TP := hid (heap_still hbq UP.out)
  have TW := hid (UW.out.trans (hbq.mono UW.out.size))
  clear UA UB UC UD UP UW hbq
  generalize Sort.grow (redrawn V3 dq) osq = V4 at *
  have hpl := (Array.getElem?_eq_some_iff.1 TP.out).1
  go_wp2_with (refine pt_store rfl 44 (.tmp 91) (.tmp 89) rfl _ _ _ rfl rfl TP.out size44 rfl (of_decide_eq_true rfl) rfl ?_)
  have XA := hid (setRow_past (cells := #[.int .i64 (fl0 - bend), .int .i64 (-ce0 + bend), .int .i64 (fl1 - bend), .int .i64 (-ce1 + bend), .int .i64 0, .int .i64 0, .int .i64 0, .int .i64 0, .int .i64 0, .int .i64 0, .int .i64 0]) TA.out (by omega : w.heap.size ≠ W1.heap.size))
  have XB := hid (setRow_past (cells := #[.int .i64 (fl0 - bend), .int .i64 (-ce0 + bend), .int .i64 (fl1 - bend), .int .i64 (-ce1 + bend), .int .i64 0, .int .i64 0, .int .i64 0, .int .i64 0, .int .i64 0, .int .i64 0, .int .i64 0]) TB.out (by omega : w.heap.size + 1 ≠ W1.heap.size))
  have XC := hid (setRow_past (cells := #[.int .i64 (fl0 - bend), .int .i64 (-ce0 + bend), .int .i64 (fl1 - bend), .int .i64 (-ce1 + bend), .int .i64 0, .int .i64 0, .int .i64 0, .int .i64 0, .int .i64 0, .int .i64 0, .int .i64 0]) TC.out (by omega : w.heap.size + 1 + 1 ≠ W1.heap.size))
  have XD := hid (setRow_past (cells := #[.int .i64 (fl0 - bend), .int .i64 (-ce0 + bend), .int .i64 (fl1 - bend), .int .i64 (-ce1 + bend), .int .i64 0, .int .i64 0, .int .i64 0, .int .i64 0, .int .i64 0, .int .i64 0, .int .i64 0]) TD.out (by omega : w.heap.size + 1 + 1 + 1 ≠ W1.heap.size))
  have XP := hid (setRow_heap _ _ _ #[.int .i64 (fl0 - bend), .int .i64 (-ce0 + bend), .int .i64 (fl1 - bend), .int .i64 (-ce1 + bend), .int .i64 0, .int .i64 0, .int .i64 0, .int .i64 0, .int .i64 0, .int .i64 0, .int .i64 0] _ _ TP.out)
  have XW := hid (below_setRow TW.out (by omega : w.heap.size ≤ W1.heap.size) #[.int .i64 (fl0 - bend), .int .i64 (-ce0 + bend), .int .i64 (fl1 - bend), .int .i64 (-ce1 + bend), .int .i64 0, .int .i64 0, .int .i64 0, .int .i64 0, .int .i64 0, .int .i64 0, .int .i64 0])
  clear TA TB TC TD TP TW
  rw [rounds_succ]
  go_wp2_with fail
  refine gen_world (fun V1 hV => ?_)
  have YA := hid (show V1.heap[w.heap.size]? = some (.cells #[.int .i64 (a 0), .int .i64 (a 1), .int .i64 (a 2), .int .i64 (a 3), .int .i64 (a 4), .int .i64 (a 5), .int .i64 (a 6), .int .i64 (a 7), .int .i64 (a 8), .int .i64 (a 9)] 55) by rw [hV]; exact XA.out)
  have YB := hid (show V1.heap[w.heap.size + 1]? = some (.cells #[.int .i64 (b 0), .int .i64 (b 1), .int .i64 (b 2), .int .i64 (b 3), .int .i64 (b 4), .int .i64 (b 5), .int .i64 (b 6), .int .i64 (b 7), .int .i64 (b 8), .int .i64 (b 9)] 55) by rw [hV]; exact XB.out)
  have YC := hid (show V1.heap[w.heap.size + 1 + 1]? = some (.cells #[.int .i64 m0, .int .i64 m1, .int .i64 m2, .int .i64 m3] 61) by rw [hV]; exact XC.out)
  have YD := hid (show V1.heap[w.heap.size + 1 + 1 + 1]? = some (.cells #[.int .i64 0, .int .i64 0, .int .i64 0, .int .i64 0, .int .i64 0, .int .i64 0, .int .i64 0, .int .i64 0, .int .i64 0, .int .i64 0, .int .i64 0] 80) by rw [hV]; exact XD.out)
  have YP := hid (show V1.heap[W1.heap.size]? = some (.cells #[.int .i64 (fl0 - bend), .int .i64 (-ce0 + bend), .int .i64 (fl1 - bend), .int .i64 (-ce1 + bend), .int .i64 0, .int .i64 0, .int .i64 0, .int .i64 0, .int .i64 0, .int .i64 0, .int .i64 0] 80) by rw [hV]; exact XP.out)
  have YW := hid (show Below w.heap.size w V1 by rw [hV]; exact XW.out)
  clear hV XA XB XC XD XP XW
  have p1 := mul_in (x := a 3 - a 4) (y := b 0 - time) (l := 134317728) (m := 10000000) (by omega) (by omega)
  have p2 := mul_in (x := b 3 - b 4) (y := time - a 0) (l := 134317728) (m := 10000000) (by omega) (by omega)
  have HF := hid (fun W => floor_any ((a 3 - a 4) * (b 0 - time) + (b 3 - b 4) * (time - a 0)) (time - a 0 + (b 0 - time)) W (by omega) (by omega))
  have HL2 := hid (show betLo a b m2 time 2 = ((a 3 - a 4) * (b 0 - time) + (b 3 - b 4) * (time - a 0)) / (time - a 0 + (b 0 - time)) - bend from HL.out 2)
  have pq2 := div_bd (a := (a 3 - a 4) * (b 0 - time) + (b 3 - b 4) * (time - a 0)) (b := time - a 0 + (b 0 - time)) (l := 2686354560000000) (by omega) (by omega) (by omega)
  generalize ((a 3 - a 4) * (b 0 - time) + (b 3 - b 4) * (time - a 0)) / (time - a 0 + (b 0 - time)) = fl2 at *
  have cA := cellsRn YA.out 3 _ rfl
  have cA4 := cellsRn YA.out 4 _ rfl
  have cB := cellsRn YB.out 3 _ rfl
  have cB4 := cellsRn YB.out 4 _ rfl
  refine wp_region_quiet_below (by kernel_rfl) (by kernel_rfl) ?_
  repeat (first | go_big_quiet_step (first | (go_at_call 165; exact Calls.regrown_of ((HF.out _).mono (fun r w' h => ⟨h.1, h.2 ▸ Below.refl _ _⟩)))) | quiet_step (first | (go_at_call 165; exact Calls.regrown_of ((HF.out _).mono (fun r w' h => ⟨h.1, h.2 ▸ Below.refl _ _⟩)))))
  refine wpQuiet_nil ?_
  intro _ hww
  obtain ⟨⟨dq, osq⟩, hww'⟩ := hww
  subst hww'
  have hbq := below_regrown V1 dq osq
  clear cA cA4 cB cB4 p1 p2 HF
  have ZA := hid (heap_still hbq YA.out)
  have ZB := hid (heap_still hbq YB.out)
  have ZC := hid (heap_still hbq YC.out)
  have ZD := hid (heap_still hbq YD.out)
  have ZP := hid (heap_still hbq YP.out)
  have ZW := hid (YW.out.trans (hbq.mono YW.out.size))
  clear YA YB YC YD YP YW hbq
  generalize Sort.grow (redrawn V1 dq) osq = V2 at *
  go_wp2_with fail
  refine gen_world (fun V3 hV => ?_)
  have UA := hid (show V3.heap[w.heap.size]? = some (.cells #[.int .i64 (a 0), .int .i64 (a 1), .int .i64 (a 2), .int .i64 (a 3), .int .i64 (a 4), .int .i64 (a 5), .int .i64 (a 6), .int .i64 (a 7), .int .i64 (a 8), .int .i64 (a 9)] 55) by rw [hV]; exact ZA.out)
  have UB := hid (show V3.heap[w.heap.size + 1]? = some (.cells #[.int .i64 (b 0), .int .i64 (b 1), .int .i64 (b 2), .int .i64 (b 3), .int .i64 (b 4), .int .i64 (b 5), .int .i64 (b 6), .int .i64 (b 7), .int .i64 (b 8), .int .i64 (b 9)] 55) by rw [hV]; exact ZB.out)
  have UC := hid (show V3.heap[w.heap.size + 1 + 1]? = some (.cells #[.int .i64 m0, .int .i64 m1, .int .i64 m2, .int .i64 m3] 61) by rw [hV]; exact ZC.out)
  have UD := hid (show V3.heap[w.heap.size + 1 + 1 + 1]? = some (.cells #[.int .i64 0, .int .i64 0, .int .i64 0, .int .i64 0, .int .i64 0, .int .i64 0, .int .i64 0, .int .i64 0, .int .i64 0, .int .i64 0, .int .i64 0] 80) by rw [hV]; exact ZD.out)
  have UP := hid (show V3.heap[W1.heap.size]? = some (.cells #[.int .i64 (fl0 - bend), .int .i64 (-ce0 + bend), .int .i64 (fl1 - bend), .int .i64 (-ce1 + bend), .int .i64 0, .int .i64 0, .int .i64 0, .int .i64 0, .int .i64 0, .int .i64 0, .int .i64 0] 80) by rw [hV]; exact ZP.out)
  have UW := hid (show Below w.heap.size w V3 by rw [hV]; exact ZW.out)
  clear hV ZA ZB ZC ZD ZP ZW
  have p1 := mul_in (x := a 3 + a 4) (y := b 0 - time) (l := 134317728) (m := 10000000) (by omega) (by omega)
  have p2 := mul_in (x := b 3 + b 4) (y := time - a 0) (l := 134317728) (m := 10000000) (by omega) (by omega)
  have HF := hid (fun W => ceil_any ((a 3 + a 4) * (b 0 - time) + (b 3 + b 4) * (time - a 0)) (time - a 0 + (b 0 - time)) W (by omega) (by omega))
  have HH2 := hid (show betHi a b m2 time 2 = -(-((a 3 + a 4) * (b 0 - time) + (b 3 + b 4) * (time - a 0)) / (time - a 0 + (b 0 - time))) + bend from HH.out 2)
  have pr2 := div_bd (a := -((a 3 + a 4) * (b 0 - time) + (b 3 + b 4) * (time - a 0))) (b := time - a 0 + (b 0 - time)) (l := 2686354560000000) (by omega) (by omega) (by omega)
  generalize -((a 3 + a 4) * (b 0 - time) + (b 3 + b 4) * (time - a 0)) / (time - a 0 + (b 0 - time)) = ce2 at *
  have cA := cellsRn UA.out 3 _ rfl
  have cA4 := cellsRn UA.out 4 _ rfl
  have cB := cellsRn UB.out 3 _ rfl
  have cB4 := cellsRn UB.out 4 _ rfl
  refine wp_region_quiet_below (by kernel_rfl) (by kernel_rfl) ?_
  repeat (first | go_big_quiet_step (first | (go_at_call 164; exact Calls.regrown_of ((HF.out _).mono (fun r w' h => ⟨h.1, h.2 ▸ Below.refl _ _⟩)))) | quiet_step (first | (go_at_call 164; exact Calls.regrown_of ((HF.out _).mono (fun r w' h => ⟨h.1, h.2 ▸ Below.refl _ _⟩)))))
  refine wpQuiet_nil ?_
  intro _ hww
  obtain ⟨⟨dq, osq⟩, hww'⟩ := hww
  subst hww'
  have hbq := below_regrown V3 dq osq
  clear cA cA4 cB cB4 p1 p2 HF
  have TA := hid (heap_still hbq UA.out)
  have TB := hid (heap_still hbq UB.out)
  have TC := hid (heap_still hbq UC.out)
  have TD := hid (heap_still hbq UD.out)
  have TP := hid (heap_still hbq UP.out)
  have TW := hid (UW.out.trans (hbq.mono UW.out.size))
  clear UA UB UC UD UP UW hbq
  generalize Sort.grow (redrawn V3 dq) osq = V4 at *
  have hpl := (Array.getElem?_eq_some_iff.1 TP.out).1
  go_wp2_with (refine pt_store rfl 44 (.tmp 91) (.tmp 89) rfl _ _ _ rfl rfl TP.out size44 rfl (of_decide_eq_true rfl) rfl ?_)
  have XA := hid (setRow_past (cells := #[.int .i64 (fl0 - bend), .int .i64 (-ce0 + bend), .int .i64 (fl1 - bend), .int .i64 (-ce1 + bend), .int .i64 (fl2 - bend), .int .i64 (-ce2 + bend), .int .i64 0, .int .i64 0, .int .i64 0, .int .i64 0, .int .i64 0]) TA.out (by omega : w.heap.size ≠ W1.heap.size))
  have XB := hid (setRow_past (cells := #[.int .i64 (fl0 - bend), .int .i64 (-ce0 + bend), .int .i64 (fl1 - bend), .int .i64 (-ce1 + bend), .int .i64 (fl2 - bend), .int .i64 (-ce2 + bend), .int .i64 0, .int .i64 0, .int .i64 0, .int .i64 0, .int .i64 0]) TB.out (by omega : w.heap.size + 1 ≠ W1.heap.size))
  have XC := hid (setRow_past (cells := #[.int .i64 (fl0 - bend), .int .i64 (-ce0 + bend), .int .i64 (fl1 - bend), .int .i64 (-ce1 + bend), .int .i64 (fl2 - bend), .int .i64 (-ce2 + bend), .int .i64 0, .int .i64 0, .int .i64 0, .int .i64 0, .int .i64 0]) TC.out (by omega : w.heap.size + 1 + 1 ≠ W1.heap.size))
  have XD := hid (setRow_past (cells := #[.int .i64 (fl0 - bend), .int .i64 (-ce0 + bend), .int .i64 (fl1 - bend), .int .i64 (-ce1 + bend), .int .i64 (fl2 - bend), .int .i64 (-ce2 + bend), .int .i64 0, .int .i64 0, .int .i64 0, .int .i64 0, .int .i64 0]) TD.out (by omega : w.heap.size + 1 + 1 + 1 ≠ W1.heap.size))
  have XP := hid (setRow_heap _ _ _ #[.int .i64 (fl0 - bend), .int .i64 (-ce0 + bend), .int .i64 (fl1 - bend), .int .i64 (-ce1 + bend), .int .i64 (fl2 - bend), .int .i64 (-ce2 + bend), .int .i64 0, .int .i64 0, .int .i64 0, .int .i64 0, .int .i64 0] _ _ TP.out)
  have XW := hid (below_setRow TW.out (by omega : w.heap.size ≤ W1.heap.size) #[.int .i64 (fl0 - bend), .int .i64 (-ce0 + bend), .int .i64 (fl1 - bend), .int .i64 (-ce1 + bend), .int .i64 (fl2 - bend), .int .i64 (-ce2 + bend), .int .i64 0, .int .i64 0, .int .i64 0, .int .i64 0, .int .i64 0])
  clear TA TB TC TD TP TW
  rw [rounds_succ]
  refine gen_world (fun V5 hV => ?_)
  have YA := hid (show V5.heap[w.heap.size]? = some (.cells #[.int .i64 (a 0), .int .i64 (a 1), .int .i64 (a 2), .int .i64 (a 3), .int .i64 (a 4), .int .i64 (a 5), .int .i64 (a 6), .int .i64 (a 7), .int .i64 (a 8), .int .i64 (a 9)] 55) by rw [hV]; exact XA.out)
  have YB := hid (show V5.heap[w.heap.size + 1]? = some (.cells #[.int .i64 (b 0), .int .i64 (b 1), .int .i64 (b 2), .int .i64 (b 3), .int .i64 (b 4), .int .i64 (b 5), .int .i64 (b 6), .int .i64 (b 7), .int .i64 (b 8), .int .i64 (b 9)] 55) by rw [hV]; exact XB.out)
  have YC := hid (show V5.heap[w.heap.size + 1 + 1]? = some (.cells #[.int .i64 m0, .int .i64 m1, .int .i64 m2, .int .i64 m3] 61) by rw [hV]; exact XC.out)
  have YD := hid (show V5.heap[w.heap.size + 1 + 1 + 1]? = some (.cells #[.int .i64 0, .int .i64 0, .int .i64 0, .int .i64 0, .int .i64 0, .int .i64 0, .int .i64 0, .int .i64 0, .int .i64 0, .int .i64 0, .int .i64 0] 80) by rw [hV]; exact XD.out)
  have YP := hid (show V5.heap[W1.heap.size]? = some (.cells #[.int .i64 (fl0 - bend), .int .i64 (-ce0 + bend), .int .i64 (fl1 - bend), .int .i64 (-ce1 + bend), .int .i64 (fl2 - bend), .int .i64 (-ce2 + bend), .int .i64 0, .int .i64 0, .int .i64 0, .int .i64 0, .int .i64 0] 80) by rw [hV]; exact XP.out)
  have YW := hid (show Below w.heap.size w V5 by rw [hV]; exact XW.out)
  clear hV XA XB XC XD XP XW
  have hz5 : W1.heap.size < V5.heap.size := (Array.getElem?_eq_some_iff.1 YP.out).1
  clear HL HH
  by_cases hq : b 0 - time < time - a 0
  · have HN := hid (show betNear a b time = b from if_pos hq)
    have HWY := hid (show betWay a b time = b 0 - time from if_pos hq)
    have hup : 0 ≤ upV m3 (b 0 - time) 1000000 ∧ upV m3 (b 0 - time) 1000000 ≤ 100000000000000 := by
      unfold upV
      have h1 := mul_in (x := m3) (y := b 0 - time) (l := 10000000) (m := 10000000) (by omega) (by omega)
      have h2 : 0 ≤ m3 * (b 0 - time) := Int.mul_nonneg hm3.1 (by omega)
      omega
    have HSH := hid (fun W => share_calm m3 (b 0 - time) 1000000 W (by omega) (by omega) (by decide) (by omega))
    have HUP := hid (rfl : upV m3 (b 0 - time) 1000000 = upV m3 (b 0 - time) 1000000)
    have HRE := hid (show res = poseA (fl0 - bend) (-ce0 + bend) (fl1 - bend) (-ce1 + bend) (fl2 - bend) (-ce2 + bend) (b 5) (b 6) (b 7) (b 8) (b 9 + upV m3 (b 0 - time) 1000000) by
      rw [HRES.out]; unfold betV; rw [HN.out, HWY.out, HL0.out, HL1.out, HL2.out, HH0.out, HH1.out, HH2.out])
    generalize upV m3 (b 0 - time) 1000000 = up at *
    clear HUP HRES HN HWY HL0 HL1 HL2 HH0 HH1 HH2
    go_wp2_with (first | (refine wpList_load_at rfl 55 (.tmp 4) rfl rfl YA.out Try.underlying55 rfl size55 rfl ?_) | (refine wpList_store_new rfl 55 (.tmp 17) (.tmp 93) rfl rfl rfl rfl size55 rfl rfl rfl ?_) | (refine wpList_load_at rfl 55 (.tmp 5) rfl rfl (heap_alloc_past _ _ _ _ YB.out) Try.underlying55 rfl size55 rfl ?_) | (refine wpList_store_new rfl 55 (.tmp 17) (.tmp 98) rfl rfl rfl rfl size55 rfl rfl rfl ?_) | (refine pt_load rfl 22 (.tmp 101) rfl V5.heap.size 5 rfl [.int .i64 (b 5), .int .i64 (b 6), .int .i64 (b 7), .int .i64 (b 8)] (heap_alloc_at _ _ _ rfl) rfl Try.underlying22 rfl size22 ?_) | (refine pt_store rfl 22 (.tmp 102) (.tmp 101) rfl _ _ _ rfl rfl (heap_alloc_past _ _ _ _ YP.out) size22 rfl (of_decide_eq_true rfl) rfl ?_))
    refine gen_world (fun W6 hW => ?_)
    have HN := hid (show W6.heap[V5.heap.size]? = some (.cells #[.int .i64 (b 0), .int .i64 (b 1), .int .i64 (b 2), .int .i64 (b 3), .int .i64 (b 4), .int .i64 (b 5), .int .i64 (b 6), .int .i64 (b 7), .int .i64 (b 8), .int .i64 (b 9)] 55) by rw [hW]; exact setRow_past (heap_alloc_at _ _ _ rfl) (by omega))
    have HC := hid (show W6.heap[w.heap.size + 1 + 1]? = some (.cells #[.int .i64 m0, .int .i64 m1, .int .i64 m2, .int .i64 m3] 61) by rw [hW]; exact setRow_past (heap_alloc_past _ _ _ _ YC.out) (by omega))
    have HD := hid (show W6.heap[w.heap.size + 1 + 1 + 1]? = some (.cells #[.int .i64 0, .int .i64 0, .int .i64 0, .int .i64 0, .int .i64 0, .int .i64 0, .int .i64 0, .int .i64 0, .int .i64 0, .int .i64 0, .int .i64 0] 80) by rw [hW]; exact setRow_past (heap_alloc_past _ _ _ _ YD.out) (by omega))
    have HP := hid (show W6.heap[W1.heap.size]? = some (.cells #[.int .i64 (fl0 - bend), .int .i64 (-ce0 + bend), .int .i64 (fl1 - bend), .int .i64 (-ce1 + bend), .int .i64 (fl2 - bend), .int .i64 (-ce2 + bend), .int .i64 (b 5), .int .i64 (b 6), .int .i64 (b 7), .int .i64 (b 8), .int .i64 0] 80) by rw [hW]; exact setRow_heap _ _ _ _ _ _ (heap_alloc_past _ _ _ _ YP.out))
    have HB6 := hid (show Below w.heap.size w W6 by rw [hW]; exact below_setRow (YW.out.alloc (by omega) _) (by omega) _)
    clear hW YA YB YC YD YP YW
    refine gen_act (fun A0 hA => ?_)
    refine wp_region_last (by kernel_rfl) (by kernel_rfl) [some 103, some 104, some 105, some 106, some 107, some 108, some 109, some 110, none] rfl (by decide) 8 rfl (by kernel_rfl) (by kernel_rfl)
      [IsV (.pointer (some ⟨V5.heap.size, 9, none⟩)), IsV (.int .i64 (b 9)), IsV (.pointer (some ⟨w.heap.size + 1 + 1, 3, none⟩)), IsV (.int .i64 m3), IsV (.int .i64 (b 0 - time)), IsV (.int .i64 up), IsV (.int .i64 (b 9 + up)), IsV (.pointer (some ⟨W1.heap.size, 10, none⟩))]
      ⟨IsV.stb _, IsV.stb _, IsV.stb _, IsV.stb _, IsV.stb _, IsV.stb _, IsV.stb _, IsV.stb _, trivial⟩ ?hs1_16_W7y ?hlast_16_W7y
    case hs1_16_W7y =>
      refine ⟨?_, ?_, ?_, ?_, ?_, ?_, ?_, ?_, trivial⟩
      · intro K us W hK0 hB hd
        have hK := hid hK0; clear hK0
        have HBW := hid hB
        have hsW := hB.size
        have GB := hid (HB6.out.trans (hB.mono HB6.out.size))
        clear hd
        simp only [putF]
        rw [hA]
        go_frame
        go_wp2_with fail
        exact hK.out _ _ _ (by rw [hA]; simp only [putF]; kernel_rfl) (Below.refl _ _) rfl
      · intro K us W hK0 hB hd
        have hK := hid hK0; clear hK0
        have HBW := hid hB
        have hsW := hB.size
        have GB := hid (HB6.out.trans (hB.mono HB6.out.size))
        have e0 : us 0 = .pointer (some ⟨V5.heap.size, 9, none⟩) := hd ⟨0, Ground.data⟩ (by simp) rfl
        clear hd
        have G0 := hid (heap_still hB HN.out)
        have c0 : W.cell? ⟨V5.heap.size, 9, none⟩ = some (.int .i64 (b 9)) := (cell_row (j := 9) G0.out).trans rfl
        simp only [putF]
        rw [hA, e0]
        go_frame
        go_wp2_with fail
        exact hK.out _ _ _ (by rw [hA]; simp only [putF]; rw [e0]; kernel_rfl) (Below.refl _ _) rfl
      · intro K us W hK0 hB hd
        have hK := hid hK0; clear hK0
        have HBW := hid hB
        have hsW := hB.size
        have GB := hid (HB6.out.trans (hB.mono HB6.out.size))
        clear hd
        simp only [putF]
        rw [hA]
        go_frame
        go_wp2_with fail
        exact hK.out _ _ _ (by rw [hA]; simp only [putF]; kernel_rfl) (Below.refl _ _) rfl
      · intro K us W hK0 hB hd
        have hK := hid hK0; clear hK0
        have HBW := hid hB
        have hsW := hB.size
        have GB := hid (HB6.out.trans (hB.mono HB6.out.size))
        have e2 : us 2 = .pointer (some ⟨w.heap.size + 1 + 1, 3, none⟩) := hd ⟨2, Ground.data⟩ (by simp) rfl
        clear hd
        have G0 := hid (heap_still hB HC.out)
        have c0 : W.cell? ⟨w.heap.size + 1 + 1, 3, none⟩ = some (.int .i64 m3) := (cell_row (j := 3) G0.out).trans rfl
        simp only [putF]
        rw [hA, e2]
        go_frame
        go_wp2_with fail
        exact hK.out _ _ _ (by rw [hA]; simp only [putF]; rw [e2]; kernel_rfl) (Below.refl _ _) rfl
      · intro K us W hK0 hB hd
        have hK := hid hK0; clear hK0
        have HBW := hid hB
        have hsW := hB.size
        have GB := hid (HB6.out.trans (hB.mono HB6.out.size))
        clear hd
        simp only [putF]
        rw [hA]
        go_frame
        go_wp2_with fail
        exact hK.out _ _ _ (by rw [hA]; simp only [putF]; kernel_rfl) (Below.refl _ _) rfl
      · intro K us W hK0 hB hd
        have hK := hid hK0; clear hK0
        have HBW := hid hB
        have hsW := hB.size
        have GB := hid (HB6.out.trans (hB.mono HB6.out.size))
        have e3 : us 3 = .int .i64 m3 := hd ⟨3, Ground.data⟩ (by simp) rfl
        have e4 : us 4 = .int .i64 (b 0 - time) := hd ⟨4, Ground.data⟩ (by simp) rfl
        clear hd
        simp only [putF]
        rw [hA, e3, e4]
        go_frame
        go_wp2_with fail
        refine (HSH.out W).mono ?_
        rintro r W' ⟨rfl, hb⟩
        go_wp2_with fail
        exact hK.out _ _ _ (by rw [hA]; simp only [putF]; rw [e3, e4]; kernel_rfl) hb rfl
      · intro K us W hK0 hB hd
        have hK := hid hK0; clear hK0
        have HBW := hid hB
        have hsW := hB.size
        have GB := hid (HB6.out.trans (hB.mono HB6.out.size))
        have e1 : us 1 = .int .i64 (b 9) := hd ⟨1, Ground.data⟩ (by simp) rfl
        have e5 : us 5 = .int .i64 up := hd ⟨5, Ground.data⟩ (by simp) rfl
        clear hd
        simp only [putF]
        rw [hA, e1, e5]
        go_frame
        go_wp2_with fail
        exact hK.out _ _ _ (by rw [hA]; simp only [putF]; rw [e1, e5]; kernel_rfl) (Below.refl _ _) rfl
      · intro K us W hK0 hB hd
        have hK := hid hK0; clear hK0
        have HBW := hid hB
        have hsW := hB.size
        have GB := hid (HB6.out.trans (hB.mono HB6.out.size))
        clear hd
        simp only [putF]
        rw [hA]
        go_frame
        go_wp2_with fail
        exact hK.out _ _ _ (by rw [hA]; simp only [putF]; kernel_rfl) (Below.refl _ _) rfl
    intro K us W7y hK0 hB hp
    have hK := hid hK0
    clear hK0
    have e7 : us 7 = .pointer (some ⟨W1.heap.size, 10, none⟩) := hp 7 (by decide)
    have e6 : us 6 = .int .i64 (b 9 + up) := hp 6 (by decide)
    have HB7 := hid (HB6.out.trans (hB.mono HB6.out.size))
    have HSW7y := hid (fun n x => @heap_still _ _ n x hB)
    have hzW7y := hB.size
    have hbW7y := hid hB
    clear hp
    simp only [putF]
    rw [hA, e7, e6]
    skip
    go_frame
    go_wp2_with (refine pt_store1 rfl 3 (.tmp 110) (.tmp 109) rfl W1.heap.size 10 _ rfl rfl rfl rfl (HSW7y.out _ _ HP.out) size3 (of_decide_eq_true rfl) ?_)
    refine hK.out undef _ _ (by rw [hA]; simp only [putF]; rw [e7, e6]; kernel_rfl) ?_
    clear hK hB hA e7 e6
    have HD7 := hid (setRow_past (cells := ptL #[.int .i64 (fl0 - bend), .int .i64 (-ce0 + bend), .int .i64 (fl1 - bend), .int .i64 (-ce1 + bend), .int .i64 (fl2 - bend), .int .i64 (-ce2 + bend), .int .i64 (b 5), .int .i64 (b 6), .int .i64 (b 7), .int .i64 (b 8), .int .i64 0] 10 [.int .i64 (b 9 + up)]) (HSW7y.out _ _ HD.out) (by omega : w.heap.size + 1 + 1 + 1 ≠ W1.heap.size))
    have HP7 := hid (setRow_heap _ _ _ (ptL #[.int .i64 (fl0 - bend), .int .i64 (-ce0 + bend), .int .i64 (fl1 - bend), .int .i64 (-ce1 + bend), .int .i64 (fl2 - bend), .int .i64 (-ce2 + bend), .int .i64 (b 5), .int .i64 (b 6), .int .i64 (b 7), .int .i64 (b 8), .int .i64 0] 10 [.int .i64 (b 9 + up)]) _ _ (HSW7y.out _ _ HP.out))
    go_wp2_with (first | (refine wpList_load_at rfl 80 (.tmp 13) rfl rfl HP7.out Try.underlying80 rfl size80b rfl ?_) | (refine wpList_store_at rfl 80 (.tmp 8) (.tmp 111) rfl rfl rfl HD7.out size80b rfl rfl rfl ?_))
    refine bodyPost_ret (results_at1 rfl rfl (setRow_heap _ _ _ _ _ _ HD7.out) Try.underlying80 rfl size80b rfl) rfl ?_
    exact ⟨by rw [HRE.out]; rfl, below_setRow (below_setRow HB7.out (by omega) _) (by omega) _⟩
  · have HN := hid (show betNear a b time = a from if_neg hq)
    have HWY := hid (show betWay a b time = time - a 0 from if_neg hq)
    have hup : 0 ≤ upV m3 (time - a 0) 1000000 ∧ upV m3 (time - a 0) 1000000 ≤ 100000000000000 := by
      unfold upV
      have h1 := mul_in (x := m3) (y := time - a 0) (l := 10000000) (m := 10000000) (by omega) (by omega)
      have h2 : 0 ≤ m3 * (time - a 0) := Int.mul_nonneg hm3.1 (by omega)
      omega
    have HSH := hid (fun W => share_calm m3 (time - a 0) 1000000 W (by omega) (by omega) (by decide) (by omega))
    have HUP := hid (rfl : upV m3 (time - a 0) 1000000 = upV m3 (time - a 0) 1000000)
    have HRE := hid (show res = poseA (fl0 - bend) (-ce0 + bend) (fl1 - bend) (-ce1 + bend) (fl2 - bend) (-ce2 + bend) (a 5) (a 6) (a 7) (a 8) (a 9 + upV m3 (time - a 0) 1000000) by
      rw [HRES.out]; unfold betV; rw [HN.out, HWY.out, HL0.out, HL1.out, HL2.out, HH0.out, HH1.out, HH2.out])
    generalize upV m3 (time - a 0) 1000000 = up at *
    clear HUP HRES HN HWY HL0 HL1 HL2 HH0 HH1 HH2
    go_wp2_with (first | (refine wpList_load_at rfl 55 (.tmp 4) rfl rfl YA.out Try.underlying55 rfl size55 rfl ?_) | (refine wpList_store_new rfl 55 (.tmp 17) (.tmp 93) rfl rfl rfl rfl size55 rfl rfl rfl ?_) | (refine wpList_load_at rfl 55 (.tmp 5) rfl rfl (heap_alloc_past _ _ _ _ YB.out) Try.underlying55 rfl size55 rfl ?_) | (refine wpList_store_new rfl 55 (.tmp 17) (.tmp 98) rfl rfl rfl rfl size55 rfl rfl rfl ?_) | (refine pt_load rfl 22 (.tmp 101) rfl V5.heap.size 5 rfl [.int .i64 (a 5), .int .i64 (a 6), .int .i64 (a 7), .int .i64 (a 8)] (heap_alloc_at _ _ _ rfl) rfl Try.underlying22 rfl size22 ?_) | (refine pt_store rfl 22 (.tmp 102) (.tmp 101) rfl _ _ _ rfl rfl (heap_alloc_past _ _ _ _ YP.out) size22 rfl (of_decide_eq_true rfl) rfl ?_))
    refine gen_world (fun W6 hW => ?_)
    have HN := hid (show W6.heap[V5.heap.size]? = some (.cells #[.int .i64 (a 0), .int .i64 (a 1), .int .i64 (a 2), .int .i64 (a 3), .int .i64 (a 4), .int .i64 (a 5), .int .i64 (a 6), .int .i64 (a 7), .int .i64 (a 8), .int .i64 (a 9)] 55) by rw [hW]; exact setRow_past (heap_alloc_at _ _ _ rfl) (by omega))
    have HC := hid (show W6.heap[w.heap.size + 1 + 1]? = some (.cells #[.int .i64 m0, .int .i64 m1, .int .i64 m2, .int .i64 m3] 61) by rw [hW]; exact setRow_past (heap_alloc_past _ _ _ _ YC.out) (by omega))
    have HD := hid (show W6.heap[w.heap.size + 1 + 1 + 1]? = some (.cells #[.int .i64 0, .int .i64 0, .int .i64 0, .int .i64 0, .int .i64 0, .int .i64 0, .int .i64 0, .int .i64 0, .int .i64 0, .int .i64 0, .int .i64 0] 80) by rw [hW]; exact setRow_past (heap_alloc_past _ _ _ _ YD.out) (by omega))
    have HP := hid (show W6.heap[W1.heap.size]? = some (.cells #[.int .i64 (fl0 - bend), .int .i64 (-ce0 + bend), .int .i64 (fl1 - bend), .int .i64 (-ce1 + bend), .int .i64 (fl2 - bend), .int .i64 (-ce2 + bend), .int .i64 (a 5), .int .i64 (a 6), .int .i64 (a 7), .int .i64 (a 8), .int .i64 0] 80) by rw [hW]; exact setRow_heap _ _ _ _ _ _ (heap_alloc_past _ _ _ _ YP.out))
    have HB6 := hid (show Below w.heap.size w W6 by rw [hW]; exact below_setRow (YW.out.alloc (by omega) _) (by omega) _)
    clear hW YA YB YC YD YP YW
    refine gen_act (fun A0 hA => ?_)
    refine wp_region_last (by kernel_rfl) (by kernel_rfl) [some 103, some 104, some 105, some 106, some 107, some 108, some 109, some 110, none] rfl (by decide) 8 rfl (by kernel_rfl) (by kernel_rfl)
      [IsV (.pointer (some ⟨V5.heap.size, 9, none⟩)), IsV (.int .i64 (a 9)), IsV (.pointer (some ⟨w.heap.size + 1 + 1, 3, none⟩)), IsV (.int .i64 m3), IsV (.int .i64 (time - a 0)), IsV (.int .i64 up), IsV (.int .i64 (a 9 + up)), IsV (.pointer (some ⟨W1.heap.size, 10, none⟩))]
      ⟨IsV.stb _, IsV.stb _, IsV.stb _, IsV.stb _, IsV.stb _, IsV.stb _, IsV.stb _, IsV.stb _, trivial⟩ ?hs1_16_W7n ?hlast_16_W7n
    case hs1_16_W7n =>
      refine ⟨?_, ?_, ?_, ?_, ?_, ?_, ?_, ?_, trivial⟩
      · intro K us W hK0 hB hd
        have hK := hid hK0; clear hK0
        have HBW := hid hB
        have hsW := hB.size
        have GB := hid (HB6.out.trans (hB.mono HB6.out.size))
        clear hd
        simp only [putF]
        rw [hA]
        go_frame
        go_wp2_with fail
        exact hK.out _ _ _ (by rw [hA]; simp only [putF]; kernel_rfl) (Below.refl _ _) rfl
      · intro K us W hK0 hB hd
        have hK := hid hK0; clear hK0
        have HBW := hid hB
        have hsW := hB.size
        have GB := hid (HB6.out.trans (hB.mono HB6.out.size))
        have e0 : us 0 = .pointer (some ⟨V5.heap.size, 9, none⟩) := hd ⟨0, Ground.data⟩ (by simp) rfl
        clear hd
        have G0 := hid (heap_still hB HN.out)
        have c0 : W.cell? ⟨V5.heap.size, 9, none⟩ = some (.int .i64 (a 9)) := (cell_row (j := 9) G0.out).trans rfl
        simp only [putF]
        rw [hA, e0]
        go_frame
        go_wp2_with fail
        exact hK.out _ _ _ (by rw [hA]; simp only [putF]; rw [e0]; kernel_rfl) (Below.refl _ _) rfl
      · intro K us W hK0 hB hd
        have hK := hid hK0; clear hK0
        have HBW := hid hB
        have hsW := hB.size
        have GB := hid (HB6.out.trans (hB.mono HB6.out.size))
        clear hd
        simp only [putF]
        rw [hA]
        go_frame
        go_wp2_with fail
        exact hK.out _ _ _ (by rw [hA]; simp only [putF]; kernel_rfl) (Below.refl _ _) rfl
      · intro K us W hK0 hB hd
        have hK := hid hK0; clear hK0
        have HBW := hid hB
        have hsW := hB.size
        have GB := hid (HB6.out.trans (hB.mono HB6.out.size))
        have e2 : us 2 = .pointer (some ⟨w.heap.size + 1 + 1, 3, none⟩) := hd ⟨2, Ground.data⟩ (by simp) rfl
        clear hd
        have G0 := hid (heap_still hB HC.out)
        have c0 : W.cell? ⟨w.heap.size + 1 + 1, 3, none⟩ = some (.int .i64 m3) := (cell_row (j := 3) G0.out).trans rfl
        simp only [putF]
        rw [hA, e2]
        go_frame
        go_wp2_with fail
        exact hK.out _ _ _ (by rw [hA]; simp only [putF]; rw [e2]; kernel_rfl) (Below.refl _ _) rfl
      · intro K us W hK0 hB hd
        have hK := hid hK0; clear hK0
        have HBW := hid hB
        have hsW := hB.size
        have GB := hid (HB6.out.trans (hB.mono HB6.out.size))
        clear hd
        simp only [putF]
        rw [hA]
        go_frame
        go_wp2_with fail
        exact hK.out _ _ _ (by rw [hA]; simp only [putF]; kernel_rfl) (Below.refl _ _) rfl
      · intro K us W hK0 hB hd
        have hK := hid hK0; clear hK0
        have HBW := hid hB
        have hsW := hB.size
        have GB := hid (HB6.out.trans (hB.mono HB6.out.size))
        have e3 : us 3 = .int .i64 m3 := hd ⟨3, Ground.data⟩ (by simp) rfl
        have e4 : us 4 = .int .i64 (time - a 0) := hd ⟨4, Ground.data⟩ (by simp) rfl
        clear hd
        simp only [putF]
        rw [hA, e3, e4]
        go_frame
        go_wp2_with fail
        refine (HSH.out W).mono ?_
        rintro r W' ⟨rfl, hb⟩
        go_wp2_with fail
        exact hK.out _ _ _ (by rw [hA]; simp only [putF]; rw [e3, e4]; kernel_rfl) hb rfl
      · intro K us W hK0 hB hd
        have hK := hid hK0; clear hK0
        have HBW := hid hB
        have hsW := hB.size
        have GB := hid (HB6.out.trans (hB.mono HB6.out.size))
        have e1 : us 1 = .int .i64 (a 9) := hd ⟨1, Ground.data⟩ (by simp) rfl
        have e5 : us 5 = .int .i64 up := hd ⟨5, Ground.data⟩ (by simp) rfl
        clear hd
        simp only [putF]
        rw [hA, e1, e5]
        go_frame
        go_wp2_with fail
        exact hK.out _ _ _ (by rw [hA]; simp only [putF]; rw [e1, e5]; kernel_rfl) (Below.refl _ _) rfl
      · intro K us W hK0 hB hd
        have hK := hid hK0; clear hK0
        have HBW := hid hB
        have hsW := hB.size
        have GB := hid (HB6.out.trans (hB.mono HB6.out.size))
        clear hd
        simp only [putF]
        rw [hA]
        go_frame
        go_wp2_with fail
        exact hK.out _ _ _ (by rw [hA]; simp only [putF]; kernel_rfl) (Below.refl _ _) rfl
    intro K us W7n hK0 hB hp
    have hK := hid hK0
    clear hK0
    have e7 : us 7 = .pointer (some ⟨W1.heap.size, 10, none⟩) := hp 7 (by decide)
    have e6 : us 6 = .int .i64 (a 9 + up) := hp 6 (by decide)
    have HB7 := hid (HB6.out.trans (hB.mono HB6.out.size))
    have HSW7n := hid (fun n x => @heap_still _ _ n x hB)
    have hzW7n := hB.size
    have hbW7n := hid hB
    clear hp
    simp only [putF]
    rw [hA, e7, e6]
    skip
    go_frame
    go_wp2_with (refine pt_store1 rfl 3 (.tmp 110) (.tmp 109) rfl W1.heap.size 10 _ rfl rfl rfl rfl (HSW7n.out _ _ HP.out) size3 (of_decide_eq_true rfl) ?_)
    refine hK.out undef _ _ (by rw [hA]; simp only [putF]; rw [e7, e6]; kernel_rfl) ?_
    clear hK hB hA e7 e6
    have HD7 := hid (setRow_past (cells := ptL #[.int .i64 (fl0 - bend), .int .i64 (-ce0 + bend), .int .i64 (fl1 - bend), .int .i64 (-ce1 + bend), .int .i64 (fl2 - bend), .int .i64 (-ce2 + bend), .int .i64 (a 5), .int .i64 (a 6), .int .i64 (a 7), .int .i64 (a 8), .int .i64 0] 10 [.int .i64 (a 9 + up)]) (HSW7n.out _ _ HD.out) (by omega : w.heap.size + 1 + 1 + 1 ≠ W1.heap.size))
    have HP7 := hid (setRow_heap _ _ _ (ptL #[.int .i64 (fl0 - bend), .int .i64 (-ce0 + bend), .int .i64 (fl1 - bend), .int .i64 (-ce1 + bend), .int .i64 (fl2 - bend), .int .i64 (-ce2 + bend), .int .i64 (a 5), .int .i64 (a 6), .int .i64 (a 7), .int .i64 (a 8), .int .i64 0] 10 [.int .i64 (a 9 + up)]) _ _ (HSW7n.out _ _ HP.out))
    go_wp2_with (first | (refine wpList_load_at rfl 80 (.tmp 13) rfl rfl HP7.out Try.underlying80 rfl size80b rfl ?_) | (refine wpList_store_at rfl 80 (.tmp 8) (.tmp 111) rfl rfl rfl HD7.out size80b rfl rfl rfl ?_))
    refine bodyPost_ret (results_at1 rfl rfl (setRow_heap _ _ _ _ _ _ HD7.out) Try.underlying80 rfl size80b rfl) rfl ?_
    exact ⟨by rw [HRE.out]; rfl, below_setRow (below_setRow HB7.out (by omega) _) (by omega) _⟩
end Go.Proofs.Yteoikaedpgianaa
