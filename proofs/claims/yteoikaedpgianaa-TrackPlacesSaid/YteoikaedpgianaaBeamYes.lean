/- TrackBeams where both quaternions are within bounds and not 0. -/
import Derived.Test.YteoikaedpgianaaRot
import Derived.Test.YteoikaedpgianaaTurnM
import Derived.LoopN
namespace Go.Proofs.Yteoikaedpgianaa
open Go.RowKit Limb

/-- the sum of the first squares -/
def sqS (v : List Int) : Nat → Int
  | 0 => 0
  | k + 1 => sqS v k + v.getD k 0 * v.getD k 0
/-- the world behind m rounds of the sum of squares -/
def BmSt (v : List Int) (CT : Array Value) (g t : Nat) (W wr : World) (m : Nat) : Prop :=
  ∃ C, wr.heap[g]? = some (.cells C 35) ∧ C.size = 3 ∧ QCells C 0 wr ((sqS v m : Int) : Rat) (rotK m) ∧ wr.heap[t]? = some (.cells CT 37) ∧ (∀ i, i < 3 → QCells CT (i * 3) wr ((v.getD i 0 : Int) : Rat) 533) ∧ Below g W wr
theorem rowQ {C old cs : Array Value} {o k g t : Nat} {fr : Nat × Nat} {W : World} {q : Rat} (h : QCells C o W q k) (hg : W.heap[g]? = some (.cells old t fr)) (ht : t ≠ 3) : QCells C o (W.setRow g cs) q k := by
  obtain ⟨s, a, p, c, b, r, d, h1, h2, h3, h4⟩ := h
  exact ⟨s, a, p, c, b, r, d, h1, h2, h3, h4.row hg ht⟩
theorem QAt.cells3 {W : World} {cs : Array Value} {q : Rat} {k : Nat} (h : QAt W (.agg cs) q k) : QCells cs 0 W q k := by
  have h0 := h
  obtain ⟨ln, ld, e, hn, hd, _, _⟩ := h
  cases e
  obtain ⟨a, ca, rfl, _, _⟩ := hn.open
  obtain ⟨b, cb, rfl, _, _⟩ := hd.open
  exact ⟨_, _, _, _, _, _, _, rfl, rfl, rfl, h0⟩
theorem cmpQ_self (x : Rat) : cmpQ x x = 0 := by unfold cmpQ; rw [Rat.sub_self]; rfl
set_option maxRecDepth 100000 in
set_option maxHeartbeats 6400000 in
theorem beams_walk (a b c d e f g h k x0 x1 x2 x3 v0 v1 v2 u0 u1 u2 n m K : Int) (w : World) (hok : ok4 1000 a b c d = true) (hoq : ok4 1000 e f g h = true)
    (hp0 : ([a, b, c, d] == [0, 0, 0, 0]) = false) (hq0 : ([e, f, g, h] == [0, 0, 0, 0]) = false)
    (hV : prV a b c d e f g h = .tuple #[.agg #[.int .i64 x0, .int .i64 x1, .int .i64 x2, .int .i64 x3], .int .i64 0])
    (hB1 : bmV x0 x1 x2 x3 = .tuple #[.agg #[.int .i64 v0, .int .i64 v1, .int .i64 v2], .int .i64 n, .int .i64 0])
    (hB2 : bmV e f g h = .tuple #[.agg #[.int .i64 u0, .int .i64 u1, .int .i64 u2], .int .i64 m, .int .i64 0])
    (hn : n = (a*a + b*b + c*c + d*d) * m) (hn1 : 1 ≤ n) (hn2 : n ≤ 16000000000000)
    (hv : ∀ i, i < 3 → -16000000000000 ≤ [v0, v1, v2].getD i 0 ∧ [v0, v1, v2].getD i 0 ≤ 16000000000000) (hu0 : -4000000 ≤ u0 ∧ u0 ≤ 4000000) (hu1 : -4000000 ≤ u1 ∧ u1 ≤ 4000000) (hu2 : -4000000 ≤ u2 ∧ u2 ≤ 4000000)
    (hrot : ∀ i, i < 3 → rotS (rotM a b c d) [u0, u1, u2] i 3 = [v0, v1, v2].getD i 0) (hsq : sqS [v0, v1, v2] 3 = n * n)
    (hK : wrap64 (1 + wrap64 ((IntKind.u64.wrap k).tmod 4000)) = K) (hK0 : 1 ≤ K) (hK1 : K ≤ 4000) (hm : 0 ≤ m ∧ m ≤ 4000000)
    (hB3 : bmV (-K * e) (-K * f) (-K * g) (-K * h) = .tuple #[.agg #[.int .i64 (K * K * u0), .int .i64 (K * K * u1), .int .i64 (K * K * u2)], .int .i64 (K * K * m), .int .i64 0]) :
    Calls Try.prog 4 #[.agg #[.int .i64 a, .int .i64 b, .int .i64 c, .int .i64 d], .agg #[.int .i64 e, .int .i64 f, .int .i64 g, .int .i64 h], .int .i64 k] w
      fun r w' => r = .returned (.bool true) ∧ Below w.heap.size w w' := by
  have HV := hid hV
  have HBM3 := hid hB3
  have HKK := hid hK
  have HQB := hid (ok4_iff.1 hoq)
  have HUB := hid (And.intro hu0 (And.intro hu1 hu2))
  have HMB := hid hm
  have HBM1 := hid hB1
  have HBM2 := hid hB2
  obtain ⟨ha, hb, hc, hd⟩ := ok4_iff.1 hok
  have p1 := Quat.mul_bd ha ha
  have p2 := Quat.mul_bd hb hb
  have p3 := Quat.mul_bd hc hc
  have p4 := Quat.mul_bd hd hd
  have hpm : -16000000000000 ≤ (a*a + b*b + c*c + d*d) * m ∧ (a*a + b*b + c*c + d*d) * m ≤ 16000000000000 := by rw [← hn]; omega
  have q1 := eq22 a b c d 0 0 0 0
  have q2 := eq22 e f g h 0 0 0 0
  rw [hp0] at q1
  rw [hq0] at q2
  have hnn : (n != (a*a + b*b + c*c + d*d) * m) = false := by rw [bne_eq_false_iff_eq]; exact hn
  have HROT := hid (fun W => rot_any a b c d u0 u1 u2 W hok hu0 hu1 hu2)
  have HRV := hid hrot
  have HSQ := hid hsq
  have HVB := hid hv
  have HWH := hid (fun z (hz : -16000000000000 ≤ z ∧ z ≤ 16000000000000) W' => whole_any z W' (by omega))
  have HK0 := hid hK0
  have HK1 := hid hK1
  clear hK hK0 hK1 hm hB3 hV hB1 hB2 hp0 hq0 hn hrot hsq hv hok hoq ha hb hc hd hu0 hu1 hu2
  have HBw := hid (Below.refl w.heap.size w)
  go_enter Try.func4, Try.ntmps4
  go_wp2_with fail
  refine (product_any _ _ _ _ _ _ _ _ _).mono ?_
  rintro r w1 ⟨rfl, hb⟩
  have HBw1 := hid (show Below w.heap.size w w1 by have hB0 := HBw.out; refine Below.trans ?_ (hb.mono ?_); (focus ((repeat' (first | (with_reducible exact Below.refl _ _) | (with_reducible assumption) | (with_reducible refine Below.alloc ?_ ?_ _) | (with_reducible refine Below.drew ?_) | (with_reducible refine below_drewN ?_ _) | (with_reducible refine Below.setCell ?_ ?_ _) | (with_reducible refine below_setRow ?_ ?_ _) | go_size)); done)); (focus (first | (simp; done) | (simp; omega) | (have hB1 := hB0.size; simp; omega))))
  have hsw1 := hb.size
  (try simp at hsw1)
  have hzw1 : w.heap.size < w1.heap.size := by omega
  obtain ⟨hcw1, hfw1⟩ := bcell hb
  have hkw1 := hid (fun n x => @heap_still _ _ n x hb)
  clear hb
  rw [HV.out]
  have P1 := hid (hkw1.out _ _ (by repeat' (first | (refine heap_alloc_at _ _ _ ?_; (first | rfl | (simp; done) | (simp; omega))) | (refine heap_alloc_past _ _ _ _ ?_))) : w1.heap[w.heap.size]? = some (row4 a b c d))
  have Q1 := hid (hkw1.out _ _ (by repeat' (first | (refine heap_alloc_at _ _ _ ?_; (first | rfl | (simp; done) | (simp; omega))) | (refine heap_alloc_past _ _ _ _ ?_))) : w1.heap[w.heap.size + 1]? = some (row4 e f g h))
  clear hcw1 hfw1
  go_wp2_with (first | (refine wpList_load_at rfl 22 (.tmp 3) rfl rfl (heap_alloc_past _ _ _ _ P1.out) Try.underlying22 rfl size22 rfl ?_) | (refine wpList_load_at rfl 22 (.tmp 4) rfl rfl (heap_alloc_past _ _ _ _ Q1.out) Try.underlying22 rfl size22 rfl ?_))
  refine (rproduct_any _ _ _ _ _ _ _ _ _).mono ?_
  rintro r w2 ⟨rfl, hb⟩
  have HBw2 := hid (show Below w.heap.size w w2 by have hB0 := HBw1.out; refine Below.trans ?_ (hb.mono ?_); (focus ((repeat' (first | (with_reducible exact Below.refl _ _) | (with_reducible assumption) | (with_reducible refine Below.alloc ?_ ?_ _) | (with_reducible refine Below.drew ?_) | (with_reducible refine below_drewN ?_ _) | (with_reducible refine Below.setCell ?_ ?_ _) | (with_reducible refine below_setRow ?_ ?_ _) | go_size)); done)); (focus (first | (simp; done) | (simp; omega) | (have hB1 := hB0.size; simp; omega))))
  have hsw2 := hb.size
  (try simp at hsw2)
  have hzw2 : w.heap.size < w2.heap.size := by omega
  obtain ⟨hcw2, hfw2⟩ := bcell hb
  have hkw2 := hid (fun n x => @heap_still _ _ n x hb)
  clear hb
  rw [HV.out]
  have P2 := hid (hkw2.out _ _ (heap_alloc_past _ _ _ _ P1.out))
  have Q2 := hid (hkw2.out _ _ (heap_alloc_past _ _ _ _ Q1.out))
  have A2 := hid (hkw2.out _ _ (heap_alloc_at _ _ _ rfl) : w2.heap[w1.heap.size]? = some (row4 x0 x1 x2 x3))
  clear hcw2 hfw2
  go_wp2_with (first | (refine wpList_load_at rfl 22 (.tmp 7) rfl rfl (heap_alloc_past _ _ _ _ A2.out) Try.underlying22 rfl size22 rfl ?_))
  refine (xbeam_any _ _ _ _ _).mono ?_
  rintro r w3 ⟨rfl, hb⟩
  have HBw3 := hid (show Below w.heap.size w w3 by have hB0 := HBw2.out; refine Below.trans ?_ (hb.mono ?_); (focus ((repeat' (first | (with_reducible exact Below.refl _ _) | (with_reducible assumption) | (with_reducible refine Below.alloc ?_ ?_ _) | (with_reducible refine Below.drew ?_) | (with_reducible refine below_drewN ?_ _) | (with_reducible refine Below.setCell ?_ ?_ _) | (with_reducible refine below_setRow ?_ ?_ _) | go_size)); done)); (focus (first | (simp; done) | (simp; omega) | (have hB1 := hB0.size; simp; omega))))
  have hsw3 := hb.size
  (try simp at hsw3)
  have hzw3 : w.heap.size < w3.heap.size := by omega
  obtain ⟨hcw3, hfw3⟩ := bcell hb
  have hkw3 := hid (fun n x => @heap_still _ _ n x hb)
  clear hb
  rw [HBM1.out]
  have P3 := hid (hkw3.out _ _ (heap_alloc_past _ _ _ _ P2.out))
  have Q3 := hid (hkw3.out _ _ (heap_alloc_past _ _ _ _ Q2.out))
  have A3 := hid (hkw3.out _ _ (heap_alloc_past _ _ _ _ A2.out))
  clear hcw3 hfw3
  go_wp2_with (first | (refine wpList_load_at rfl 22 (.tmp 3) rfl rfl (heap_alloc_past _ _ _ _ P3.out) Try.underlying22 rfl size22 rfl ?_) | (refine wpList_load_at rfl 22 (.tmp 4) rfl rfl (heap_alloc_past _ _ _ _ Q3.out) Try.underlying22 rfl size22 rfl ?_))
  refine (xbeam_any _ _ _ _ _).mono ?_
  rintro r w4 ⟨rfl, hb⟩
  have HBw4 := hid (show Below w.heap.size w w4 by have hB0 := HBw3.out; refine Below.trans ?_ (hb.mono ?_); (focus ((repeat' (first | (with_reducible exact Below.refl _ _) | (with_reducible assumption) | (with_reducible refine Below.alloc ?_ ?_ _) | (with_reducible refine Below.drew ?_) | (with_reducible refine below_drewN ?_ _) | (with_reducible refine Below.setCell ?_ ?_ _) | (with_reducible refine below_setRow ?_ ?_ _) | go_size)); done)); (focus (first | (simp; done) | (simp; omega) | (have hB1 := hB0.size; simp; omega))))
  have hsw4 := hb.size
  (try simp at hsw4)
  have hzw4 : w.heap.size < w4.heap.size := by omega
  obtain ⟨hcw4, hfw4⟩ := bcell hb
  have hkw4 := hid (fun n x => @heap_still _ _ n x hb)
  clear hb
  rw [HBM2.out]
  have P4 := hid (hkw4.out _ _ (heap_alloc_past _ _ _ _ P3.out))
  have Q4 := hid (hkw4.out _ _ (heap_alloc_past _ _ _ _ Q3.out))
  have A4 := hid (hkw4.out _ _ (heap_alloc_past _ _ _ _ A3.out))
  have V4 := hid (hkw4.out _ _ (heap_alloc_at _ _ _ rfl) : w4.heap[w3.heap.size]? = some (.cells #[.int .i64 v0, .int .i64 v1, .int .i64 v2] 26))
  clear hcw4 hfw4
  have c0 : w4.cell? ⟨w.heap.size, 0, none⟩ = some (.int .i64 a) := (cell_row (j := 0) P4.out).trans rfl
  have c1 : w4.cell? ⟨w.heap.size, 1, none⟩ = some (.int .i64 b) := (cell_row (j := 1) P4.out).trans rfl
  have c2 : w4.cell? ⟨w.heap.size, 2, none⟩ = some (.int .i64 c) := (cell_row (j := 2) P4.out).trans rfl
  have c3 : w4.cell? ⟨w.heap.size, 3, none⟩ = some (.int .i64 d) := (cell_row (j := 3) P4.out).trans rfl
  go_wp2_with fail
  clear c0 c1 c2 c3
  refine (HWH.out 0 (by omega) _).mono ?_
  rintro r w5 ⟨⟨vq, rfl, hvq⟩, hb5⟩
  obtain ⟨cs, rfl, hcs, hco⟩ := hvq.cells
  have HQ5 := hid hvq
  have hB5 := hb5.size
  simp at hB5
  have HB5 := hid (show Below w.heap.size w w5 from (HBw4.out.alloc (by omega) _).trans (hb5.mono (by simp; omega)))
  have P5 := hid (heap_still hb5 (heap_alloc_past _ _ _ _ P4.out))
  have Q5 := hid (heap_still hb5 (heap_alloc_past _ _ _ _ Q4.out))
  have A5 := hid (heap_still hb5 (heap_alloc_past _ _ _ _ A4.out))
  have V5 := hid (heap_still hb5 (heap_alloc_past _ _ _ _ V4.out))
  have U5 := hid (heap_still hb5 (heap_alloc_at _ _ _ rfl) : w5.heap[w4.heap.size]? = some (.cells #[.int .i64 u0, .int .i64 u1, .int .i64 u2] 26))
  clear hb5 hvq
  go_wp2_with (first | (refine wpList_store_new rfl 35 (.tmp 17) (.tmp 112) rfl rfl rfl rfl size35 hcs rfl hco ?_) | (refine wpList_load_at rfl 22 (.tmp 3) rfl rfl (heap_alloc_past _ _ _ _ P5.out) Try.underlying22 rfl size22 rfl ?_) | (refine wpList_load_at rfl 26 (.tmp 13) rfl rfl (heap_alloc_past _ _ _ _ U5.out) Try.underlying26 rfl size26 rfl ?_))
  refine (HROT.out _).mono ?_
  rintro r w6 ⟨⟨CT, rfl, hCT9, hCTo, hCT⟩, hb6⟩
  have hB6 := hb6.size
  simp at hB6
  have HB6 := hid (show Below w.heap.size w w6 from (HB5.out.alloc (by omega) _).trans (hb6.mono (by simp; omega)))
  have P6 := hid (heap_still hb6 (heap_alloc_past _ _ _ _ P5.out))
  have Q6 := hid (heap_still hb6 (heap_alloc_past _ _ _ _ Q5.out))
  have A6 := hid (heap_still hb6 (heap_alloc_past _ _ _ _ A5.out))
  have V6 := hid (heap_still hb6 (heap_alloc_past _ _ _ _ V5.out))
  have U6 := hid (heap_still hb6 (heap_alloc_past _ _ _ _ U5.out))
  have S6 := hid (heap_still hb6 (heap_alloc_at _ _ _ rfl) : w6.heap[w5.heap.size]? = some (.cells cs 35))
  have HQ6 := hid ((HQ5.out.grow ((Below.refl w5.heap.size w5).alloc (Nat.le_refl _) (.cells cs 35))).grow hb6)
  have HCT := hid hCT
  clear hb6 hCT
  go_wp2_with (refine wpList_store_new rfl 37 (.tmp 18) (.tmp 115) rfl rfl rfl rfl size37 hCT9 rfl hCTo ?_)
  refine gen_world (fun W7 hW7 => ?_)
  have HB7 := hid (show Below w.heap.size w W7 by rw [hW7]; exact HB6.out.alloc (by omega) _)
  have Q7 := hid (show W7.heap[w.heap.size + 1]? = some (row4 e f g h) by rw [hW7]; exact heap_alloc_past _ _ _ _ Q6.out)
  have A7 := hid (show W7.heap[w1.heap.size]? = some (row4 x0 x1 x2 x3) by rw [hW7]; exact heap_alloc_past _ _ _ _ A6.out)
  have V7 := hid (show W7.heap[w3.heap.size]? = some (.cells #[.int .i64 v0, .int .i64 v1, .int .i64 v2] 26) by rw [hW7]; exact heap_alloc_past _ _ _ _ V6.out)
  have U7 := hid (show W7.heap[w4.heap.size]? = some (.cells #[.int .i64 u0, .int .i64 u1, .int .i64 u2] 26) by rw [hW7]; exact heap_alloc_past _ _ _ _ U6.out)
  have hs1 : w.heap.size + 1 < w1.heap.size := by omega
  have hs3 : w1.heap.size < w3.heap.size := by omega
  have hs4 : w3.heap.size < w4.heap.size := by omega
  have hs5 : w4.heap.size < w5.heap.size := by omega
  have hs6 : w5.heap.size < w6.heap.size := by omega
  have hs7 : W7.heap.size = w6.heap.size + 1 := by rw [hW7]; simp
  have HST := hid (show BmSt [v0, v1, v2] CT w5.heap.size w6.heap.size W7 W7 0 by
    have hb := (Below.refl w6.heap.size w6).alloc (Nat.le_refl _) (.cells CT 37)
    rw [hW7]
    refine ⟨cs, heap_alloc_past _ _ _ _ S6.out, hcs, (HQ6.out.grow hb).cells3, heap_alloc_at _ _ _ rfl, fun i hi => ?_, Below.refl _ _⟩
    rw [← HRV.out i hi]
    exact (HCT.out i hi).grow hb)
  clear hW7
  go_loopw [116] (fun i wr => ∃ m : Nat, m ≤ 3 ∧ i = .int .i64 m ∧ BmSt [v0, v1, v2] CT w5.heap.size w6.heap.size W7 wr m) (fun i _ => 3 - (intOf i).toNat)
  case atStart => exact ⟨0, by omega, rfl, HST.out⟩
  case round =>
    clear HST
    obtain ⟨m1, hm1, rfl, hst⟩ := hrel
    have HS := hid hst
    clear hst
    by_cases hlt : m1 < 3
    · have hdm : decide ((m1 : Int) < 3) = true := by simp; omega
      obtain ⟨C, hC, hC3, hQ, hT, hTQ, hB⟩ := HS.out
      have hszw := hB.size
      obtain ⟨sq, aq, pq, cq, bq, rq, dq, y0, y1, y2, hq⟩ := hQ
      obtain ⟨st, at_, pt, ct, bt, rt, dt, t0, t1, t2, hqt⟩ := hTQ m1 hlt
      have HC0 := hid y0
      have HC1 := hid y1
      have HC2 := hid y2
      have HQQ := hid hq
      have HT0 := hid t0
      have HT1 := hid t1
      have HT2 := hid t2
      have HQT := hid hqt
      have FC := hid hC
      have FT := hid hT
      have HTQ := hid hTQ
      have HBW := hid (HB7.out.trans (hB.mono (by omega)))
      have HBL := hid hB
      have FV := hid (heap_below hB (by omega) V7.out)
      have hx := HVB.out m1 hlt
      have HX := hid (show (#[.int .i64 v0, .int .i64 v1, .int .i64 v2] : Array Value)[m1]? = some (.int .i64 ([v0, v1, v2].getD m1 0)) from rot_cell (l := [v0, v1, v2]) hlt)
      have HN := hid (show sqS [v0, v1, v2] (m1 + 1) = sqS [v0, v1, v2] m1 + [v0, v1, v2].getD m1 0 * [v0, v1, v2].getD m1 0 from rfl)
      obtain ⟨K1, hK1, hK2, hK3, hK4⟩ := rotK_next hlt
      have HK := hid hK3
      generalize hxx : [v0, v1, v2].getD m1 0 = x at *
      have HXX := hid hxx
      clear hxx
      generalize sqS [v0, v1, v2] m1 = S at *
      generalize rotK m1 = K0 at *
      have HADD := hid (fun W' u u' h h' => qadd_any (S : Rat) ((x : Rat) * (x : Rat)) K1 u u' W' h h' hK4)
      have HMUL := hid (fun W' u u' h h' => qmul_any (x : Rat) (x : Rat) 4 u u' W' h h' (by decide))
      have HCMP := hid (fun W' u u' h h' => qcmp_any (x : Rat) (x : Rat) 533 u u' W' h h' (by decide))
      rw [cmpQ_self] at HCMP
      have HX4 := hid (fun W' => HWH.out x hx W')
      have HQ8 := hid hK2
      have HQK := hid hK1
      clear y0 y1 y2 hq t0 t1 t2 hqt hC hT hTQ hB hx hK1 hK2 hK3 hK4 HS
      go_wp2_with fail
      refine gen_world (fun W0 hW0 => ?_)
      have HB0 := hid (show Below w.heap.size w W0 by rw [hW0]; exact HBW.out)
      have GC := hid (show W0.heap[w5.heap.size]? = some (.cells C 35) by rw [hW0]; exact FC.out)
      have GT := hid (show W0.heap[w6.heap.size]? = some (.cells CT 37) by rw [hW0]; exact FT.out)
      have GV := hid (show W0.heap[w3.heap.size]? = some (.cells #[.int .i64 v0, .int .i64 v1, .int .i64 v2] 26) by rw [hW0]; exact FV.out)
      have GQQ := hid (show QAt W0 (.agg #[.bool sq, .slice aq pq cq, .slice bq rq dq]) (S : Rat) K0 by rw [hW0]; exact HQQ.out)
      have GTQ := hid (show ∀ i, i < 3 → QCells CT (i * 3) W0 (([v0, v1, v2].getD i 0 : Int) : Rat) 533 by rw [hW0]; exact HTQ.out)
      have GQT := hid (show QAt W0 (.agg #[.bool st, .slice at_ pt ct, .slice bt rt dt]) (x : Rat) 533 by rw [hW0]; exact HQT.out)
      have GBL := hid (show Below w5.heap.size W7 W0 by rw [hW0]; exact HBL.out)
      clear hW0 FC FT FV HQQ HTQ HQT HBL HBW
      refine gen_act (fun A0 hA => ?_)
      refine wp_region_last (by kernel_rfl) (by kernel_rfl) [some 119, some 120, some 121, some 122, some 123, some 124, some 125, some 126, some 127, some 128, some 129, none] rfl (by decide) 11 rfl (by kernel_rfl) (by kernel_rfl)
        [IsV (.agg #[.bool sq, .slice aq pq cq, .slice bq rq dq]), IsV (.int .i64 (m1 : Int)), IsV (.pointer (some ⟨w3.heap.size, m1, none⟩)), IsV (.int .i64 x), fun W v => QAt W v (x : Rat) 4, IsV (.int .i64 (m1 : Int)), IsV (.pointer (some ⟨w3.heap.size, m1, none⟩)), IsV (.int .i64 x), fun W v => QAt W v (x : Rat) 4, fun W v => QAt W v ((x : Rat) * (x : Rat)) 8, fun W v => QAt W v ((S : Rat) + (x : Rat) * (x : Rat)) (4 * K1 + 1)]
        ⟨IsV.stb _, IsV.stb _, IsV.stb _, IsV.stb _, QAt.stb _ _, IsV.stb _, IsV.stb _, IsV.stb _, QAt.stb _ _, QAt.stb _ _, QAt.stb _ _, trivial⟩ ?hs1_19_W1 ?hlast_19_W1
      case hs1_19_W1 =>
        refine ⟨?_, ?_, ?_, ?_, ?_, ?_, ?_, ?_, ?_, ?_, ?_, trivial⟩
        · intro K us W hK0 hB hd
          have hK := hid hK0; clear hK0
          have HBW := hid hB
          have hsW := hB.size
          have GB := hid (HB0.out.trans (hB.mono HB0.out.size))
          clear hd
          have c0 : W.cell? ⟨w5.heap.size, 0, none⟩ = some (.bool sq) := (cell_row (heap_still hB GC.out)).trans HC0.out
          have c1 : W.cell? ⟨w5.heap.size, 1, none⟩ = some (.slice aq pq cq) := (cell_row (heap_still hB GC.out)).trans HC1.out
          have c2 : W.cell? ⟨w5.heap.size, 2, none⟩ = some (.slice bq rq dq) := (cell_row (heap_still hB GC.out)).trans HC2.out
          simp only [putF]
          rw [hA]
          go_frame
          go_wp2_with fail
          exact hK.out _ _ _ (by rw [hA]; simp only [putF]; kernel_rfl) (Below.refl _ _) rfl
        · intro K us W hK0 hB hd
          have hK := hid hK0; clear hK0
          have HBW := hid hB
          have hsW := hB.size
          have GB := hid (HB0.out.trans (hB.mono HB0.out.size))
          clear hd
          simp only [putF]
          rw [hA]
          go_frame
          go_wp2_with fail
          exact hK.out _ _ _ (by rw [hA]; simp only [putF]; kernel_rfl) (Below.refl _ _) rfl
        · intro K us W hK0 hB hd
          have hK := hid hK0; clear hK0
          have HBW := hid hB
          have hsW := hB.size
          have GB := hid (HB0.out.trans (hB.mono HB0.out.size))
          have e1 : us 1 = .int .i64 (m1 : Int) := hd ⟨1, Ground.data⟩ (by simp) rfl
          clear hd
          simp only [putF]
          rw [hA, e1]
          go_frame
          go_wp2_with fail
          exact hK.out _ _ _ (by rw [hA]; simp only [putF]; rw [e1]; kernel_rfl) (Below.refl _ _) rfl
        · intro K us W hK0 hB hd
          have hK := hid hK0; clear hK0
          have HBW := hid hB
          have hsW := hB.size
          have GB := hid (HB0.out.trans (hB.mono HB0.out.size))
          have e2 : us 2 = .pointer (some ⟨w3.heap.size, m1, none⟩) := hd ⟨2, Ground.data⟩ (by simp) rfl
          clear hd
          have c0 : W.cell? ⟨w3.heap.size, m1, none⟩ = some (.int .i64 x) := (cell_row (heap_still hB GV.out)).trans HX.out
          simp only [putF]
          rw [hA, e2]
          go_frame
          go_wp2_with fail
          exact hK.out _ _ _ (by rw [hA]; simp only [putF]; rw [e2]; kernel_rfl) (Below.refl _ _) rfl
        · intro K us W hK0 hB hd
          have hK := hid hK0; clear hK0
          have HBW := hid hB
          have hsW := hB.size
          have GB := hid (HB0.out.trans (hB.mono HB0.out.size))
          have e3 : us 3 = .int .i64 x := hd ⟨3, Ground.data⟩ (by simp) rfl
          clear hd
          simp only [putF]
          rw [hA, e3]
          go_frame
          go_wp2_with fail
          refine (HX4.out W).mono ?_
          rintro r W' ⟨⟨v, rfl, hv⟩, hb⟩
          go_wp2_with fail
          exact hK.out _ _ _ (by rw [hA]; simp only [putF]; rw [e3]; kernel_rfl) hb hv
        · intro K us W hK0 hB hd
          have hK := hid hK0; clear hK0
          have HBW := hid hB
          have hsW := hB.size
          have GB := hid (HB0.out.trans (hB.mono HB0.out.size))
          clear hd
          simp only [putF]
          rw [hA]
          go_frame
          go_wp2_with fail
          exact hK.out _ _ _ (by rw [hA]; simp only [putF]; kernel_rfl) (Below.refl _ _) rfl
        · intro K us W hK0 hB hd
          have hK := hid hK0; clear hK0
          have HBW := hid hB
          have hsW := hB.size
          have GB := hid (HB0.out.trans (hB.mono HB0.out.size))
          have e5 : us 5 = .int .i64 (m1 : Int) := hd ⟨5, Ground.data⟩ (by simp) rfl
          clear hd
          simp only [putF]
          rw [hA, e5]
          go_frame
          go_wp2_with fail
          exact hK.out _ _ _ (by rw [hA]; simp only [putF]; rw [e5]; kernel_rfl) (Below.refl _ _) rfl
        · intro K us W hK0 hB hd
          have hK := hid hK0; clear hK0
          have HBW := hid hB
          have hsW := hB.size
          have GB := hid (HB0.out.trans (hB.mono HB0.out.size))
          have e6 : us 6 = .pointer (some ⟨w3.heap.size, m1, none⟩) := hd ⟨6, Ground.data⟩ (by simp) rfl
          clear hd
          have c0 : W.cell? ⟨w3.heap.size, m1, none⟩ = some (.int .i64 x) := (cell_row (heap_still hB GV.out)).trans HX.out
          simp only [putF]
          rw [hA, e6]
          go_frame
          go_wp2_with fail
          exact hK.out _ _ _ (by rw [hA]; simp only [putF]; rw [e6]; kernel_rfl) (Below.refl _ _) rfl
        · intro K us W hK0 hB hd
          have hK := hid hK0; clear hK0
          have HBW := hid hB
          have hsW := hB.size
          have GB := hid (HB0.out.trans (hB.mono HB0.out.size))
          have e7 : us 7 = .int .i64 x := hd ⟨7, Ground.data⟩ (by simp) rfl
          clear hd
          simp only [putF]
          rw [hA, e7]
          go_frame
          go_wp2_with fail
          refine (HX4.out W).mono ?_
          rintro r W' ⟨⟨v, rfl, hv⟩, hb⟩
          go_wp2_with fail
          exact hK.out _ _ _ (by rw [hA]; simp only [putF]; rw [e7]; kernel_rfl) hb hv
        · intro K us W hK0 hB hd
          have hK := hid hK0; clear hK0
          have HBW := hid hB
          have hsW := hB.size
          have GB := hid (HB0.out.trans (hB.mono HB0.out.size))
          have hd4 : (fun W v => QAt W v (x : Rat) 4) W (us 4) := hd ⟨4, Ground.data⟩ (by simp) rfl
          obtain ⟨cs4, e4, hcs4, hco4⟩ := hd4.cells
          rw [e4] at hd4
          have HH4 := hid hd4
          clear hd4
          have hd8 : (fun W v => QAt W v (x : Rat) 4) W (us 8) := hd ⟨8, Ground.data⟩ (by simp) rfl
          obtain ⟨cs8, e8, hcs8, hco8⟩ := hd8.cells
          rw [e8] at hd8
          have HH8 := hid hd8
          clear hd8
          clear hd
          simp only [putF]
          rw [hA, e4, e8]
          go_frame
          go_wp2_with fail
          refine (HMUL.out W _ _ HH4.out HH8.out).mono ?_
          rintro r W' ⟨⟨v, rfl, hv⟩, hb⟩
          go_wp2_with fail
          exact hK.out _ _ _ (by rw [hA]; simp only [putF]; rw [e4, e8]; kernel_rfl) hb hv
        · intro K us W hK0 hB hd
          have hK := hid hK0; clear hK0
          have HBW := hid hB
          have hsW := hB.size
          have GB := hid (HB0.out.trans (hB.mono HB0.out.size))
          have e0 : us 0 = .agg #[.bool sq, .slice aq pq cq, .slice bq rq dq] := hd ⟨0, Ground.data⟩ (by simp) rfl
          have hd9 : (fun W v => QAt W v ((x : Rat) * (x : Rat)) 8) W (us 9) := hd ⟨9, Ground.data⟩ (by simp) rfl
          obtain ⟨cs9, e9, hcs9, hco9⟩ := hd9.cells
          rw [e9] at hd9
          have HH9 := hid hd9
          clear hd9
          clear hd
          simp only [putF]
          rw [hA, e0, e9]
          go_frame
          go_wp2_with fail
          refine (HADD.out W _ _ ((GQQ.out.grow hB).wide HQK.out) (HH9.out.wide HQ8.out)).mono ?_
          rintro r W' ⟨⟨v, rfl, hv⟩, hb⟩
          go_wp2_with fail
          exact hK.out _ _ _ (by rw [hA]; simp only [putF]; rw [e0, e9]; kernel_rfl) hb hv
      intro K us W1 hK0 hB hp
      have hK := hid hK0
      clear hK0
      have hd10 : (fun W v => QAt W v ((S : Rat) + (x : Rat) * (x : Rat)) (4 * K1 + 1)) W1 (us 10) := hp 10 (by decide)
      obtain ⟨cs10, e10, hcs10, hco10⟩ := hd10.cells
      rw [e10] at hd10
      have HH10 := hid hd10
      clear hd10
      have HB1 := hid (HB0.out.trans (hB.mono HB0.out.size))
      have HSW1 := hid (fun n x => @heap_still _ _ n x hB)
      have hzW1 := hB.size
      have hbW1 := hid hB
      clear hp
      simp only [putF]
      rw [hA, e10]
      skip
      go_frame
      go_wp2_with (refine wpList_store_at rfl 35 (.tmp 17) (.tmp 129) rfl rfl rfl (HSW1.out _ _ GC.out) size35 hcs10 hC3 hco10 ?_)
      refine hK.out undef _ _ (by rw [hA]; simp only [putF]; rw [e10]; kernel_rfl) ?_
      clear hK hB hA e10
      have hne : w6.heap.size ≠ w5.heap.size := by omega
      have hne3 : w3.heap.size ≠ w5.heap.size := by omega
      have hl5 : w5.heap.size < W1.heap.size := by have := GBL.out.size; omega
      go_wp2_with fail
      refine gen_world (fun W2 hW2 => ?_)
      have HB2 := hid (show Below w.heap.size w W2 by rw [hW2]; exact below_setRow HB1.out (by omega) _)
      have IC := hid (show W2.heap[w5.heap.size]? = some (.cells cs10 35) by rw [hW2]; exact setRow_heap _ _ _ _ _ _ (HSW1.out _ _ GC.out))
      have IT := hid (show W2.heap[w6.heap.size]? = some (.cells CT 37) by rw [hW2]; exact (setRow_other _ _ _ _ hne).trans (HSW1.out _ _ GT.out))
      have IV := hid (show W2.heap[w3.heap.size]? = some (.cells #[.int .i64 v0, .int .i64 v1, .int .i64 v2] 26) by rw [hW2]; exact (setRow_other _ _ _ _ hne3).trans (HSW1.out _ _ GV.out))
      have IQC := hid (show QAt W2 (.agg cs10) ((S : Rat) + (x : Rat) * (x : Rat)) (4 * K1 + 1) by rw [hW2]; exact HH10.out.row (HSW1.out _ _ GC.out) (by decide))
      have ITQ := hid (show ∀ i, i < 3 → QCells CT (i * 3) W2 (([v0, v1, v2].getD i 0 : Int) : Rat) 533 by rw [hW2]; exact fun i hi => rowQ ((GTQ.out i hi).grow hbW1.out) (HSW1.out _ _ GC.out) (by decide))
      have IQT := hid (show QAt W2 (.agg #[.bool st, .slice at_ pt ct, .slice bt rt dt]) (x : Rat) 533 by rw [hW2]; exact (GQT.out.grow hbW1.out).row (HSW1.out _ _ GC.out) (by decide))
      have IBL := hid (show Below w5.heap.size W7 W2 by rw [hW2]; exact below_setRow (GBL.out.trans (hbW1.out.mono (by have := GBL.out.size; omega))) (Nat.le_refl _) _)
      clear hW2 GC GT GV GQQ GTQ GQT GBL hl5
      refine gen_act (fun A0 hA => ?_)
      refine wp_region_pl (by kernel_rfl) (by kernel_rfl) [some 130, some 131, some 132, some 133, some 134, some 135, some 136, some 137, some 138] rfl (by decide)
        [IsV (.int .i64 (m1 : Int)), IsV (.pointer (some ⟨w6.heap.size, m1 * 3, none⟩)), IsV (.agg #[.bool st, .slice at_ pt ct, .slice bt rt dt]), IsV (.int .i64 (m1 : Int)), IsV (.pointer (some ⟨w3.heap.size, m1, none⟩)), IsV (.int .i64 x), fun W v => QAt W v (x : Rat) 4, IsV (.int .i64 0), IsV (.bool false)]
        ⟨IsV.stb _, IsV.stb _, IsV.stb _, IsV.stb _, IsV.stb _, IsV.stb _, QAt.stb _ _, IsV.stb _, IsV.stb _, trivial⟩ ?hs1_20_W3 ?hend_20_W3
      case hs1_20_W3 =>
        refine ⟨?_, ?_, ?_, ?_, ?_, ?_, ?_, ?_, ?_, trivial⟩
        · intro K us W hK0 hB hd
          have hK := hid hK0; clear hK0
          have HBW := hid hB
          have hsW := hB.size
          have GB := hid (HB2.out.trans (hB.mono HB2.out.size))
          clear hd
          simp only [putF]
          rw [hA]
          go_frame
          go_wp2_with fail
          exact hK.out _ _ _ (by rw [hA]; simp only [putF]; kernel_rfl) (Below.refl _ _) rfl
        · intro K us W hK0 hB hd
          have hK := hid hK0; clear hK0
          have HBW := hid hB
          have hsW := hB.size
          have GB := hid (HB2.out.trans (hB.mono HB2.out.size))
          have e0 : us 0 = .int .i64 (m1 : Int) := hd ⟨0, Ground.data⟩ (by simp) rfl
          clear hd
          simp only [putF]
          rw [hA, e0]
          go_frame
          go_wp2_with fail
          exact hK.out _ _ _ (by rw [hA]; simp only [putF]; rw [e0]; kernel_rfl) (Below.refl _ _) rfl
        · intro K us W hK0 hB hd
          have hK := hid hK0; clear hK0
          have HBW := hid hB
          have hsW := hB.size
          have GB := hid (HB2.out.trans (hB.mono HB2.out.size))
          have e1 : us 1 = .pointer (some ⟨w6.heap.size, m1 * 3, none⟩) := hd ⟨1, Ground.data⟩ (by simp) rfl
          clear hd
          have c0 : W.cell? ⟨w6.heap.size, m1 * 3, none⟩ = some (.bool st) := (cell_row (heap_still hB IT.out)).trans HT0.out
          have c1 : W.cell? ⟨w6.heap.size, m1 * 3 + 1, none⟩ = some (.slice at_ pt ct) := (cell_row (heap_still hB IT.out)).trans HT1.out
          have c2 : W.cell? ⟨w6.heap.size, m1 * 3 + 2, none⟩ = some (.slice bt rt dt) := (cell_row (heap_still hB IT.out)).trans HT2.out
          simp only [putF]
          rw [hA, e1]
          go_frame
          go_wp2_with fail
          exact hK.out _ _ _ (by rw [hA]; simp only [putF]; rw [e1]; kernel_rfl) (Below.refl _ _) rfl
        · intro K us W hK0 hB hd
          have hK := hid hK0; clear hK0
          have HBW := hid hB
          have hsW := hB.size
          have GB := hid (HB2.out.trans (hB.mono HB2.out.size))
          clear hd
          simp only [putF]
          rw [hA]
          go_frame
          go_wp2_with fail
          exact hK.out _ _ _ (by rw [hA]; simp only [putF]; kernel_rfl) (Below.refl _ _) rfl
        · intro K us W hK0 hB hd
          have hK := hid hK0; clear hK0
          have HBW := hid hB
          have hsW := hB.size
          have GB := hid (HB2.out.trans (hB.mono HB2.out.size))
          have e3 : us 3 = .int .i64 (m1 : Int) := hd ⟨3, Ground.data⟩ (by simp) rfl
          clear hd
          simp only [putF]
          rw [hA, e3]
          go_frame
          go_wp2_with fail
          exact hK.out _ _ _ (by rw [hA]; simp only [putF]; rw [e3]; kernel_rfl) (Below.refl _ _) rfl
        · intro K us W hK0 hB hd
          have hK := hid hK0; clear hK0
          have HBW := hid hB
          have hsW := hB.size
          have GB := hid (HB2.out.trans (hB.mono HB2.out.size))
          have e4 : us 4 = .pointer (some ⟨w3.heap.size, m1, none⟩) := hd ⟨4, Ground.data⟩ (by simp) rfl
          clear hd
          have c0 : W.cell? ⟨w3.heap.size, m1, none⟩ = some (.int .i64 x) := (cell_row (heap_still hB IV.out)).trans HX.out
          simp only [putF]
          rw [hA, e4]
          go_frame
          go_wp2_with fail
          exact hK.out _ _ _ (by rw [hA]; simp only [putF]; rw [e4]; kernel_rfl) (Below.refl _ _) rfl
        · intro K us W hK0 hB hd
          have hK := hid hK0; clear hK0
          have HBW := hid hB
          have hsW := hB.size
          have GB := hid (HB2.out.trans (hB.mono HB2.out.size))
          have e5 : us 5 = .int .i64 x := hd ⟨5, Ground.data⟩ (by simp) rfl
          clear hd
          simp only [putF]
          rw [hA, e5]
          go_frame
          go_wp2_with fail
          refine (HX4.out W).mono ?_
          rintro r W' ⟨⟨v, rfl, hv⟩, hb⟩
          go_wp2_with fail
          exact hK.out _ _ _ (by rw [hA]; simp only [putF]; rw [e5]; kernel_rfl) hb hv
        · intro K us W hK0 hB hd
          have hK := hid hK0; clear hK0
          have HBW := hid hB
          have hsW := hB.size
          have GB := hid (HB2.out.trans (hB.mono HB2.out.size))
          have e2 : us 2 = .agg #[.bool st, .slice at_ pt ct, .slice bt rt dt] := hd ⟨2, Ground.data⟩ (by simp) rfl
          have hd6 : (fun W v => QAt W v (x : Rat) 4) W (us 6) := hd ⟨6, Ground.data⟩ (by simp) rfl
          obtain ⟨cs6, e6, hcs6, hco6⟩ := hd6.cells
          rw [e6] at hd6
          have HH6 := hid hd6
          clear hd6
          clear hd
          simp only [putF]
          rw [hA, e2, e6]
          go_frame
          go_wp2_with fail
          refine (HCMP.out W _ _ (IQT.out.grow hB) (HH6.out.wide (by decide))).mono ?_
          rintro r W' ⟨rfl, hb⟩
          go_wp2_with fail
          exact hK.out _ _ _ (by rw [hA]; simp only [putF]; rw [e2, e6]; kernel_rfl) hb rfl
        · intro K us W hK0 hB hd
          have hK := hid hK0; clear hK0
          have HBW := hid hB
          have hsW := hB.size
          have GB := hid (HB2.out.trans (hB.mono HB2.out.size))
          have e7 : us 7 = .int .i64 0 := hd ⟨7, Ground.data⟩ (by simp) rfl
          clear hd
          simp only [putF]
          rw [hA, e7]
          go_frame
          go_wp2_with fail
          exact hK.out _ _ _ (by rw [hA]; simp only [putF]; rw [e7]; kernel_rfl) (Below.refl _ _) rfl
      intro us W3 hB hp
      have e8 : us 8 = .bool false := hp 8 (by decide)
      have HB3 := hid (HB2.out.trans (hB.mono HB2.out.size))
      have HSW3 := hid (fun n x => @heap_still _ _ n x hB)
      have hzW3 := hB.size
      have hbW3 := hid hB
      clear hp
      clear hB
      simp only [putF]
      rw [hA, e8]
      clear hA e8
      go_frame
      go_wp2_with fail
      refine ⟨⟨m1 + 1, by omega, by go_num, cs10, HSW3.out _ _ IC.out, hcs10, ?_, HSW3.out _ _ IT.out, fun i hi => (ITQ.out i hi).grow hbW3.out, IBL.out.trans (hbW3.out.mono (by have := IBL.out.size; omega))⟩, by simp [intOf]; omega⟩
      rw [HN.out, ← HK.out, Rat.intCast_add, Rat.intCast_mul]
      exact (IQC.out.grow hbW3.out).cells3
    · have : m1 = 3 := by omega
      subst this
      obtain ⟨C, hC, hC3, hQ, hT, hTQ, hB⟩ := HS.out
      have hszw := hB.size
      obtain ⟨sq, aq, pq, cq, bq, rq, dq, y0, y1, y2, hq⟩ := hQ
      rw [HSQ.out, Rat.intCast_mul] at hq
      have HC0 := hid y0
      have HC1 := hid y1
      have HC2 := hid y2
      have HQQ := hid hq
      have FC := hid hC
      have HBW := hid (HB7.out.trans (hB.mono (by omega)))
      have FQ := hid (heap_below hB (by omega) Q7.out)
      have FA := hid (heap_below hB (by omega) A7.out)
      have FU := hid (heap_below hB (by omega) U7.out)
      clear y0 y1 y2 hq hC hT hTQ hB HS
      have HWN := hid (fun W' => whole_any n W' (by omega))
      have HMUL := hid (fun W' u u' h h' => qmul_any (n : Rat) (n : Rat) 4 u u' W' h h' (by decide))
      have HCMP := hid (fun W' u u' h h' => qcmp_any ((n : Rat) * (n : Rat)) ((n : Rat) * (n : Rat)) 533 u u' W' h h' (by decide))
      rw [cmpQ_self] at HCMP
      go_wp2_with fail
      refine gen_world (fun W0 hW0 => ?_)
      have HB0 := hid (show Below w.heap.size w W0 by rw [hW0]; exact HBW.out)
      have GC := hid (show W0.heap[w5.heap.size]? = some (.cells C 35) by rw [hW0]; exact FC.out)
      have GQQ := hid (show QAt W0 (.agg #[.bool sq, .slice aq pq cq, .slice bq rq dq]) ((n : Rat) * (n : Rat)) 533 by rw [hW0]; exact HQQ.out)
      have GQ := hid (show W0.heap[w.heap.size + 1]? = some (row4 e f g h) by rw [hW0]; exact FQ.out)
      have GA := hid (show W0.heap[w1.heap.size]? = some (row4 x0 x1 x2 x3) by rw [hW0]; exact FA.out)
      have GU := hid (show W0.heap[w4.heap.size]? = some (.cells #[.int .i64 u0, .int .i64 u1, .int .i64 u2] 26) by rw [hW0]; exact FU.out)
      have hsz0 : w4.heap.size < W0.heap.size := (Array.getElem?_eq_some_iff.1 GU.out).1
      clear hW0 FC HQQ HBW FQ FA FU
      refine gen_act (fun A0 hA => ?_)
      refine wp_region_pl (by kernel_rfl) (by kernel_rfl) [some 140, some 141, some 142, some 143, some 144, some 145, some 146, some 147] rfl (by decide)
        [IsV (.agg #[.bool sq, .slice aq pq cq, .slice bq rq dq]), IsV (.int .i64 n), fun W v => QAt W v (n : Rat) 4, IsV (.int .i64 n), fun W v => QAt W v (n : Rat) 4, fun W v => QAt W v ((n : Rat) * (n : Rat)) 8, IsV (.int .i64 0), IsV (.bool false)]
        ⟨IsV.stb _, IsV.stb _, QAt.stb _ _, IsV.stb _, QAt.stb _ _, QAt.stb _ _, IsV.stb _, IsV.stb _, trivial⟩ ?hs1_23_W1 ?hend_23_W1
      case hs1_23_W1 =>
        refine ⟨?_, ?_, ?_, ?_, ?_, ?_, ?_, ?_, trivial⟩
        · intro K us W hK0 hB hd
          have hK := hid hK0; clear hK0
          have HBW := hid hB
          have hsW := hB.size
          have GB := hid (HB0.out.trans (hB.mono HB0.out.size))
          clear hd
          have c0 : W.cell? ⟨w5.heap.size, 0, none⟩ = some (.bool sq) := (cell_row (heap_still hB GC.out)).trans HC0.out
          have c1 : W.cell? ⟨w5.heap.size, 1, none⟩ = some (.slice aq pq cq) := (cell_row (heap_still hB GC.out)).trans HC1.out
          have c2 : W.cell? ⟨w5.heap.size, 2, none⟩ = some (.slice bq rq dq) := (cell_row (heap_still hB GC.out)).trans HC2.out
          simp only [putF]
          rw [hA]
          go_frame
          go_wp2_with fail
          exact hK.out _ _ _ (by rw [hA]; simp only [putF]; kernel_rfl) (Below.refl _ _) rfl
        · intro K us W hK0 hB hd
          have hK := hid hK0; clear hK0
          have HBW := hid hB
          have hsW := hB.size
          have GB := hid (HB0.out.trans (hB.mono HB0.out.size))
          clear hd
          simp only [putF]
          rw [hA]
          go_frame
          go_wp2_with fail
          exact hK.out _ _ _ (by rw [hA]; simp only [putF]; kernel_rfl) (Below.refl _ _) rfl
        · intro K us W hK0 hB hd
          have hK := hid hK0; clear hK0
          have HBW := hid hB
          have hsW := hB.size
          have GB := hid (HB0.out.trans (hB.mono HB0.out.size))
          have e1 : us 1 = .int .i64 n := hd ⟨1, Ground.data⟩ (by simp) rfl
          clear hd
          simp only [putF]
          rw [hA, e1]
          go_frame
          go_wp2_with fail
          refine (HWN.out W).mono ?_
          rintro r W' ⟨⟨v, rfl, hv⟩, hb⟩
          go_wp2_with fail
          exact hK.out _ _ _ (by rw [hA]; simp only [putF]; rw [e1]; kernel_rfl) hb hv
        · intro K us W hK0 hB hd
          have hK := hid hK0; clear hK0
          have HBW := hid hB
          have hsW := hB.size
          have GB := hid (HB0.out.trans (hB.mono HB0.out.size))
          clear hd
          simp only [putF]
          rw [hA]
          go_frame
          go_wp2_with fail
          exact hK.out _ _ _ (by rw [hA]; simp only [putF]; kernel_rfl) (Below.refl _ _) rfl
        · intro K us W hK0 hB hd
          have hK := hid hK0; clear hK0
          have HBW := hid hB
          have hsW := hB.size
          have GB := hid (HB0.out.trans (hB.mono HB0.out.size))
          have e3 : us 3 = .int .i64 n := hd ⟨3, Ground.data⟩ (by simp) rfl
          clear hd
          simp only [putF]
          rw [hA, e3]
          go_frame
          go_wp2_with fail
          refine (HWN.out W).mono ?_
          rintro r W' ⟨⟨v, rfl, hv⟩, hb⟩
          go_wp2_with fail
          exact hK.out _ _ _ (by rw [hA]; simp only [putF]; rw [e3]; kernel_rfl) hb hv
        · intro K us W hK0 hB hd
          have hK := hid hK0; clear hK0
          have HBW := hid hB
          have hsW := hB.size
          have GB := hid (HB0.out.trans (hB.mono HB0.out.size))
          have hd2 : (fun W v => QAt W v (n : Rat) 4) W (us 2) := hd ⟨2, Ground.data⟩ (by simp) rfl
          obtain ⟨cs2, e2, hcs2, hco2⟩ := hd2.cells
          rw [e2] at hd2
          have HH2 := hid hd2
          clear hd2
          have hd4 : (fun W v => QAt W v (n : Rat) 4) W (us 4) := hd ⟨4, Ground.data⟩ (by simp) rfl
          obtain ⟨cs4, e4, hcs4, hco4⟩ := hd4.cells
          rw [e4] at hd4
          have HH4 := hid hd4
          clear hd4
          clear hd
          simp only [putF]
          rw [hA, e2, e4]
          go_frame
          go_wp2_with fail
          refine (HMUL.out W _ _ HH2.out HH4.out).mono ?_
          rintro r W' ⟨⟨v, rfl, hv⟩, hb⟩
          go_wp2_with fail
          exact hK.out _ _ _ (by rw [hA]; simp only [putF]; rw [e2, e4]; kernel_rfl) hb hv
        · intro K us W hK0 hB hd
          have hK := hid hK0; clear hK0
          have HBW := hid hB
          have hsW := hB.size
          have GB := hid (HB0.out.trans (hB.mono HB0.out.size))
          have e0 : us 0 = .agg #[.bool sq, .slice aq pq cq, .slice bq rq dq] := hd ⟨0, Ground.data⟩ (by simp) rfl
          have hd5 : (fun W v => QAt W v ((n : Rat) * (n : Rat)) 8) W (us 5) := hd ⟨5, Ground.data⟩ (by simp) rfl
          obtain ⟨cs5, e5, hcs5, hco5⟩ := hd5.cells
          rw [e5] at hd5
          have HH5 := hid hd5
          clear hd5
          clear hd
          simp only [putF]
          rw [hA, e0, e5]
          go_frame
          go_wp2_with fail
          refine (HCMP.out W _ _ (GQQ.out.grow hB) (HH5.out.wide (by decide))).mono ?_
          rintro r W' ⟨rfl, hb⟩
          go_wp2_with fail
          exact hK.out _ _ _ (by rw [hA]; simp only [putF]; rw [e0, e5]; kernel_rfl) hb rfl
        · intro K us W hK0 hB hd
          have hK := hid hK0; clear hK0
          have HBW := hid hB
          have hsW := hB.size
          have GB := hid (HB0.out.trans (hB.mono HB0.out.size))
          have e6 : us 6 = .int .i64 0 := hd ⟨6, Ground.data⟩ (by simp) rfl
          clear hd
          simp only [putF]
          rw [hA, e6]
          go_frame
          go_wp2_with fail
          exact hK.out _ _ _ (by rw [hA]; simp only [putF]; rw [e6]; kernel_rfl) (Below.refl _ _) rfl
      intro us W1 hB hp
      have e7 : us 7 = .bool false := hp 7 (by decide)
      have HB1 := hid (HB0.out.trans (hB.mono HB0.out.size))
      have HSW1 := hid (fun n x => @heap_still _ _ n x hB)
      have hzW1 := hB.size
      have hbW1 := hid hB
      clear hp
      clear hB
      simp only [putF]
      rw [hA, e7]
      clear hA e7
      go_frame
      have IQ := hid (HSW1.out _ _ GQ.out)
      have IA := hid (HSW1.out _ _ GA.out)
      have IU := hid (HSW1.out _ _ GU.out)
      clear GC GQQ GQ GA GU HWN HMUL HCMP HC0 HC1 HC2 HVB HRV HCT HSQ HQ5 HQ6 HB0
      have cq0 : W1.cell? ⟨w.heap.size + 1, 0, none⟩ = some (.int .i64 e) := (cell_row (j := 0) IQ.out).trans rfl
      have cq1 : W1.cell? ⟨w.heap.size + 1, 1, none⟩ = some (.int .i64 f) := (cell_row (j := 1) IQ.out).trans rfl
      have cq2 : W1.cell? ⟨w.heap.size + 1, 2, none⟩ = some (.int .i64 g) := (cell_row (j := 2) IQ.out).trans rfl
      have cq3 : W1.cell? ⟨w.heap.size + 1, 3, none⟩ = some (.int .i64 h) := (cell_row (j := 3) IQ.out).trans rfl
      have hK0 := HK0.out
      have hK1 := HK1.out
      clear hpm p1 p2 p3 p4 hn1 hn2 hnn
      obtain ⟨he, hf, hg, hh⟩ := HQB.out
      have e1 := Quat.mul_bd (a := -K) (l := 4000) (by omega) he
      have e2 := Quat.mul_bd (a := -K) (l := 4000) (by omega) hf
      have e3 := Quat.mul_bd (a := -K) (l := 4000) (by omega) hg
      have e4 := Quat.mul_bd (a := -K) (l := 4000) (by omega) hh
      have ca0 : W1.cell? ⟨w1.heap.size, 0, none⟩ = some (.int .i64 x0) := (cell_row (j := 0) IA.out).trans rfl
      have ca1 : W1.cell? ⟨w1.heap.size, 1, none⟩ = some (.int .i64 x1) := (cell_row (j := 1) IA.out).trans rfl
      have ca2 : W1.cell? ⟨w1.heap.size, 2, none⟩ = some (.int .i64 x2) := (cell_row (j := 2) IA.out).trans rfl
      have ca3 : W1.cell? ⟨w1.heap.size, 3, none⟩ = some (.int .i64 x3) := (cell_row (j := 3) IA.out).trans rfl
      have fa := fun j => Joins.unfrozen_of_block IA.out j
      go_wp2_with fail
      rw [HKK.out]
      refine wp_loop_rounds 5 ?_
      rw [rounds_succ]
      go_wp2_with fail
      rw [rounds_succ]
      go_wp2_with fail
      rw [rounds_succ]
      go_wp2_with fail
      rw [rounds_succ]
      go_wp2_with fail
      rw [rounds_succ]
      go_wp2_with fail
      have hs4W : w4.heap.size < W1.heap.size := (Array.getElem?_eq_some_iff.1 IU.out).1
      refine (xbeam_any _ _ _ _ _).mono ?_
      rintro r w8 ⟨rfl, hb⟩
      have HBw8 := hid (show Below w.heap.size w w8 by have hB0 := HB1.out; refine Below.trans ?_ (hb.mono ?_); (focus ((repeat' (first | (with_reducible exact Below.refl _ _) | (with_reducible assumption) | (with_reducible refine Below.alloc ?_ ?_ _) | (with_reducible refine Below.drew ?_) | (with_reducible refine below_drewN ?_ _) | (with_reducible refine Below.setCell ?_ ?_ _) | (with_reducible refine below_setRow ?_ ?_ _) | go_size)); done)); (focus (first | (simp; done) | (simp; omega) | (have hB1 := hB0.size; simp; omega))))
      have hsw8 := hb.size
      (try simp at hsw8)
      have hzw8 : w.heap.size < w8.heap.size := by omega
      obtain ⟨hcw8, hfw8⟩ := bcell hb
      have hkw8 := hid (fun n x => @heap_still _ _ n x hb)
      clear hb
      rw [HBM3.out]
      have hne41 : w4.heap.size ≠ w1.heap.size := by omega
      have U8 := hid (hkw8.out _ _ (heap_set_other (heap_set_other (heap_set_other (heap_set_other IU.out hne41 _) hne41 _) hne41 _) hne41 _) : w8.heap[w4.heap.size]? = some (.cells #[.int .i64 u0, .int .i64 u1, .int .i64 u2] 26))
      clear hcw8 hfw8 ca0 ca1 ca2 ca3 fa cq0 cq1 cq2 cq3 e1 e2 e3 e4
      have hU := HUB.out
      have hM := HMB.out
      have g0 : 1 ≤ K * K ∧ K * K ≤ 16000000 := by
        have h1 := Int.mul_le_mul hK1 hK1 (by omega) (by omega)
        have h2 := Int.mul_le_mul hK0 hK0 (by omega) (by omega)
        omega
      have g1 := Quat.mul_bd (a := K * K) (l := 16000000) (by omega) hU.1
      have g2 := Quat.mul_bd (a := K * K) (l := 16000000) (by omega) hU.2.1
      have g3 := Quat.mul_bd (a := K * K) (l := 16000000) (by omega) hU.2.2
      have g4 := Quat.mul_bd (a := K * K) (b := m) (l := 16000000) (m := 4000000) (by omega) (by omega)
      have w0 : IntKind.i64.wrap (K * K) = K * K := IntWalk.i64_in _ (by omega)
      have k1 : IntKind.i64.wrap (K * K * u0) = K * K * u0 := IntWalk.i64_in _ (by omega)
      have k2 : IntKind.i64.wrap (K * K * u1) = K * K * u1 := IntWalk.i64_in _ (by omega)
      have k3 : IntKind.i64.wrap (K * K * u2) = K * K * u2 := IntWalk.i64_in _ (by omega)
      have d0 : w8.cell? ⟨w4.heap.size, 0, none⟩ = some (.int .i64 u0) := (cell_row (j := 0) U8.out).trans rfl
      have d1 : w8.cell? ⟨w4.heap.size, 1, none⟩ = some (.int .i64 u1) := (cell_row (j := 1) U8.out).trans rfl
      have d2 : w8.cell? ⟨w4.heap.size, 2, none⟩ = some (.int .i64 u2) := (cell_row (j := 2) U8.out).trans rfl
      have hs8 : w4.heap.size < w8.heap.size := (Array.getElem?_eq_some_iff.1 U8.out).1
      clear hU hM hK0 hK1
      go_wp2_with fail
      refine wp_loop_rounds 4 ?_
      rw [rounds_succ]
      go_wp2_with fail
      go_quiet (fail)
      go_wp2_with fail
      rw [rounds_succ]
      go_wp2_with fail
      go_quiet (fail)
      go_wp2_with fail
      rw [rounds_succ]
      go_wp2_with fail
      go_quiet (fail)
      go_wp2_with fail
      rw [rounds_succ]
      go_wp2_with fail
      refine (awake_any _).mono ?_
      rintro r w9 ⟨rfl, hb⟩
      have HBw9 := hid (show Below w.heap.size w w9 by have hB0 := HBw8.out; refine Below.trans ?_ (hb.mono ?_); (focus ((repeat' (first | (with_reducible exact Below.refl _ _) | (with_reducible assumption) | (with_reducible refine Below.alloc ?_ ?_ _) | (with_reducible refine Below.drew ?_) | (with_reducible refine below_drewN ?_ _) | (with_reducible refine Below.setCell ?_ ?_ _) | (with_reducible refine below_setRow ?_ ?_ _) | go_size)); done)); (focus (first | (simp; done) | (simp; omega) | (have hB1 := hB0.size; simp; omega))))
      have hsw9 := hb.size
      (try simp at hsw9)
      have hzw9 : w.heap.size < w9.heap.size := by omega
      obtain ⟨hcw9, hfw9⟩ := bcell hb
      have hkw9 := hid (fun n x => @heap_still _ _ n x hb)
      clear hb
      go_wp2_with fail
      go_ret
      exact ⟨rfl, HBw9.out⟩
end Go.Proofs.Yteoikaedpgianaa
