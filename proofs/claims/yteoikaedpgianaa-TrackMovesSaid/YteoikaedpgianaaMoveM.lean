/- Plain: a motion with a constant acceleration lies within the pose that the program finds between two fixes. -/
import Derived.Test.YteoikaedpgianaaPoseAt
import Derived.Test.YteoikaedpgianaaQuad
namespace Go.Proofs.Yteoikaedpgianaa
open Go.RowKit Limb

theorem fl_le (a : Int) {d : Int} (hd : 0 < d) : ((a / d : Int) : Rat) ≤ (a : Rat) / (d : Rat) := by
  rw [← Rat.le_floor_iff, floor_div a d hd]
  exact Int.le_refl _
theorem fr_le {a b n : Int} (hn : 0 < n) (h : a ≤ b) : ((a : Int) : Rat) / (n : Rat) ≤ ((b : Int) : Rat) / (n : Rat) := by
  have hnr : (0 : Rat) < (n : Rat) := Rat.intCast_pos.2 hn
  rw [← Rat.not_lt, Rat.div_lt_iff hnr, Rat.not_lt, Rat.div_mul_cancel (Rat.ne_of_gt hnr)]
  exact Rat.intCast_le_intCast.2 h
theorem rneg_div (x y : Rat) : -x / y = -(x / y) := by rw [Rat.div_def, Rat.div_def, Rat.neg_mul]
theorem sum_lo {N N' M K d e : Int} (hd : 0 < d) (he : 0 < e) (h1 : N ≤ N') (h2 : -M ≤ K) : ((N / d - -(-M / e) : Int) : Rat) ≤ (N' : Rat) / (d : Rat) + (K : Rat) / (e : Rat) := by
  have a1 := fl_le N hd
  have a2 := fr_le hd h1
  have b1 := fl_le (-M) he
  have b2 := fr_le he h2
  rw [show N / d - -(-M / e) = N / d + -M / e by omega, Rat.intCast_add]
  grind
theorem sum_hi {N N' M K d e : Int} (hd : 0 < d) (he : 0 < e) (h1 : N' ≤ N) (h2 : K ≤ M) : (N' : Rat) / (d : Rat) + (K : Rat) / (e : Rat) ≤ ((-(-N / d) + -(-M / e) : Int) : Rat) := by
  have a1 := fl_le (-N) hd
  have a2 := fr_le hd (show -N ≤ -N' by omega)
  have b1 := fl_le (-M) he
  have b2 := fr_le he (show -M ≤ -K by omega)
  rw [Rat.intCast_add, Rat.intCast_neg, Rat.intCast_neg]
  rw [Rat.intCast_neg N', rneg_div] at a2
  rw [Rat.intCast_neg K, rneg_div] at b2
  grind
theorem quad_frac (p q k d x : Int) : quadQ p q k d x = ((p * (d - x) + q * x : Int) : Rat) / (d : Rat) + ((k * x * (x - d) : Int) : Rat) / ((2000000000000 : Int) : Rat) := by
  unfold quadQ
  rw [Rat.intCast_add, Rat.intCast_mul, Rat.intCast_mul, Rat.intCast_mul, Rat.intCast_mul]
theorem tmod_bd (x : Int) {n : Int} (hn : 0 ≤ n) : -n ≤ x.tmod (n + 1) ∧ x.tmod (n + 1) ≤ n := by
  have h1 := Int.tmod_lt_of_pos x (show 0 < n + 1 by omega)
  have h2 := Int.lt_tmod_of_pos x (show 0 < n + 1 by omega)
  omega
theorem between_in {xa ea xb eb p q k m2 u v : Int} (hu : 0 ≤ u) (hv : 0 ≤ v) (hd : 0 < u + v) (hp : xa - ea ≤ p ∧ p ≤ xa + ea) (hq : xb - eb ≤ q ∧ q ≤ xb + eb) (hk : -m2 ≤ k ∧ k ≤ m2) :
    ((((xa - ea) * v + (xb - eb) * u) / (u + v) - -(-(m2 * u * v) / 2000000000000) : Int) : Rat) ≤ quadQ p q k (u + v) u ∧
    quadQ p q k (u + v) u ≤ ((-(-((xa + ea) * v + (xb + eb) * u) / (u + v)) + -(-(m2 * u * v) / 2000000000000) : Int) : Rat) := by
  rw [quad_frac, show u + v - u = v by omega, show u - (u + v) = -v by omega]
  have h1 := Int.mul_le_mul_of_nonneg_right hp.1 hv
  have h2 := Int.mul_le_mul_of_nonneg_right hp.2 hv
  have h3 := Int.mul_le_mul_of_nonneg_right hq.1 hu
  have h4 := Int.mul_le_mul_of_nonneg_right hq.2 hu
  have huv := Int.mul_nonneg hu hv
  have h5 := Int.mul_le_mul_of_nonneg_right hk.1 huv
  have h6 := Int.mul_le_mul_of_nonneg_right hk.2 huv
  have e1 : k * u * -v = -(k * (u * v)) := by rw [Int.mul_neg, Int.mul_assoc]
  have e2 : m2 * u * v = m2 * (u * v) := Int.mul_assoc _ _ _
  rw [Int.neg_mul] at h5
  exact ⟨sum_lo hd (by decide) (by omega) (by omega), sum_hi hd (by decide) (by omega) (by omega)⟩
theorem quad_start (p q k d : Int) (hd : 0 < d) : quadQ p q k d 0 = (p : Rat) := by
  have hd0 : (d : Rat) ≠ 0 := fun h => by have := Rat.intCast_eq_zero_iff.1 h; omega
  rw [quad_frac, show p * (d - 0) + q * 0 = p * d by simp, show k * 0 * (0 - d) = 0 by simp, Rat.intCast_mul, Rat.mul_div_cancel hd0]
  rw [Rat.intCast_zero, Rat.div_def, Rat.zero_mul, Rat.add_zero]
theorem quad_end (p q k d : Int) (hd : 0 < d) : quadQ p q k d d = (q : Rat) := by
  have hd0 : (d : Rat) ≠ 0 := fun h => by have := Rat.intCast_eq_zero_iff.1 h; omega
  rw [quad_frac, show p * (d - d) + q * d = q * d by simp, show k * d * (d - d) = 0 by simp, Rat.intCast_mul, Rat.mul_div_cancel hd0]
  rw [Rat.intCast_zero, Rat.div_def, Rat.zero_mul, Rat.add_zero]
/-- the track of two fixes -/
def two (a b : Nat → Int) : Nat → Nat → Nat → Int := fun _ i => if i = 0 then a else b
theorem two_track {a b : Nat → Int} {m0 m1 m2 m3 : Int} (hr : rulesB m0 m1 m2 m3 = true) (ha : fixF a = true) (hb : fixF b = true) (h1 : a 0 < b 0) (h2 : b 0 - a 0 ≤ m0) : trackB m0 m1 m2 m3 1 (fun _ => 2) (two a b) = true := by
  have hta := fixF_time ha
  unfold trackB
  rw [hr, Bool.true_and]
  refine allN_iff.2 fun p hp => ?_
  obtain rfl : p = 0 := by omega
  unfold partB
  rw [Bool.and_eq_true]
  refine ⟨by decide, allN_iff.2 fun i hi => ?_⟩
  unfold stepB
  have e0 : two a b 0 0 = a := rfl
  have e1 : two a b 0 1 = b := rfl
  match i, hi with
  | 0, _ =>
    rw [e0, ha]
    have : lastI (fun _ => 2) (two a b) 0 0 = -1 := rfl
    rw [this]
    simp
    omega
  | 1, _ =>
    have : lastI (fun _ => 2) (two a b) 0 1 = a 0 := rfl
    rw [e1, hb, this]
    simp
    omega
theorem move_pose {a b : Nat → Int} {m0 m1 m2 m3 time : Int} (hr : rulesB m0 m1 m2 m3 = true) (ha : fixF a = true) (hb : fixF b = true) (h1 : a 0 < b 0) (h2 : b 0 - a 0 ≤ m0) (ht : a 0 ≤ time ∧ time ≤ b 0) :
    ∃ (l h : Nat → Int) (q0 q1 q2 q3 g : Int), poseAtV m0 m1 m2 m3 1 (fun _ => 2) (two a b) time = .tuple #[poseA (l 0) (h 0) (l 1) (h 1) (l 2) (h 2) q0 q1 q2 q3 g, .int .i64 0] ∧
      (∀ i, i < 3 → (-4000000000000000000 ≤ l i ∧ l i ≤ 4000000000000000000) ∧ (-4000000000000000000 ≤ h i ∧ h i ≤ 4000000000000000000)) ∧
      ∀ (oa ob k : Int), -(a 4) ≤ oa → oa ≤ a 4 → -(b 4) ≤ ob → ob ≤ b 4 → -m2 ≤ k → k ≤ m2 → ∀ i, i < 3 →
        ((l i : Int) : Rat) ≤ quadQ (a (i + 1) + oa) (b (i + 1) + ob) k (b 0 - a 0) (time - a 0) ∧ quadQ (a (i + 1) + oa) (b (i + 1) + ob) k (b 0 - a 0) (time - a 0) ≤ ((h i : Int) : Rat) := by
  have htb := two_track hr ha hb h1 h2
  have pa := fix_place ha
  have pb := fix_place hb
  have hmb : m0 ≤ 10000000 ∧ (0 ≤ m2 ∧ m2 ≤ 100000) ∧ (0 ≤ m3 ∧ m3 ≤ 10000000) := by simp [rulesB, inB] at hr; omega
  have hck : checkV m0 m1 m2 m3 1 (fun _ => 2) (two a b) = 0 := by unfold checkV; rw [if_neg (by rw [hr]; decide), if_neg (by rw [htb]; decide)]
  have hin : inPart (fun _ => 2) (two a b) time 0 = true := by
    unfold inPart
    rw [show two a b 0 0 0 = a 0 from rfl, show two a b 0 (2 - 1) 0 = b 0 from rfl, decide_eq_true ht.1, decide_eq_true ht.2]
    rfl
  have hfn : firstN (inPart (fun _ => 2) (two a b) time) 1 = 0 := firstN_hit (k := 0) rfl hin (by decide)
  have hpv : poseAtV m0 m1 m2 m3 1 (fun _ => 2) (two a b) time = .tuple #[inV (two a b 0) (geK (two a b 0) 2 time) m2 m3 time, .int .i64 0] := by
    unfold poseAtV
    rw [if_neg (fun h => h hck), hfn, if_neg (by decide)]
    rfl
  obtain ⟨k1, k2, k3⟩ := geK_spec (F := two a b 0) (L := 2) (time := time) (by decide) ht.2
  have e0 : two a b 0 0 = a := rfl
  have e1 : two a b 0 1 = b := rfl
  have hab : ∀ i, i < 3 → (-134217728 ≤ a (i + 1) ∧ a (i + 1) ≤ 134217728) ∧ (-134217728 ≤ b (i + 1) ∧ b (i + 1) ≤ 134217728)
    | 0, _ => ⟨pa.1, pb.1⟩
    | 1, _ => ⟨pa.2.1, pb.2.1⟩
    | 2, _ => ⟨pa.2.2.1, pb.2.2.1⟩
  rw [hpv]
  clear hpv
  generalize geK (two a b 0) 2 time = K at *
  match K, k1 with
  | 0, _ =>
    rw [e0] at k2
    have hta : a 0 = time := by omega
    have : inV (two a b 0) 0 m2 m3 time = fixPose a := if_pos hta
    rw [this]
    refine ⟨fun i => a (i + 1) - a 4, fun i => a (i + 1) + a 4, _, _, _, _, _, rfl, fun i hi => ?_, ?_⟩
    · have := hab i hi
      dsimp only
      omega
    · intro oa ob k o1 o2 o3 o4 o5 o6 i hi
      rw [← hta, Int.sub_self, quad_start _ _ _ _ (by omega)]
      dsimp only
      exact ⟨Rat.intCast_le_intCast.2 (by omega), Rat.intCast_le_intCast.2 (by omega)⟩
  | 1, _ =>
    have hlt : a 0 < time := k3 0 (by decide)
    by_cases hbt : b 0 = time
    · have : inV (two a b 0) 1 m2 m3 time = fixPose b := if_pos hbt
      rw [this]
      refine ⟨fun i => b (i + 1) - b 4, fun i => b (i + 1) + b 4, _, _, _, _, _, rfl, fun i hi => ?_, ?_⟩
      · have := hab i hi
        dsimp only
        omega
      · intro oa ob k o1 o2 o3 o4 o5 o6 i hi
        rw [← hbt, quad_end _ _ _ _ (by omega)]
        dsimp only
        exact ⟨Rat.intCast_le_intCast.2 (by omega), Rat.intCast_le_intCast.2 (by omega)⟩
    · have : inV (two a b 0) 1 m2 m3 time = betV a b m2 m3 time := if_neg hbt
      rw [this]
      refine ⟨betLo a b m2 time, betHi a b m2 time, _, _, _, _, _, rfl, fun i hi => ?_, ?_⟩
      · have hi2 := hab i hi
        have k0 := uv_bd (u := time - a 0) (v := b 0 - time) (by omega) (by omega) (by omega)
        have k2 := mul_in (x := m2) (y := (time - a 0) * (b 0 - time)) (l := 100000) (m := 25000000000000) (by omega) k0
        rw [← Int.mul_assoc] at k2
        have hbe := div_bd (a := -(m2 * (time - a 0) * (b 0 - time))) (b := 2000000000000) (l := 2500000000000000000) (by decide) (by decide) (by omega)
        have p1 := mul_in (x := a (i + 1) - a 4) (y := b 0 - time) (l := 134317728) (m := 10000000) (by omega) (by omega)
        have p2 := mul_in (x := b (i + 1) - b 4) (y := time - a 0) (l := 134317728) (m := 10000000) (by omega) (by omega)
        have p3 := mul_in (x := a (i + 1) + a 4) (y := b 0 - time) (l := 134317728) (m := 10000000) (by omega) (by omega)
        have p4 := mul_in (x := b (i + 1) + b 4) (y := time - a 0) (l := 134317728) (m := 10000000) (by omega) (by omega)
        have d1 := div_bd (a := (a (i + 1) - a 4) * (b 0 - time) + (b (i + 1) - b 4) * (time - a 0)) (b := time - a 0 + (b 0 - time)) (l := 2686354560000000) (by omega) (by omega) (by omega)
        have d2 := div_bd (a := -((a (i + 1) + a 4) * (b 0 - time) + (b (i + 1) + b 4) * (time - a 0))) (b := time - a 0 + (b 0 - time)) (l := 2686354560000000) (by omega) (by omega) (by omega)
        unfold betLo betHi betBend
        omega
      · intro oa ob k o1 o2 o3 o4 o5 o6 i hi
        have := between_in (xa := a (i + 1)) (ea := a 4) (xb := b (i + 1)) (eb := b 4) (p := a (i + 1) + oa) (q := b (i + 1) + ob) (k := k) (m2 := m2) (u := time - a 0) (v := b 0 - time) (by omega) (by omega) (by omega) (by omega) (by omega) ⟨o5, o6⟩
        rw [show time - a 0 + (b 0 - time) = b 0 - a 0 by omega] at this
        unfold betLo betHi betBend
        rw [show time - a 0 + (b 0 - time) = b 0 - a 0 by omega]
        exact this
end Go.Proofs.Yteoikaedpgianaa
