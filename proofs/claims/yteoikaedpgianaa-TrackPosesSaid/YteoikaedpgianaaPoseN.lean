/- The pose within a part by its eleven numbers, with their bounds. -/
import Derived.Test.YteoikaedpgianaaPoseAt
namespace Go.Proofs.Yteoikaedpgianaa
open Go.RowKit Limb

/-- a pose by a row of numbers -/
def poseR (p : Nat → Int) : Value := poseA (p 0) (p 1) (p 2) (p 3) (p 4) (p 5) (p 6) (p 7) (p 8) (p 9) (p 10)
def fixN (a : Nat → Int) : Nat → Int := fun j => [a 1 - a 4, a 1 + a 4, a 2 - a 4, a 2 + a 4, a 3 - a 4, a 3 + a 4, a 5, a 6, a 7, a 8, a 9].getD j 0
def betN (a b : Nat → Int) (acc rate time : Int) : Nat → Int := fun j =>
  [betLo a b acc time 0, betHi a b acc time 0, betLo a b acc time 1, betHi a b acc time 1, betLo a b acc time 2, betHi a b acc time 2,
    betNear a b time 5, betNear a b time 6, betNear a b time 7, betNear a b time 8, betNear a b time 9 + upV rate (betWay a b time) 1000000].getD j 0
def inN (F : Nat → Nat → Int) (K : Nat) (acc rate time : Int) : Nat → Int := if F K 0 = time then fixN (F K) else betN (F (K - 1)) (F K) acc rate time
theorem inV_N (F : Nat → Nat → Int) (K : Nat) (acc rate time : Int) : inV F K acc rate time = poseR (inN F K acc rate time) := by
  unfold inV inN
  split
  · rfl
  · rfl
theorem six_of {P : Nat → Prop} (h0 : P 0) (h1 : P 1) (h2 : P 2) (h3 : P 3) (h4 : P 4) (h5 : P 5) : ∀ j, j < 6 → P j
  | 0, _ => h0
  | 1, _ => h1
  | 2, _ => h2
  | 3, _ => h3
  | 4, _ => h4
  | 5, _ => h5
theorem bet_bd {a b : Nat → Int} {m2 time : Int} (ha : fixF a = true) (hb : fixF b = true) (hm : 0 ≤ m2 ∧ m2 ≤ 100000) (hu : 0 ≤ time - a 0) (hv : 0 ≤ b 0 - time) (hd : 0 < b 0 - a 0 ∧ b 0 - a 0 ≤ 10000000) (i : Nat)
    (hi : (-134217728 ≤ a (i + 1) ∧ a (i + 1) ≤ 134217728) ∧ (-134217728 ≤ b (i + 1) ∧ b (i + 1) ≤ 134217728)) :
    (-3000000000000000 ≤ betLo a b m2 time i ∧ betLo a b m2 time i ≤ 3000000000000000) ∧ (-3000000000000000 ≤ betHi a b m2 time i ∧ betHi a b m2 time i ≤ 3000000000000000) := by
  have pa := fix_place ha
  have pb := fix_place hb
  have k0 := uv_bd (u := time - a 0) (v := b 0 - time) hu hv (by omega)
  have k2 := mul_in (x := m2) (y := (time - a 0) * (b 0 - time)) (l := 100000) (m := 25000000000000) (by omega) k0
  rw [← Int.mul_assoc] at k2
  have p1 := mul_in (x := a (i + 1) - a 4) (y := b 0 - time) (l := 134317728) (m := 10000000) (by omega) (by omega)
  have p2 := mul_in (x := b (i + 1) - b 4) (y := time - a 0) (l := 134317728) (m := 10000000) (by omega) (by omega)
  have p3 := mul_in (x := a (i + 1) + a 4) (y := b 0 - time) (l := 134317728) (m := 10000000) (by omega) (by omega)
  have p4 := mul_in (x := b (i + 1) + b 4) (y := time - a 0) (l := 134317728) (m := 10000000) (by omega) (by omega)
  have d1 := div_bd (a := (a (i + 1) - a 4) * (b 0 - time) + (b (i + 1) - b 4) * (time - a 0)) (b := time - a 0 + (b 0 - time)) (l := 2686354560000000) (by omega) (by omega) (by omega)
  have d2 := div_bd (a := -((a (i + 1) + a 4) * (b 0 - time) + (b (i + 1) + b 4) * (time - a 0))) (b := time - a 0 + (b 0 - time)) (l := 2686354560000000) (by omega) (by omega) (by omega)
  unfold betLo betHi betBend
  omega
theorem inN_bd {F : Nat → Nat → Int} {K : Nat} {m2 m3 time : Int} (hfix : ∀ j, j ≤ K → fixF (F j) = true) (hle : time ≤ F K 0) (hlt : ∀ j, j < K → F j 0 < time) (hm2 : 0 ≤ m2 ∧ m2 ≤ 100000) (hm3 : 0 ≤ m3 ∧ m3 ≤ 10000000)
    (hgap : F K 0 = time ∨ (0 < K ∧ F K 0 - F (K - 1) 0 ≤ 10000000)) :
    (∀ j, j < 6 → -3000000000000000 ≤ inN F K m2 m3 time j ∧ inN F K m2 m3 time j ≤ 3000000000000000) ∧ 0 ≤ inN F K m2 m3 time 10 ∧ inN F K m2 m3 time 10 ≤ 1000000000000000 := by
  by_cases hq : F K 0 = time
  · rw [show inN F K m2 m3 time = fixN (F K) from if_pos hq]
    have p := fix_place (hfix K (Nat.le_refl _))
    have g := fix_tilt (hfix K (Nat.le_refl _))
    refine ⟨six_of ?_ ?_ ?_ ?_ ?_ ?_, ?_⟩
    · show _ ≤ F K 1 - F K 4 ∧ F K 1 - F K 4 ≤ _; omega
    · show _ ≤ F K 1 + F K 4 ∧ F K 1 + F K 4 ≤ _; omega
    · show _ ≤ F K 2 - F K 4 ∧ F K 2 - F K 4 ≤ _; omega
    · show _ ≤ F K 2 + F K 4 ∧ F K 2 + F K 4 ≤ _; omega
    · show _ ≤ F K 3 - F K 4 ∧ F K 3 - F K 4 ≤ _; omega
    · show _ ≤ F K 3 + F K 4 ∧ F K 3 + F K 4 ≤ _; omega
    · show 0 ≤ F K 9 ∧ F K 9 ≤ _; omega
  · obtain ⟨hK, hg⟩ : 0 < K ∧ F K 0 - F (K - 1) 0 ≤ 10000000 := by rcases hgap with h | h; exact absurd h hq; exact h
    rw [show inN F K m2 m3 time = betN (F (K - 1)) (F K) m2 m3 time from if_neg hq]
    obtain ⟨q, rfl⟩ : ∃ q, K = q + 1 := ⟨K - 1, by omega⟩
    rw [Nat.add_sub_cancel] at hg ⊢
    have fa := hfix q (by omega)
    have fb := hfix (q + 1) (by omega)
    have pa := fix_place fa
    have pb := fix_place fb
    have ga := fix_tilt fa
    have gb := fix_tilt fb
    have hl := hlt q (by omega)
    have b0 := bet_bd (time := time) fa fb hm2 (by omega) (by omega) (by omega) 0 ⟨pa.1, pb.1⟩
    have b1 := bet_bd (time := time) fa fb hm2 (by omega) (by omega) (by omega) 1 ⟨pa.2.1, pb.2.1⟩
    have b2 := bet_bd (time := time) fa fb hm2 (by omega) (by omega) (by omega) 2 ⟨pa.2.2.1, pb.2.2.1⟩
    refine ⟨six_of b0.1 b0.2 b1.1 b1.2 b2.1 b2.2, ?_⟩
    show 0 ≤ betNear (F q) (F (q + 1)) time 9 + upV m3 (betWay (F q) (F (q + 1)) time) 1000000 ∧ betNear (F q) (F (q + 1)) time 9 + upV m3 (betWay (F q) (F (q + 1)) time) 1000000 ≤ _
    have hw : 0 ≤ betWay (F q) (F (q + 1)) time ∧ betWay (F q) (F (q + 1)) time ≤ 10000000 := by unfold betWay; split <;> omega
    have hn : 0 ≤ betNear (F q) (F (q + 1)) time 9 ∧ betNear (F q) (F (q + 1)) time 9 ≤ 1000000 := by unfold betNear; split <;> assumption
    have h1 := mul_in (x := m3) (y := betWay (F q) (F (q + 1)) time) (l := 10000000) (m := 10000000) (by omega) hw
    have h2 : 0 ≤ m3 * betWay (F q) (F (q + 1)) time := Int.mul_nonneg hm3.1 hw.1
    unfold upV
    omega
/-- a pose widened by w, its tilt by g -/
def overN (p : Nat → Int) (w g : Int) : Nat → Int := fun j => [p 0 - w, p 1 + w, p 2 - w, p 3 + w, p 4 - w, p 5 + w, p 6, p 7, p 8, p 9, p 10 + g].getD j 0
/-- what PoseOver returns; sp: the span must be valid -/
def poseOverV (sp : Bool) (m0 m1 m2 m3 : Int) (n : Nat) (L : Nat → Nat) (F : Nat → Nat → Nat → Int) (t0 t1 : Int) : Value :=
  if checkV m0 m1 m2 m3 n L F ≠ 0 then .tuple #[zeroPose, .int .i64 (checkV m0 m1 m2 m3 n L F)] else if (sp && !spanB t0 t1) = true then .tuple #[zeroPose, .int .i64 2]
  else if firstN (inPart L F t0) n < 0 ∨ firstN (inPart L F t0) n ≠ firstN (inPart L F t1) n then .tuple #[zeroPose, .int .i64 44]
  else .tuple #[poseR (overN (inN (F (firstN (inPart L F t0) n).toNat) (geK (F (firstN (inPart L F t0) n).toNat) (L (firstN (inPart L F t0) n).toNat) t0) m2 m3 t0) (upV m1 (t1 - t0) 1000000) (upV m3 (t1 - t0) 1000000)), .int .i64 0]
end Go.Proofs.Yteoikaedpgianaa
