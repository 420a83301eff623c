/- Plain facts on integers and rational numbers as magnitudes and signs. No program in sight. -/
namespace Go.Proofs.Yteoikaedpgianaa.Limb

theorem rat_den {n : Int} {d : Nat} (hd : d ≠ 0) : (mkRat n d).den = d / Nat.gcd n.natAbs d := by
  rw [Rat.den_mkRat, if_neg hd, Nat.gcd_comm]
theorem rat_num {n : Int} {d : Nat} (hd : d ≠ 0) : (mkRat n d).num.natAbs = n.natAbs / Nat.gcd n.natAbs d := by
  rw [Rat.num_mkRat, if_neg hd, Nat.gcd_comm]
  have hdv : ((Nat.gcd n.natAbs d : Nat) : Int) ∣ n := Int.ofNat_dvd_left.2 (Nat.gcd_dvd_left _ _)
  rw [Int.natAbs_ediv_of_dvd hdv]
  simp
theorem rat_neg {n : Int} {d : Nat} (hd : d ≠ 0) : (mkRat n d).num < 0 ↔ n < 0 := by
  rw [Rat.num_mkRat, if_neg hd]
  have hg : 0 < Nat.gcd d n.natAbs := Nat.gcd_pos_of_pos_left _ (Nat.pos_of_ne_zero hd)
  have hdv : ((Nat.gcd d n.natAbs : Nat) : Int) ∣ n := Int.ofNat_dvd_left.2 (Nat.gcd_dvd_right _ _)
  obtain ⟨c, hc⟩ := hdv
  generalize Nat.gcd d n.natAbs = g at hg hc
  subst hc
  rw [Int.mul_ediv_cancel_left _ (by omega)]
  constructor
  · intro h; exact Int.mul_neg_of_pos_of_neg (by omega) h
  · intro h
    by_cases h0 : c < 0
    · exact h0
    · have := Int.mul_nonneg (show (0 : Int) ≤ g by omega) (show (0 : Int) ≤ c by omega); omega

theorem mul_sign {a b : Int} : decide (a * b < 0) = ((decide (a < 0) != decide (b < 0)) && decide (a.natAbs * b.natAbs ≠ 0)) := by
  rcases Int.lt_trichotomy a 0 with h1 | h1 | h1 <;> rcases Int.lt_trichotomy b 0 with h2 | h2 | h2
  · have := Int.mul_pos_of_neg_of_neg h1 h2
    simp [h1, h2]; omega
  · simp [h2]
  · have := Int.mul_neg_of_neg_of_pos h1 h2
    simp [h1, show ¬ b < 0 by omega, this]; exact Nat.ne_of_gt (Nat.mul_pos (by omega) (by omega))
  · simp [h1]
  · simp [h1]
  · simp [h1]
  · have := Int.mul_neg_of_pos_of_neg h1 h2
    simp [h2, show ¬ a < 0 by omega, this]; exact Nat.ne_of_gt (Nat.mul_pos (by omega) (by omega))
  · simp [h2]
  · have := Int.mul_pos h1 h2
    simp [show ¬ a < 0 by omega, show ¬ b < 0 by omega]; omega
/-- rounding down -/
theorem down_pos {z : Int} {d : Nat} (hz : 0 ≤ z) : z / (d : Int) = ((z.natAbs / d : Nat) : Int) := by
  obtain ⟨n, rfl⟩ := Int.eq_ofNat_of_zero_le hz
  simp
theorem down_neg {z : Int} {d : Nat} (hd : 0 < d) (hz : z < 0) : z / (d : Int) = -(((z.natAbs / d + if z.natAbs % d = 0 then 0 else 1 : Nat)) : Int) := by
  obtain ⟨n, hn⟩ : ∃ n : Nat, z = -(n : Int) := ⟨z.natAbs, by omega⟩
  subst hn
  rw [Int.natAbs_neg, Int.natAbs_natCast]
  have hdm := Nat.div_add_mod n d
  have hlt := Nat.mod_lt n hd
  generalize n / d = q at *
  generalize n % d = r at *
  refine (Int.ediv_emod_unique (r := if r = 0 then 0 else (d : Int) - r) (by omega)).2 ⟨?_, ?_, ?_⟩ |>.1
  · rw [← hdm]
    split
    · rename_i h; subst h; simp [Int.mul_neg]
    · rename_i h; push_cast; rw [Int.mul_neg, Int.mul_add]; omega
  · split <;> omega
  · split <;> omega
end Go.Proofs.Yteoikaedpgianaa.Limb
