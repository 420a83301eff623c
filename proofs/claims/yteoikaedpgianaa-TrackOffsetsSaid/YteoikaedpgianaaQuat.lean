/- Plain facts on quaternions as four integers. No program in sight. -/
namespace Go.Proofs.Yteoikaedpgianaa.Quat
def m0 (a b c d e f g h : Int) : Int := a*e - b*f - c*g - d*h
def m1 (a b c d e f g h : Int) : Int := a*f + b*e + c*h - d*g
def m2 (a b c d e f g h : Int) : Int := a*g - b*h + c*e + d*f
def m3 (a b c d e f g h : Int) : Int := a*h + b*g - c*f + d*e
def k0 (w x y z : Int) : Int := -2 * (x*z + w*y)
def k1 (w x y z : Int) : Int := 2 * (w*x - y*z)
def k2 (w x y z : Int) : Int := x*x + y*y - w*w - z*z
def nn (w x y z : Int) : Int := w*w + x*x + y*y + z*z

theorem mul_bd {a b l m : Int} (ha : -l ≤ a ∧ a ≤ l) (hb : -m ≤ b ∧ b ≤ m) : -(l * m) ≤ a * b ∧ a * b ≤ l * m := by
  have h1 : 0 ≤ (l - a) * (m - b) := Int.mul_nonneg (by omega) (by omega)
  have h2 : 0 ≤ (l + a) * (m + b) := Int.mul_nonneg (by omega) (by omega)
  have h3 : 0 ≤ (l - a) * (m + b) := Int.mul_nonneg (by omega) (by omega)
  have h4 : 0 ≤ (l + a) * (m - b) := Int.mul_nonneg (by omega) (by omega)
  grind

theorem back_n (w x y z : Int) : m0 w x y z w (-x) (-y) (-z) = nn w x y z := by unfold m0 nn; grind
theorem back_1 (w x y z : Int) : m1 (m0 w x y z 0 0 0 (-1)) (m1 w x y z 0 0 0 (-1)) (m2 w x y z 0 0 0 (-1)) (m3 w x y z 0 0 0 (-1)) w (-x) (-y) (-z) = k0 w x y z := by
  unfold m0 m1 m2 m3 k0; grind
theorem back_2 (w x y z : Int) : m2 (m0 w x y z 0 0 0 (-1)) (m1 w x y z 0 0 0 (-1)) (m2 w x y z 0 0 0 (-1)) (m3 w x y z 0 0 0 (-1)) w (-x) (-y) (-z) = k1 w x y z := by
  unfold m0 m1 m2 m3 k1; grind
theorem back_3 (w x y z : Int) : m3 (m0 w x y z 0 0 0 (-1)) (m1 w x y z 0 0 0 (-1)) (m2 w x y z 0 0 0 (-1)) (m3 w x y z 0 0 0 (-1)) w (-x) (-y) (-z) = k2 w x y z := by
  unfold m0 m1 m2 m3 k2; grind
/-- the norm is multiplicative -/
theorem nn_mul (a b c d e f g h : Int) : nn (m0 a b c d e f g h) (m1 a b c d e f g h) (m2 a b c d e f g h) (m3 a b c d e f g h) = nn a b c d * nn e f g h := by
  unfold nn m0 m1 m2 m3; grind
/-- the beam has the length of its number -/
theorem beam_length (w x y z : Int) : k0 w x y z * k0 w x y z + k1 w x y z * k1 w x y z + k2 w x y z * k2 w x y z = nn w x y z * nn w x y z := by
  unfold nn k0 k1 k2; grind
/-- the signs of the products of the units -/
def sg (i k : Nat) : Int := ([1, 1, 1, 1, 1, -1, 1, -1, 1, -1, -1, 1, 1, 1, -1, -1].getD (4 * i + k) 0)
def un (i k : Nat) : Nat := ([0, 1, 2, 3, 1, 0, 3, 2, 2, 3, 0, 1, 3, 2, 1, 0].getD (4 * i + k) 0)
/-- the product's elements behind n of its 16 terms -/
def acc (p q : List Int) : Nat → Nat → Int
  | 0, _ => 0
  | n + 1, j => acc p q n j + if un (n / 4) (n % 4) = j then sg (n / 4) (n % 4) * p.getD (n / 4) 0 * q.getD (n % 4) 0 else 0
theorem sg_one (i k : Nat) (hi : i < 4) (hk : k < 4) : sg i k = 1 ∨ sg i k = -1 := by
  have h1 : i = 0 ∨ i = 1 ∨ i = 2 ∨ i = 3 := by omega
  have h2 : k = 0 ∨ k = 1 ∨ k = 2 ∨ k = 3 := by omega
  rcases h1 with rfl | rfl | rfl | rfl <;> rcases h2 with rfl | rfl | rfl | rfl <;> decide
theorem acc_bd {p q : List Int} {M : Int} (hM : 0 ≤ M) (h : ∀ i k, i < 4 → k < 4 → -M ≤ p.getD i 0 * q.getD k 0 ∧ p.getD i 0 * q.getD k 0 ≤ M) (j : Nat) :
    ∀ n, n ≤ 16 → -(n * M) ≤ acc p q n j ∧ acc p q n j ≤ n * M
  | 0, _ => by simp [acc]
  | n + 1, hn => by
    have ih := acc_bd hM h j n (by omega)
    have h1 := h (n / 4) (n % 4) (by omega) (by omega)
    have h2 := sg_one (n / 4) (n % 4) (by omega) (by omega)
    simp only [acc]
    have e : ((n + 1 : Nat) : Int) * M = n * M + M := by rw [Int.natCast_succ, Int.add_mul, Int.one_mul]
    rw [e]
    split
    · rcases h2 with h2 | h2 <;> rw [h2, Int.mul_assoc]
      · omega
      · omega
    · omega
theorem acc_16 (a b c d e f g h : Int) : acc [a, b, c, d] [e, f, g, h] 16 0 = m0 a b c d e f g h ∧ acc [a, b, c, d] [e, f, g, h] 16 1 = m1 a b c d e f g h ∧
    acc [a, b, c, d] [e, f, g, h] 16 2 = m2 a b c d e f g h ∧ acc [a, b, c, d] [e, f, g, h] 16 3 = m3 a b c d e f g h := by
  refine ⟨?_, ?_, ?_, ?_⟩ <;> simp [acc, un, sg, m0, m1, m2, m3] <;> grind
end Go.Proofs.Yteoikaedpgianaa.Quat
