/- Plain facts on rotations: a product's beam is the rotated beam of its second factor; a multiple's beam. No program in sight. -/
import Derived.Test.YteoikaedpgianaaQuat
namespace Go.Proofs.Yteoikaedpgianaa.Quat
theorem rot_0 (a b c d e f g h : Int) : (a*a + b*b - c*c - d*d) * k0 e f g h + 2 * (b*c - a*d) * k1 e f g h + 2 * (b*d + a*c) * k2 e f g h = k0 (m0 a b c d e f g h) (m1 a b c d e f g h) (m2 a b c d e f g h) (m3 a b c d e f g h) := by
  unfold k0 k1 k2 m0 m1 m2 m3; grind
theorem rot_1 (a b c d e f g h : Int) : 2 * (b*c + a*d) * k0 e f g h + (a*a - b*b + c*c - d*d) * k1 e f g h + 2 * (c*d - a*b) * k2 e f g h = k1 (m0 a b c d e f g h) (m1 a b c d e f g h) (m2 a b c d e f g h) (m3 a b c d e f g h) := by
  unfold k0 k1 k2 m0 m1 m2 m3; grind
theorem rot_2 (a b c d e f g h : Int) : 2 * (b*d - a*c) * k0 e f g h + 2 * (c*d + a*b) * k1 e f g h + (a*a - b*b - c*c + d*d) * k2 e f g h = k2 (m0 a b c d e f g h) (m1 a b c d e f g h) (m2 a b c d e f g h) (m3 a b c d e f g h) := by
  unfold k0 k1 k2 m0 m1 m2 m3; grind
theorem scale_0 (k e f g h : Int) : k0 (-k * e) (-k * f) (-k * g) (-k * h) = k * k * k0 e f g h := by unfold k0; grind
theorem scale_1 (k e f g h : Int) : k1 (-k * e) (-k * f) (-k * g) (-k * h) = k * k * k1 e f g h := by unfold k1; grind
theorem scale_2 (k e f g h : Int) : k2 (-k * e) (-k * f) (-k * g) (-k * h) = k * k * k2 e f g h := by unfold k2; grind
theorem scale_n (k e f g h : Int) : nn (-k * e) (-k * f) (-k * g) (-k * h) = k * k * nn e f g h := by unfold nn; grind
theorem sq_nonneg (a : Int) : 0 ≤ a * a := by
  rcases Int.le_total 0 a with h | h
  · exact Int.mul_nonneg h h
  · exact Int.mul_nonneg_of_nonpos_of_nonpos h h
theorem sq_pos {a : Int} (h : a ≠ 0) : 1 ≤ a * a := by
  have h1 := sq_nonneg a
  have h2 : a * a ≠ 0 := fun h3 => h (by rcases Int.mul_eq_zero.1 h3 with h4 | h4 <;> exact h4)
  omega
theorem nn_pos {w x y z : Int} (h : ¬(w = 0 ∧ x = 0 ∧ y = 0 ∧ z = 0)) : 1 ≤ nn w x y z := by
  unfold nn
  have h1 := sq_nonneg w
  have h2 := sq_nonneg x
  have h3 := sq_nonneg y
  have h4 := sq_nonneg z
  by_cases e1 : w = 0
  · by_cases e2 : x = 0
    · by_cases e3 : y = 0
      · have := sq_pos (a := z) (fun e4 => h ⟨e1, e2, e3, e4⟩)
        omega
      · have := sq_pos e3
        omega
    · have := sq_pos e2
      omega
  · have := sq_pos e1
    omega
theorem nn_zero {w x y z : Int} (h : w = 0 ∧ x = 0 ∧ y = 0 ∧ z = 0) : nn w x y z = 0 := by
  obtain ⟨rfl, rfl, rfl, rfl⟩ := h; rfl
theorem sq_le {x n : Int} (hn : 0 ≤ n) (h : x * x ≤ n * n) : -n ≤ x ∧ x ≤ n := by
  constructor
  · rcases Int.lt_or_le x (-n) with h1 | h1
    · have h2 : 0 < (-x - n) * (-x + n) := Int.mul_pos (by omega) (by omega)
      grind
    · exact h1
  · rcases Int.lt_or_le n x with h1 | h1
    · have h2 : 0 < (x - n) * (x + n) := Int.mul_pos (by omega) (by omega)
      grind
    · exact h1
theorem beam_bd (w x y z : Int) : (-(nn w x y z) ≤ k0 w x y z ∧ k0 w x y z ≤ nn w x y z) ∧ (-(nn w x y z) ≤ k1 w x y z ∧ k1 w x y z ≤ nn w x y z) ∧ (-(nn w x y z) ≤ k2 w x y z ∧ k2 w x y z ≤ nn w x y z) := by
  have hl := beam_length w x y z
  have h0 : 0 ≤ nn w x y z := by unfold nn; have := sq_nonneg w; have := sq_nonneg x; have := sq_nonneg y; have := sq_nonneg z; omega
  have h1 := sq_nonneg (k0 w x y z)
  have h2 := sq_nonneg (k1 w x y z)
  have h3 := sq_nonneg (k2 w x y z)
  exact ⟨sq_le h0 (by omega), sq_le h0 (by omega), sq_le h0 (by omega)⟩
theorem nn_bd {w x y z : Int} (h0 : -1000 ≤ w ∧ w ≤ 1000) (h1 : -1000 ≤ x ∧ x ≤ 1000) (h2 : -1000 ≤ y ∧ y ≤ 1000) (h3 : -1000 ≤ z ∧ z ≤ 1000) : nn w x y z ≤ 4000000 := by
  unfold nn
  have := mul_bd h0 h0
  have := mul_bd h1 h1
  have := mul_bd h2 h2
  have := mul_bd h3 h3
  omega
theorem prod_bd {a b c d e f g h : Int} (ha : -1000 ≤ a ∧ a ≤ 1000) (hb : -1000 ≤ b ∧ b ≤ 1000) (hc : -1000 ≤ c ∧ c ≤ 1000) (hd : -1000 ≤ d ∧ d ≤ 1000) (he : -1000 ≤ e ∧ e ≤ 1000) (hf : -1000 ≤ f ∧ f ≤ 1000) (hg : -1000 ≤ g ∧ g ≤ 1000) (hh : -1000 ≤ h ∧ h ≤ 1000) :
    (-4000000 ≤ m0 a b c d e f g h ∧ m0 a b c d e f g h ≤ 4000000) ∧ (-4000000 ≤ m1 a b c d e f g h ∧ m1 a b c d e f g h ≤ 4000000) ∧ (-4000000 ≤ m2 a b c d e f g h ∧ m2 a b c d e f g h ≤ 4000000) ∧ (-4000000 ≤ m3 a b c d e f g h ∧ m3 a b c d e f g h ≤ 4000000) := by
  have := mul_bd ha he; have := mul_bd ha hf; have := mul_bd ha hg; have := mul_bd ha hh
  have := mul_bd hb he; have := mul_bd hb hf; have := mul_bd hb hg; have := mul_bd hb hh
  have := mul_bd hc he; have := mul_bd hc hf; have := mul_bd hc hg; have := mul_bd hc hh
  have := mul_bd hd he; have := mul_bd hd hf; have := mul_bd hd hg; have := mul_bd hd hh
  unfold m0 m1 m2 m3
  omega
end Go.Proofs.Yteoikaedpgianaa.Quat
