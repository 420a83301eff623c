/- The rank of an Id parts any two Ids. In plain Lean. -/
import Derived.Test.YteanlcefdoigcaaRank
namespace Go.Proofs.Yteanlcefdoigcaa
open Go.RowKit

theorem xs_back (k x : Nat) (h3 : x < 2 ^ (3 * k)) : (x ^^^ x >>> k) ^^^ (x ^^^ x >>> k) >>> k ^^^ (x ^^^ x >>> k) >>> (2 * k) = x := by
  have e0 : x >>> (3 * k) = 0 := by rw [Nat.shiftRight_eq_div_pow]; exact Nat.div_eq_of_lt h3
  rw [Nat.shiftRight_xor_distrib, Nat.shiftRight_xor_distrib, ← Nat.shiftRight_add, ← Nat.shiftRight_add, show k + k = 2 * k by omega, show k + 2 * k = 3 * k by omega, e0, Nat.xor_zero]
  apply Nat.eq_of_testBit_eq
  intro i
  simp only [Nat.testBit_xor]
  cases x.testBit i <;> cases (x >>> k).testBit i <;> cases (x >>> (2 * k)).testBit i <;> rfl
theorem xs_inj (k x y : Nat) (hx : x < 2 ^ (3 * k)) (hy : y < 2 ^ (3 * k)) (h : x ^^^ x >>> k = y ^^^ y >>> k) : x = y := by
  rw [← xs_back k x hx, ← xs_back k y hy, h]
theorem xs_lt (k x : Nat) (h : x < 18446744073709551616) : x ^^^ x >>> k < 18446744073709551616 := by
  have h2 : x >>> k < 2 ^ 64 := Nat.lt_of_le_of_lt (by rw [Nat.shiftRight_eq_div_pow]; exact Nat.div_le_self _ _) h
  exact Nat.xor_lt_two_pow (n := 64) h h2
theorem mul_inj (m m' k x y : Nat) (hm : m * m' = k * 18446744073709551616 + 1) (hx : x < 18446744073709551616) (hy : y < 18446744073709551616) (h : x * m % 18446744073709551616 = y * m % 18446744073709551616) : x = y := by
  have back : ∀ z, z < 18446744073709551616 → (z * m % 18446744073709551616) * m' % 18446744073709551616 = z := fun z hz => by
    rw [Nat.mul_mod, Nat.mod_mod, ← Nat.mul_mod, Nat.mul_assoc, hm, Nat.mul_add, Nat.mul_one, ← Nat.mul_assoc, Nat.mul_add_mod_self_right]
    exact Nat.mod_eq_of_lt hz
  rw [← back x hx, ← back y hy, h]
theorem mulA_inj (x y : Nat) (hx : x < 18446744073709551616) (hy : y < 18446744073709551616) (h : x * 13787848793156543929 % 18446744073709551616 = y * 13787848793156543929 % 18446744073709551616) : x = y :=
  mul_inj 13787848793156543929 10871156337175269513 8125545580553827436 x y (by decide) hx hy h
theorem mulB_inj (x y : Nat) (hx : x < 18446744073709551616) (hy : y < 18446744073709551616) (h : x * 10723151780598845931 % 18446744073709551616 = y * 10723151780598845931 % 18446744073709551616) : x = y :=
  mul_inj 10723151780598845931 3573116690164977347 2077064247507883091 x y (by decide) hx hy h
def sA (a : Nat) : Nat := (a ^^^ a >>> 30) * 13787848793156543929 % 18446744073709551616
def sB (b : Nat) : Nat := (b ^^^ b >>> 27) * 10723151780598845931 % 18446744073709551616
def sC (c : Nat) : Nat := c ^^^ c >>> 31
def sD (n : Nat) : Nat := (n + 11400714819323198485) % 18446744073709551616
def rankN (n : Nat) : Nat := sC (sB (sA (sD n)))
theorem sA_lt (a : Nat) : sA a < 18446744073709551616 := Nat.mod_lt _ (by decide)
theorem sB_lt (a : Nat) : sB a < 18446744073709551616 := Nat.mod_lt _ (by decide)
theorem sD_lt (a : Nat) : sD a < 18446744073709551616 := Nat.mod_lt _ (by decide)
theorem lt_pow {a : Nat} (k : Nat) (h : a < 18446744073709551616) (hk : 64 ≤ 3 * k) : a < 2 ^ (3 * k) :=
  Nat.lt_of_lt_of_le h (Nat.pow_le_pow_right (by omega : 0 < 2) hk)
theorem sA_inj {a b : Nat} (ha : a < 18446744073709551616) (hb : b < 18446744073709551616) (h : sA a = sA b) : a = b := by
  have := mulA_inj _ _ (xs_lt 30 a ha) (xs_lt 30 b hb) h
  exact xs_inj 30 a b (lt_pow 30 ha (by decide)) (lt_pow 30 hb (by decide)) this
theorem sB_inj {a b : Nat} (ha : a < 18446744073709551616) (hb : b < 18446744073709551616) (h : sB a = sB b) : a = b := by
  have := mulB_inj _ _ (xs_lt 27 a ha) (xs_lt 27 b hb) h
  exact xs_inj 27 a b (lt_pow 27 ha (by decide)) (lt_pow 27 hb (by decide)) this
theorem sC_inj {a b : Nat} (ha : a < 18446744073709551616) (hb : b < 18446744073709551616) (h : sC a = sC b) : a = b :=
  xs_inj 31 a b (lt_pow 31 ha (by decide)) (lt_pow 31 hb (by decide)) h
theorem sD_inj {a b : Nat} (ha : a < 18446744073709551616) (hb : b < 18446744073709551616) (h : sD a = sD b) : a = b := by
  unfold sD at h
  omega
theorem rankN_inj {n m : Nat} (hn : n < 18446744073709551616) (hm : m < 18446744073709551616) (h : rankN n = rankN m) : n = m :=
  sD_inj hn hm (sA_inj (sD_lt n) (sD_lt m) (sB_inj (sA_lt _) (sA_lt _) (sC_inj (sB_lt _) (sB_lt _) h)))
theorem xorNat (k x : Nat) (h : x < 18446744073709551616) : bits .xor .u64 (x : Int) ((x : Int) / ((2 ^ k : Nat) : Int)) = ((x ^^^ x >>> k : Nat) : Int) := by
  rw [xorShift_u64 x (2 ^ k) h, Nat.shiftRight_eq_div_pow]
theorem mixA_nat (a : Nat) (h : a < 18446744073709551616) : mixA (a : Int) = (sA a : Int) := by
  have e1 := xorNat 30 a h
  rw [show ((2 ^ 30 : Nat) : Int) = 1073741824 from rfl] at e1
  unfold mixA sA
  rw [e1, IntKind.wrap_u64]
  omega
theorem mixB_nat (a : Nat) (h : a < 18446744073709551616) : mixB (a : Int) = (sB a : Int) := by
  have e1 := xorNat 27 a h
  rw [show ((2 ^ 27 : Nat) : Int) = 134217728 from rfl] at e1
  unfold mixB sB
  rw [e1, IntKind.wrap_u64]
  omega
theorem mixC_nat (a : Nat) (h : a < 18446744073709551616) : mixC (a : Int) = (sC a : Int) := by
  have e1 := xorNat 31 a h
  rw [show ((2 ^ 31 : Nat) : Int) = 2147483648 from rfl] at e1
  unfold mixC sC
  exact e1
theorem rankV_nat (n : Nat) : rankV (n : Int) = (rankN n : Int) := by
  have e0 : IntKind.u64.wrap (IntKind.u64.wrap (n : Int) + 11400714819323198485) = (sD n : Int) := by
    rw [IntKind.wrap_u64, IntKind.wrap_u64]
    unfold sD
    omega
  unfold rankV rankN
  rw [e0, mixA_nat _ (sD_lt n), mixB_nat _ (sA_lt _), mixC_nat _ (sB_lt _)]
theorem rank_inj {a b : Int} (ha : 0 ≤ a ∧ a ≤ 1152921504606846976) (hb : 0 ≤ b ∧ b ≤ 1152921504606846976) (h : rankV a = rankV b) : a = b := by
  obtain ⟨n, rfl⟩ := Int.eq_ofNat_of_zero_le ha.1
  obtain ⟨m, rfl⟩ := Int.eq_ofNat_of_zero_le hb.1
  rw [rankV_nat n, rankV_nat m] at h
  have := rankN_inj (n := n) (m := m) (by omega) (by omega) (by exact_mod_cast h)
  omega
theorem rank_bd {a : Int} (ha : 0 ≤ a ∧ a ≤ 1152921504606846976) : 0 ≤ rankV a ∧ rankV a < 18446744073709551616 := by
  obtain ⟨n, rfl⟩ := Int.eq_ofNat_of_zero_le ha.1
  rw [rankV_nat n]
  have : rankN n < 18446744073709551616 := by
    exact xs_lt 31 _ (sB_lt _)
  omega
end Go.Proofs.Yteanlcefdoigcaa
