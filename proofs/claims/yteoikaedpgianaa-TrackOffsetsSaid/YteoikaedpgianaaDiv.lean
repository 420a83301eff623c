/- Plain facts on the division of natural numbers written in base 65536. No program in sight. -/
import Derived.Test.YteoikaedpgianaaDigits
namespace Go.Proofs.Yteoikaedpgianaa.Limb
theorem val_set {l : List Nat} {k : Nat} (hk : k < l.length) (x : Nat) : val (l.set k x) + 65536 ^ k * l.getD k 0 = val l + 65536 ^ k * x := by
  induction l generalizing k with
  | nil => simp at hk
  | cons y l ih =>
    cases k with
    | zero => simp [val]; omega
    | succ k =>
      have := ih (k := k) (by simpa using hk)
      simp only [List.set_cons_succ, val, Nat.pow_succ, List.getD_cons_succ]
      rw [Nat.mul_comm (65536 ^ k) 65536, Nat.mul_assoc, Nat.mul_assoc]
      omega

theorem mul_step {m n i j c : Nat} {o : List Nat} {x : Nat} (hij : i + j < o.length)
    (h : val o + c * 65536 ^ (i + j) = m + x * (65536 ^ i * (n % 65536 ^ j)))
    {s : Nat} (hs : s = x * (n / 65536 ^ j % 65536) + o.getD (i + j) 0 + c) :
    val (o.set (i + j) (s % 65536)) + s / 65536 * 65536 ^ (i + (j + 1)) = m + x * (65536 ^ i * (n % 65536 ^ (j + 1))) := by
  have h1 := val_set hij (s % 65536)
  rw [mod_pow_succ n j, Nat.mul_add, Nat.mul_add]
  have e : s / 65536 * 65536 ^ (i + (j + 1)) + 65536 ^ (i + j) * (s % 65536) = 65536 ^ (i + j) * s := by
    rw [← Nat.add_assoc, Nat.pow_succ, ← Nat.mul_assoc, Nat.mul_comm (s / 65536), Nat.mul_assoc, ← Nat.mul_add]
    congr 1; omega
  have e2 : 65536 ^ (i + j) * s = x * (65536 ^ i * (65536 ^ j * (n / 65536 ^ j % 65536))) + 65536 ^ (i + j) * o.getD (i + j) 0 + 65536 ^ (i + j) * c := by
    rw [hs, Nat.mul_add, Nat.mul_add]
    congr 2
    rw [Nat.pow_add]
    simp only [Nat.mul_left_comm, Nat.mul_comm]
  rw [Nat.mul_comm c] at h
  omega

theorem mul_last {m n i c : Nat} {o : List Nat} {lb : Nat} (hlb : (natL n).length = lb) (hij : i + lb < o.length) (hz : o.getD (i + lb) 0 = 0)
    (h : val o + c * 65536 ^ (i + lb) = m % 65536 ^ i * n + (m / 65536 ^ i % 65536) * (65536 ^ i * (n % 65536 ^ lb))) :
    val (o.set (i + lb) c) = m % 65536 ^ (i + 1) * n := by
  have h1 := val_set hij c
  rw [hz] at h1
  have hn : n % 65536 ^ lb = n := Nat.mod_eq_of_lt (natL_length_le.1 (by omega))
  rw [hn] at h
  rw [mod_pow_succ m i, Nat.add_mul, Nat.mul_comm (65536 ^ i) (m / 65536 ^ i % 65536), Nat.mul_assoc]
  rw [Nat.mul_comm c] at h
  omega

/-- one step of a division from the top -/
theorem div_step {U V R i : Nat} {q : List Nat} (hi : i < q.length) (hz : q.getD i 0 = 0)
    (h : val q * V + R * 65536 ^ (i + 1) + U % 65536 ^ (i + 1) = U) {s : Nat} (hs : s = R * 65536 + U / 65536 ^ i % 65536) :
    val (q.set i (s / V)) * V + s % V * 65536 ^ i + U % 65536 ^ i = U := by
  have h1 := val_set hi (s / V)
  rw [hz, Nat.mul_zero, Nat.add_zero] at h1
  rw [h1, Nat.add_mul]
  rw [mod_pow_succ U i, Nat.pow_succ] at h
  have e : 65536 ^ i * (s / V) * V + s % V * 65536 ^ i = 65536 ^ i * s := by
    rw [Nat.mul_assoc, Nat.mul_comm (s % V), ← Nat.mul_add]
    congr 1
    rw [Nat.mul_comm]; exact Nat.div_add_mod s V
  have e2 : 65536 ^ i * s = R * (65536 ^ i * 65536) + 65536 ^ i * (U / 65536 ^ i % 65536) := by
    rw [hs, Nat.mul_add]
    congr 1
    rw [Nat.mul_comm, Nat.mul_assoc, Nat.mul_comm 65536]
  omega

theorem div_end {U V R : Nat} {q : List Nat} (hR : R < V) (h : val q * V + R * 65536 ^ 0 + U % 65536 ^ 0 = U) : val q = U / V ∧ R = U % V := by
  simp only [Nat.pow_zero, Nat.mul_one, Nat.mod_one, Nat.add_zero] at h
  have : U = R + V * val q := by rw [Nat.mul_comm]; omega
  constructor
  · rw [this, Nat.add_mul_div_left _ _ (by omega), Nat.div_eq_of_lt hR]; omega
  · rw [this, Nat.add_mul_mod_self_left, Nat.mod_eq_of_lt hR]

theorem rest_lt {R V d : Nat} (hR : R < V) (hd : d < 65536) : R * 65536 + d < 65536 * V := by omega

theorem guess_ge {s V k : Nat} (hk : 65536 ^ k ≤ V) : s / V ≤ s / 65536 ^ k / (V / 65536 ^ k) := by
  have hp : 0 < 65536 ^ k := Nat.pow_pos (by omega)
  have hv : 0 < V / 65536 ^ k := Nat.div_pos hk hp
  rw [Nat.le_div_iff_mul_le hv, Nat.le_div_iff_mul_le hp]
  have h1 : V / 65536 ^ k * 65536 ^ k ≤ V := Nat.div_mul_le_self V _
  calc s / V * (V / 65536 ^ k) * 65536 ^ k = s / V * (V / 65536 ^ k * 65536 ^ k) := Nat.mul_assoc _ _ _
    _ ≤ s / V * V := Nat.mul_le_mul_left _ h1
    _ ≤ s := Nat.div_mul_le_self s V

theorem guess_le {s V : Nat} (hV : 0 < V) (h : s < 65536 * V) : s / V ≤ 65535 := by
  have : s / V < 65536 := by rw [Nat.div_lt_iff_lt_mul hV]; exact h
  omega

theorem guess_zero {s V : Nat} (h : (natL s).length < (natL V).length) : s / V = 0 := Nat.div_eq_of_lt (lt_of_length h)

theorem guess_stop {s V g : Nat} (hg : s / V ≤ g) (hV : 0 < V) (h : V * g ≤ s) : g = s / V := by
  have : g ≤ s / V := by rw [Nat.le_div_iff_mul_le hV, Nat.mul_comm]; exact h
  omega

theorem guess_next {s V g : Nat} (hV : 0 < V) (h : s < V * g) : s / V ≤ g - 1 ∧ 1 ≤ g := by
  have : s / V < g := by rw [Nat.div_lt_iff_lt_mul hV, Nat.mul_comm]; exact h
  exact ⟨Nat.le_sub_one_of_lt this, Nat.lt_of_le_of_lt (Nat.zero_le _) this⟩

theorem length_pos {n : Nat} (h : 0 < n) : 1 ≤ (natL n).length := by
  rcases Nat.eq_zero_or_pos (natL n).length with h0 | h0
  · rw [List.length_eq_zero_iff, natL_eq_nil] at h0; omega
  · exact h0

theorem pow_le_of_length {n k : Nat} (h : (natL n).length = k + 1) : 65536 ^ k ≤ n := by
  rcases Nat.lt_or_ge n (65536 ^ k) with h1 | h1
  · rw [← natL_length_le] at h1; omega
  · exact h1

theorem top_one {s k : Nat} (h : (natL s).length = k + 1) : s / 65536 ^ k % 65536 = s / 65536 ^ k := by
  apply Nat.mod_eq_of_lt
  rw [Nat.div_lt_iff_lt_mul (Nat.pow_pos (by omega)), Nat.mul_comm, ← Nat.pow_succ]
  exact natL_length_le.1 (by omega)

theorem top_two {s k : Nat} (h : (natL s).length = k + 2) : s / 65536 ^ (k + 1) % 65536 * 65536 + s / 65536 ^ k % 65536 = s / 65536 ^ k := by
  rw [top_one h, Nat.pow_succ, ← Nat.div_div_eq_div_mul]
  omega

theorem top_pos {n k : Nat} (h : (natL n).length = k + 1) : 1 ≤ n / 65536 ^ k :=
  Nat.div_pos (pow_le_of_length h) (Nat.pow_pos (by omega))

theorem norm_pos {n k : Nat} (h : (natL n).length = k + 1) : 1 ≤ 65536 / (n / 65536 ^ k + 1) := by
  have h1 := top_one h
  have : n / 65536 ^ k < 65536 := by omega
  exact Nat.div_pos (by omega) (by omega)

theorem scaled_div {a b f : Nat} (hf : 1 ≤ f) : a * f / (b * f) = a / b := Nat.mul_div_mul_right _ _ (by omega)
theorem scaled_mod {a b f : Nat} : a * f % (b * f) = a % b * f := Nat.mul_mod_mul_right f a b
theorem unscaled {r f : Nat} (hf : 1 ≤ f) : r * f / f = r := Nat.mul_div_cancel _ (by omega)

theorem natL_cons {x R : Nat} : natL (val (x :: natL R)) = natL (R * 65536 + x) := by
  simp only [val, val_natL]; congr 1; omega

theorem natL_single {x : Nat} (h0 : x ≠ 0) (h : x < 65536) : natL x = [x] := by
  rw [natL_pos h0, show x / 65536 = 0 by omega, natL_zero, show x % 65536 = x by omega]

theorem drop_natL (n k : Nat) : (natL n).drop k = natL (n / 65536 ^ k) := by
  induction k generalizing n with
  | zero => simp
  | succ k ih =>
    by_cases h : n = 0
    · subst h; simp [natL_zero]
    · rw [natL_pos h, List.drop_succ_cons, ih, Nat.div_div_eq_div_mul, Nat.pow_succ, Nat.mul_comm]
theorem rest_start {U V k L : Nat} (h : (natL V).length = k + 1) (hU : (natL U).length ≤ k + 1 + L) : U / 65536 ^ (L + 1) < V := by
  have h1 := pow_le_of_length h
  have h2 : U < 65536 ^ (k + 1 + L) := natL_length_le.1 hU
  have : U / 65536 ^ (L + 1) < 65536 ^ k := by
    rw [Nat.div_lt_iff_lt_mul (Nat.pow_pos (by omega)), ← Nat.pow_add]
    rw [show k + (L + 1) = k + 1 + L by omega]; exact h2
  omega
end Go.Proofs.Yteoikaedpgianaa.Limb
