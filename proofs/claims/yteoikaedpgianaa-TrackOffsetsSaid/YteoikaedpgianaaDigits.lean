/- Plain facts on natural numbers written in base 65536. No program in sight. -/
namespace Go.Proofs.Yteoikaedpgianaa.Limb

def val : List Nat → Nat
  | [] => 0
  | x :: l => x + 65536 * val l

def natL (n : Nat) : List Nat := if h : n = 0 then [] else n % 65536 :: natL (n / 65536)
  termination_by n
  decreasing_by omega

theorem natL_zero : natL 0 = [] := by unfold natL; simp
theorem natL_pos {n : Nat} (h : n ≠ 0) : natL n = n % 65536 :: natL (n / 65536) := by rw [natL]; simp [h]

theorem val_natL (n : Nat) : val (natL n) = n := by
  induction n using Nat.strongRecOn with
  | _ n ih =>
    by_cases h : n = 0
    · subst h; rw [natL_zero]; rfl
    · rw [natL_pos h]; simp only [val]; rw [ih _ (by omega)]; omega

theorem natL_lt (n : Nat) : ∀ x ∈ natL n, x < 65536 := by
  induction n using Nat.strongRecOn with
  | _ n ih =>
    by_cases h : n = 0
    · subst h; rw [natL_zero]; simp
    · rw [natL_pos h]
      intro x hx
      rcases List.mem_cons.1 hx with rfl | hx
      · omega
      · exact ih _ (by omega) x hx

theorem natL_inj {m n : Nat} (h : natL m = natL n) : m = n := by rw [← val_natL m, h, val_natL]

theorem val_append (a b : List Nat) : val (a ++ b) = val a + 65536 ^ a.length * val b := by
  induction a with
  | nil => simp [val]
  | cons x a ih => simp only [List.cons_append, val, ih, List.length_cons, Nat.pow_succ]; rw [Nat.mul_add, ← Nat.mul_assoc, Nat.mul_comm 65536 (65536 ^ a.length)]; omega

theorem val_lt {l : List Nat} (h : ∀ x ∈ l, x < 65536) : val l < 65536 ^ l.length := by
  induction l with
  | nil => simp [val]
  | cons x l ih =>
    have h1 := h x (by simp)
    have h2 := ih (fun y hy => h y (by simp [hy]))
    simp only [val, List.length_cons, Nat.pow_succ]
    have : 65536 * val l + 65536 ≤ 65536 ^ l.length * 65536 := by
      have : val l + 1 ≤ 65536 ^ l.length := h2
      have := Nat.mul_le_mul_right 65536 this
      omega
    omega

/-- no most significant zero, all limbs below the base -/
def Good (l : List Nat) : Prop := (∀ x ∈ l, x < 65536) ∧ l.getLast? ≠ some 0

theorem good_natL (n : Nat) : Good (natL n) := by
  refine ⟨natL_lt n, ?_⟩
  induction n using Nat.strongRecOn with
  | _ n ih =>
    by_cases h : n = 0
    · subst h; rw [natL_zero]; simp
    · rw [natL_pos h]
      by_cases h2 : n / 65536 = 0
      · rw [h2, natL_zero]; simp; omega
      · have := ih (n / 65536) (by omega)
        rw [natL_pos h2] at this ⊢
        rw [List.getLast?_cons_cons]; exact this

theorem natL_of_good : ∀ {l : List Nat}, Good l → natL (val l) = l
  | [], _ => natL_zero
  | x :: l, h => by
    have hx := h.1 x (by simp)
    have hl : Good l := by
      refine ⟨fun y hy => h.1 y (by simp [hy]), ?_⟩
      cases l with
      | nil => simp
      | cons y l => have := h.2; rw [List.getLast?_cons_cons] at this; exact this
    have ih := natL_of_good hl
    have hne : val (x :: l) ≠ 0 := by
      intro h0
      simp only [val] at h0
      have hx0 : x = 0 := by omega
      have hv0 : val l = 0 := by omega
      rw [hv0, natL_zero] at ih
      subst ih; subst hx0
      exact h.2 rfl
    rw [natL_pos hne]
    simp only [val]
    rw [show (x + 65536 * val l) % 65536 = x by omega, show (x + 65536 * val l) / 65536 = val l by omega, ih]

theorem natL_eq_nil {n : Nat} : natL n = [] ↔ n = 0 := by
  constructor
  · intro h; rw [← val_natL n, h]; rfl
  · rintro rfl; exact natL_zero

theorem natL_length_le {n k : Nat} : (natL n).length ≤ k ↔ n < 65536 ^ k := by
  induction k generalizing n with
  | zero =>
    simp [natL_eq_nil]
  | succ k ih =>
    by_cases h : n = 0
    · subst h; rw [natL_zero]; simp; exact Nat.pow_pos (by omega)
    · rw [natL_pos h, List.length_cons, Nat.pow_succ]
      have := ih (n := n / 65536)
      rw [Nat.add_le_add_iff_right, this, Nat.div_lt_iff_lt_mul (by omega)]

theorem natL_length_mono {m n : Nat} (h : m ≤ n) : (natL m).length ≤ (natL n).length := by
  rw [natL_length_le]
  exact Nat.lt_of_le_of_lt h (natL_length_le.1 (Nat.le_refl _))

theorem lt_of_length {m n : Nat} (h : (natL m).length < (natL n).length) : m < n := by
  rcases Nat.lt_or_ge m n with h1 | h1
  · exact h1
  · have := natL_length_mono h1; omega

theorem natL_getElem? (n i : Nat) (h : i < (natL n).length) : (natL n)[i]? = some (n / 65536 ^ i % 65536) := by
  induction i generalizing n with
  | zero =>
    by_cases h0 : n = 0
    · subst h0; rw [natL_zero] at h; simp at h
    · rw [natL_pos h0]; simp
  | succ i ih =>
    by_cases h0 : n = 0
    · subst h0; rw [natL_zero] at h; simp at h
    · rw [natL_pos h0] at h ⊢
      rw [List.getElem?_cons_succ, ih _ (by simpa using h), Nat.div_div_eq_div_mul, Nat.pow_succ, Nat.mul_comm]

theorem natL_digit_high (n i : Nat) (h : (natL n).length ≤ i) : n / 65536 ^ i = 0 := by
  rw [natL_length_le] at h
  exact Nat.div_eq_of_lt h

theorem natL_getD (n i : Nat) : (natL n).getD i 0 = n / 65536 ^ i % 65536 := by
  by_cases h : i < (natL n).length
  · rw [List.getD_eq_getElem?_getD, natL_getElem? n i h]; rfl
  · rw [List.getD_eq_getElem?_getD, List.getElem?_eq_none (by omega), natL_digit_high n i (by omega)]; rfl

/-- strike most significant zeros -/
def trimL (l : List Nat) : List Nat := natL (val l)

theorem mod_pow_succ (n i : Nat) : n % 65536 ^ (i + 1) = n % 65536 ^ i + 65536 ^ i * (n / 65536 ^ i % 65536) := by
  rw [Nat.pow_succ, Nat.mod_mul]

end Go.Proofs.Yteoikaedpgianaa.Limb
namespace Go.Proofs.Yteoikaedpgianaa.Limb
theorem val_replicate_zero (k : Nat) : val (List.replicate k 0) = 0 := by
  induction k with
  | zero => rfl
  | succ k ih => simp [List.replicate_succ, val, ih]

/-- what a loop that strikes zeros at the end arrives at -/
theorem take_trim {l : List Nat} (hl : ∀ x ∈ l, x < 65536) {n : Nat} (hn : n ≤ l.length) (hz : ∀ i, n ≤ i → i < l.length → l.getD i 0 = 0)
    (he : n = 0 ∨ l.getD (n - 1) 0 ≠ 0) : l.take n = natL (val l) := by
  have hd : l.drop n = List.replicate (l.length - n) 0 := by
    apply List.ext_getElem
    · simp
    · intro i h1 h2
      simp at h1
      have := hz (n + i) (by omega) (by omega)
      rw [List.getD_eq_getElem?_getD, List.getElem?_eq_getElem (by omega)] at this
      simpa using this
  have hv : val l = val (l.take n) := by
    conv => lhs; rw [← List.take_append_drop n l]
    rw [val_append, hd, val_replicate_zero]; simp
  rw [hv]
  symm
  apply natL_of_good
  refine ⟨fun x hx => hl x (List.mem_of_mem_take hx), ?_⟩
  rcases he with rfl | he
  · simp
  · intro h0
    by_cases hn0 : n = 0
    · subst hn0; simp at h0
    · rw [List.getLast?_eq_getElem?] at h0
      have hlen : (l.take n).length = n := by simp; omega
      rw [hlen, List.getElem?_take] at h0
      rw [if_pos (by omega)] at h0
      apply he
      rw [List.getD_eq_getElem?_getD, h0]; rfl

theorem val_snoc (l : List Nat) (x : Nat) : val (l ++ [x]) = val l + 65536 ^ l.length * x := by
  rw [val_append]; simp [val]

/-- plus: one round -/
theorem plus_step {m n i c : Nat} {o : List Nat} (hi : o.length = i) (h : val o + c * 65536 ^ i = m % 65536 ^ i + n % 65536 ^ i)
    {s : Nat} (hs : s = c + m / 65536 ^ i % 65536 + n / 65536 ^ i % 65536) :
    val (o ++ [s % 65536]) + s / 65536 * 65536 ^ (i + 1) = m % 65536 ^ (i + 1) + n % 65536 ^ (i + 1) := by
  rw [val_snoc, hi, mod_pow_succ m, mod_pow_succ n, Nat.pow_succ]
  have e : s / 65536 * (65536 ^ i * 65536) + 65536 ^ i * (s % 65536) = 65536 ^ i * s := by
    rw [← Nat.mul_assoc, Nat.mul_comm (s / 65536), Nat.mul_assoc, ← Nat.mul_add]
    congr 1; omega
  have e2 : 65536 ^ i * s = 65536 ^ i * c + 65536 ^ i * (m / 65536 ^ i % 65536) + 65536 ^ i * (n / 65536 ^ i % 65536) := by
    rw [hs, Nat.mul_add, Nat.mul_add]
  rw [Nat.mul_comm c] at h
  omega

theorem plus_end {m n i : Nat} {o : List Nat} (h : val o + 0 * 65536 ^ i = m % 65536 ^ i + n % 65536 ^ i)
    (hm : (natL m).length ≤ i) (hn : (natL n).length ≤ i) : val o = m + n := by
  rw [natL_length_le] at hm hn
  rw [Nat.mod_eq_of_lt hm, Nat.mod_eq_of_lt hn] at h
  omega

/-- less: one round; b is the borrow -/
theorem less_step {m n i b : Nat} {o : List Nat} (hi : o.length = i) (h : val o + n % 65536 ^ i = m % 65536 ^ i + b * 65536 ^ i)
    {s b' : Nat} (hs : s + b + n / 65536 ^ i % 65536 = m / 65536 ^ i % 65536 + b' * 65536) :
    val (o ++ [s]) + n % 65536 ^ (i + 1) = m % 65536 ^ (i + 1) + b' * 65536 ^ (i + 1) := by
  rw [val_snoc, hi, mod_pow_succ m, mod_pow_succ n, Nat.pow_succ]
  have e := congrArg (fun t => 65536 ^ i * t) hs
  simp only [Nat.mul_add] at e
  rw [show b' * (65536 ^ i * 65536) = 65536 ^ i * (b' * 65536) by rw [← Nat.mul_assoc, Nat.mul_comm b', Nat.mul_assoc]]
  rw [Nat.mul_comm b] at h
  omega

theorem less_end {m n b : Nat} {o : List Nat} (hmn : n ≤ m) (h : val o + n % 65536 ^ (natL m).length = m % 65536 ^ (natL m).length + b * 65536 ^ (natL m).length)
    (ho : val o < 65536 ^ (natL m).length) : val o = m - n := by
  have hm : m < 65536 ^ (natL m).length := natL_length_le.1 (Nat.le_refl _)
  rw [Nat.mod_eq_of_lt hm, Nat.mod_eq_of_lt (Nat.lt_of_le_of_lt hmn hm)] at h
  have hb : b = 0 := by
    rcases Nat.eq_zero_or_pos b with hb | hb
    · exact hb
    · have : 65536 ^ (natL m).length ≤ b * 65536 ^ (natL m).length := Nat.le_mul_of_pos_left _ hb
      omega
  subst hb; omega

/-- compare: from the top, where all higher digits agree -/
theorem cmp_top {m n i : Nat} (h : m / 65536 ^ (i + 1) = n / 65536 ^ (i + 1)) (hlt : m / 65536 ^ i % 65536 < n / 65536 ^ i % 65536) : m < n := by
  have e : ∀ t, t / 65536 ^ (i + 1) = t / 65536 ^ i / 65536 := fun t => by rw [Nat.pow_succ, Nat.div_div_eq_div_mul]
  rw [e, e] at h
  have : m / 65536 ^ i < n / 65536 ^ i := by omega
  rcases Nat.lt_or_ge m n with h1 | h1
  · exact h1
  · have := Nat.div_le_div_right (c := 65536 ^ i) h1; omega

theorem cmp_next {m n i : Nat} (h : m / 65536 ^ (i + 1) = n / 65536 ^ (i + 1)) (he : m / 65536 ^ i % 65536 = n / 65536 ^ i % 65536) :
    m / 65536 ^ i = n / 65536 ^ i := by
  have e : ∀ t, t / 65536 ^ (i + 1) = t / 65536 ^ i / 65536 := fun t => by rw [Nat.pow_succ, Nat.div_div_eq_div_mul]
  rw [e, e] at h
  omega
end Go.Proofs.Yteoikaedpgianaa.Limb
