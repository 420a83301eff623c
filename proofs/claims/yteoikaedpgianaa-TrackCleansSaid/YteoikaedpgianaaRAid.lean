/- Small aids for all walks of this seat: facts kept from the walk, blocks of a world that is written out, arrays of integers in a block. Plain facts on quaternions as four integers. No program in sight. Plain facts on natural numbers written in base 65536. No program in sight. Plain facts on the division of natural numbers written in base 65536. No program in sight. -/
import Derived.WalkKit
import Derived.ProofKit
import Derived.Handy
import Derived.WalkSpells
import Derived.Deep.QuietTactic
import Derived.BigQuiet
import Derived.BigRegion
import Derived.Laws.CopyOwn
import Derived.Lib.SmallJoins
namespace Go.Proofs.Yteoikaedpgianaa
open Go.RowKit

theorem hid {p : Prop} (h : p) : RowKit.Hid p := h

theorem heap_alloc_at (w : World) (o : Obj) (n : Nat) (h : n = w.heap.size) : (w.alloc o).heap[n]? = some o := by
  subst h; show (w.heap.push o)[_]? = _; simp
theorem heap_alloc_past (w : World) (o : Obj) (n : Nat) (x : Obj) (h : w.heap[n]? = some x) : (w.alloc o).heap[n]? = some x := by
  show (w.heap.push o)[_]? = _
  rw [Array.getElem?_push]
  have : n < w.heap.size := (Array.getElem?_eq_some_iff.1 h).1
  rw [if_neg (by omega)]; exact h
theorem heap_below {B : Nat} {w w' : World} {n : Nat} {x : Obj} (hb : Below B w w') (hn : n < B) (h : w.heap[n]? = some x) : w'.heap[n]? = some x := by
  rw [hb.block n hn]; exact h

/-- the cells of a block that holds integers -/
theorem cells_ints {w : World} {b t : Nat} {fr : Nat × Nat} {C : Array Value} (zs : List Int) (h : w.heap[b]? = some (.cells C t fr))
    (hC : C = (zs.map (Value.int .i64)).toArray) (i : Nat) (hi : i < zs.length) : w.cell? ⟨b, 0 + i, none⟩ = some (.int .i64 (zs.getD i 0)) := by
  subst hC
  simp [World.cell?, h, List.getD_eq_getElem?_getD, List.getElem?_eq_getElem hi]
theorem below_drewN {B : Nat} {a w : World} (h : Below B a w) (n : Nat) : Below B a (w.drewN n) := ⟨h.os, h.tape, h.output, h.size, h.block⟩
theorem setRow_new (W : World) (n : Nat) (t : TypeId) (fr : Nat × Nat) (old cells : Array Value) (hn : n = W.heap.size) : (W.alloc (.cells old t fr)).setRow n cells = W.alloc (.cells cells t fr) := by
  subst hn
  cases W with
  | mk heap tape drawn os output =>
    show World.mk ((heap.push (.cells old t fr)).modify heap.size _) tape drawn os output = World.mk (heap.push (.cells cells t fr)) tape drawn os output
    congr 1
    apply Array.ext
    · simp
    · intro i h1 h2
      simp only [Array.getElem_modify, Array.getElem_push]
      by_cases h : i = heap.size
      · subst h; simp
      · have : i < heap.size := by simp at h2; omega
        simp [this]; intro h'; omega
theorem wpList_store_new {P : Program} {ops : Array Oper} {rest : List Oper} {o : Oper} {a : Act} {W : World} {Q : Exit → Act → World → Prop} (hgd : o.guard = none) (ty : TypeId) (x y : Operand) (ho : o.op = .store ty x y)
    {g : Nat} {cells old : Array Value} {t : TypeId} (hx : a.eval x = .pointer (some ⟨g, 0, none⟩)) (hy : a.eval y = .agg cells)
    (hg : g = W.heap.size) {n : Nat} (hi : (P.info? ty).map (·.size) = some n) (hs : cells.size = n)
    (hold : old.size = n) (h1 : cells.toList.all (·.oneCell') = true)
    (h : wpList P ops Q rest (a.put o.dst undef) (W.alloc (.cells cells t))) : wpList P ops Q (o :: rest) a (W.alloc (.cells old t)) :=
  wpList_store_row hgd ty x y ho g cells hx hy t old (heap_alloc_at _ _ _ hg) (by rw [hs]; exact hi) (by rw [hs]; exact hold) (by rw [← Array.all_toList]; exact h1) (by rw [setRow_new _ _ _ _ _ _ hg]; exact h)
/-- the world of a goal under a name of its own -/
theorem gen_world {P : Program} {c : Code} {Q : Exit → Act → World → Prop} {a : Act} {w : World} (h : ∀ W, W = w → c.wp P Q a W) : c.wp P Q a w := h w rfl

theorem wpList_store_at {P : Program} {ops : Array Oper} {rest : List Oper} {o : Oper} {a : Act} {w : World} {Q : Exit → Act → World → Prop} (hgd : o.guard = none) (ty : TypeId) (x y : Operand) (ho : o.op = .store ty x y)
    {g : Nat} {cells old : Array Value} {t : TypeId} (hx : a.eval x = .pointer (some ⟨g, 0, none⟩)) (hy : a.eval y = .agg cells)
    (hg : w.heap[g]? = some (.cells old t (0, 0))) {n : Nat} (hi : (P.info? ty).map (·.size) = some n) (hs : cells.size = n)
    (hold : old.size = n) (h1 : cells.toList.all (·.oneCell') = true)
    (h : wpList P ops Q rest (a.put o.dst undef) (w.setRow g cells)) : wpList P ops Q (o :: rest) a w :=
  wpList_store_row hgd ty x y ho g cells hx hy t old hg (by rw [hs]; exact hi) (by rw [hs]; exact hold) (by rw [← Array.all_toList]; exact h1) h
theorem wpList_load_at {P : Program} {ops : Array Oper} {rest : List Oper} {o : Oper} {a : Act} {w : World} {Q : Exit → Act → World → Prop} (hw : Region.wanted o (yielded ops a.tmps) = true) (ty : TypeId) (x : Operand) (ho : o.op = .load ty x)
    {g : Nat} (hx : a.eval x = .pointer (some ⟨g, 0, none⟩)) {t : TypeId} {cs : Array Value} {fr : Nat × Nat} {d : TypeDesc} (hg : w.heap[g]? = some (.cells cs t fr))
    (hu : P.underlying ty = some d) (hd : (match d with | .struct _ | .array _ _ => true | _ => false) = true) {n : Nat} (hi : (P.info? ty).map (·.size) = some n) (hs : cs.size = n)
    (h : wpList P ops Q rest (a.put o.dst (.agg cs)) w) : wpList P ops Q (o :: rest) a w :=
  BigFrame.wpList_want hw fun _ hK => wp_load_row ty x ho g hx t cs fr d hg hu hd (by rw [hs]; exact hi) (hK _ _ h)
section
variable {P : Program} {fn : Func} {p u v : Tmp} {ty : TypeId} {tmps : Array Value} {w : World} {g : Nat} {t : TypeId} {cs : Array Value} {fr : Nat × Nat} {d : TypeDesc} {n : Nat}
theorem results_at1 (h : fn.results = #[.cell p ty]) (hp : tmps.getD p undef = .pointer (some ⟨g, 0, none⟩)) (hg : w.heap[g]? = some (.cells cs t fr))
    (hu : P.underlying ty = some d) (hd : (match d with | .struct _ | .array _ _ => true | _ => false) = true) (hi : (P.info? ty).map (·.size) = some n) (hs : cs.size = n) :
    (results fn tmps).run P w = .ok (.agg cs) w := results_cell_row h tmps w g t cs fr d hp hg hu hd (by rw [hs]; exact hi)
theorem results_at2 (h : fn.results = #[.cell p ty, .tmp u]) (hp : tmps.getD p undef = .pointer (some ⟨g, 0, none⟩)) (hg : w.heap[g]? = some (.cells cs t fr))
    (hu : P.underlying ty = some d) (hd : (match d with | .struct _ | .array _ _ => true | _ => false) = true) (hi : (P.info? ty).map (·.size) = some n) (hs : cs.size = n) :
    (results fn tmps).run P w = .ok (.tuple #[.agg cs, tmps.getD u undef]) w := by
  have hp' : tmps[p]?.getD undef = .pointer (some ⟨g, 0, none⟩) := by simpa using hp
  simp [results, h, hp', asAddr, run_loadVar_row w g t ty cs fr d hg hu hd (by rw [hs]; exact hi)]
theorem results_at3 (h : fn.results = #[.cell p ty, .tmp u, .tmp v]) (hp : tmps.getD p undef = .pointer (some ⟨g, 0, none⟩)) (hg : w.heap[g]? = some (.cells cs t fr))
    (hu : P.underlying ty = some d) (hd : (match d with | .struct _ | .array _ _ => true | _ => false) = true) (hi : (P.info? ty).map (·.size) = some n) (hs : cs.size = n) :
    (results fn tmps).run P w = .ok (.tuple #[.agg cs, tmps.getD u undef, tmps.getD v undef]) w := by
  have hp' : tmps[p]?.getD undef = .pointer (some ⟨g, 0, none⟩) := by simpa using hp
  simp [results, h, hp', asAddr, run_loadVar_row w g t ty cs fr d hg hu hd (by rw [hs]; exact hi)]
end
theorem heap_still {w w' : World} {n : Nat} {x : Obj} (hb : Below w.heap.size w w') (h : w.heap[n]? = some x) : w'.heap[n]? = some x :=
  heap_below hb (Array.getElem?_eq_some_iff.1 h).1 h
/-- the frame of a goal under a name of its own -/
theorem gen_act {P : Program} {c : Code} {Q : Exit → Act → World → Prop} {a : Act} {w : World} (h : ∀ A, A = a → c.wp P Q A w) : c.wp P Q a w := h a rfl
end Go.Proofs.Yteoikaedpgianaa
namespace Go.Proofs.Yteoikaedpgianaa.Quat
def k0 (w x y z : Int) : Int := -2 * (x*z + w*y)
def k1 (w x y z : Int) : Int := 2 * (w*x - y*z)
def k2 (w x y z : Int) : Int := x*x + y*y - w*w - z*z
def nn (w x y z : Int) : Int := w*w + x*x + y*y + z*z

theorem mul_bd {a b l m : Int} (ha : -l ≤ a ∧ a ≤ l) (hb : -m ≤ b ∧ b ≤ m) : -(l * m) ≤ a * b ∧ a * b ≤ l * m := by
  have h1 : 0 ≤ (l - a) * (m - b) := Int.mul_nonneg (by omega) (by omega)
  have h2 : 0 ≤ (l + a) * (m + b) := Int.mul_nonneg (by omega) (by omega)
  have h3 : 0 ≤ (l - a) * (m + b) := Int.mul_nonneg (by omega) (by omega)
  have h4 : 0 ≤ (l + a) * (m - b) := Int.mul_nonneg (by omega) (by omega)
  grind

end Go.Proofs.Yteoikaedpgianaa.Quat
namespace Go.Proofs.Yteoikaedpgianaa.Limb

def val : List Nat → Nat
  | [] => 0
  | x :: l => x + 65536 * val l

def natL (n : Nat) : List Nat := if h : n = 0 then [] else n % 65536 :: natL (n / 65536)
  termination_by n
  decreasing_by omega

theorem natL_zero : natL 0 = [] := by unfold natL; simp
theorem natL_pos {n : Nat} (h : n ≠ 0) : natL n = n % 65536 :: natL (n / 65536) := by rw [natL]; simp [h]

theorem val_natL (n : Nat) : val (natL n) = n := by
  induction n using Nat.strongRecOn with
  | _ n ih =>
    by_cases h : n = 0
    · subst h; rw [natL_zero]; rfl
    · rw [natL_pos h]; simp only [val]; rw [ih _ (by omega)]; omega

theorem natL_lt (n : Nat) : ∀ x ∈ natL n, x < 65536 := by
  induction n using Nat.strongRecOn with
  | _ n ih =>
    by_cases h : n = 0
    · subst h; rw [natL_zero]; simp
    · rw [natL_pos h]
      intro x hx
      rcases List.mem_cons.1 hx with rfl | hx
      · omega
      · exact ih _ (by omega) x hx

theorem val_append (a b : List Nat) : val (a ++ b) = val a + 65536 ^ a.length * val b := by
  induction a with
  | nil => simp [val]
  | cons x a ih => simp only [List.cons_append, val, ih, List.length_cons, Nat.pow_succ]; rw [Nat.mul_add, ← Nat.mul_assoc, Nat.mul_comm 65536 (65536 ^ a.length)]; omega

theorem val_lt {l : List Nat} (h : ∀ x ∈ l, x < 65536) : val l < 65536 ^ l.length := by
  induction l with
  | nil => simp [val]
  | cons x l ih =>
    have h1 := h x (by simp)
    have h2 := ih (fun y hy => h y (by simp [hy]))
    simp only [val, List.length_cons, Nat.pow_succ]
    have : 65536 * val l + 65536 ≤ 65536 ^ l.length * 65536 := by
      have : val l + 1 ≤ 65536 ^ l.length := h2
      have := Nat.mul_le_mul_right 65536 this
      omega
    omega

/-- no most significant zero, all limbs below the base -/
def Good (l : List Nat) : Prop := (∀ x ∈ l, x < 65536) ∧ l.getLast? ≠ some 0

theorem natL_of_good : ∀ {l : List Nat}, Good l → natL (val l) = l
  | [], _ => natL_zero
  | x :: l, h => by
    have hx := h.1 x (by simp)
    have hl : Good l := by
      refine ⟨fun y hy => h.1 y (by simp [hy]), ?_⟩
      cases l with
      | nil => simp
      | cons y l => have := h.2; rw [List.getLast?_cons_cons] at this; exact this
    have ih := natL_of_good hl
    have hne : val (x :: l) ≠ 0 := by
      intro h0
      simp only [val] at h0
      have hx0 : x = 0 := by omega
      have hv0 : val l = 0 := by omega
      rw [hv0, natL_zero] at ih
      subst ih; subst hx0
      exact h.2 rfl
    rw [natL_pos hne]
    simp only [val]
    rw [show (x + 65536 * val l) % 65536 = x by omega, show (x + 65536 * val l) / 65536 = val l by omega, ih]

theorem natL_eq_nil {n : Nat} : natL n = [] ↔ n = 0 := by
  constructor
  · intro h; rw [← val_natL n, h]; rfl
  · rintro rfl; exact natL_zero

theorem natL_length_le {n k : Nat} : (natL n).length ≤ k ↔ n < 65536 ^ k := by
  induction k generalizing n with
  | zero =>
    simp [natL_eq_nil]
  | succ k ih =>
    by_cases h : n = 0
    · subst h; rw [natL_zero]; simp; exact Nat.pow_pos (by omega)
    · rw [natL_pos h, List.length_cons, Nat.pow_succ]
      have := ih (n := n / 65536)
      rw [Nat.add_le_add_iff_right, this, Nat.div_lt_iff_lt_mul (by omega)]

theorem natL_length_mono {m n : Nat} (h : m ≤ n) : (natL m).length ≤ (natL n).length := by
  rw [natL_length_le]
  exact Nat.lt_of_le_of_lt h (natL_length_le.1 (Nat.le_refl _))

theorem lt_of_length {m n : Nat} (h : (natL m).length < (natL n).length) : m < n := by
  rcases Nat.lt_or_ge m n with h1 | h1
  · exact h1
  · have := natL_length_mono h1; omega

theorem natL_getElem? (n i : Nat) (h : i < (natL n).length) : (natL n)[i]? = some (n / 65536 ^ i % 65536) := by
  induction i generalizing n with
  | zero =>
    by_cases h0 : n = 0
    · subst h0; rw [natL_zero] at h; simp at h
    · rw [natL_pos h0]; simp
  | succ i ih =>
    by_cases h0 : n = 0
    · subst h0; rw [natL_zero] at h; simp at h
    · rw [natL_pos h0] at h ⊢
      rw [List.getElem?_cons_succ, ih _ (by simpa using h), Nat.div_div_eq_div_mul, Nat.pow_succ, Nat.mul_comm]

theorem natL_digit_high (n i : Nat) (h : (natL n).length ≤ i) : n / 65536 ^ i = 0 := by
  rw [natL_length_le] at h
  exact Nat.div_eq_of_lt h

theorem natL_getD (n i : Nat) : (natL n).getD i 0 = n / 65536 ^ i % 65536 := by
  by_cases h : i < (natL n).length
  · rw [List.getD_eq_getElem?_getD, natL_getElem? n i h]; rfl
  · rw [List.getD_eq_getElem?_getD, List.getElem?_eq_none (by omega), natL_digit_high n i (by omega)]; rfl

theorem mod_pow_succ (n i : Nat) : n % 65536 ^ (i + 1) = n % 65536 ^ i + 65536 ^ i * (n / 65536 ^ i % 65536) := by
  rw [Nat.pow_succ, Nat.mod_mul]

end Go.Proofs.Yteoikaedpgianaa.Limb
namespace Go.Proofs.Yteoikaedpgianaa.Limb
theorem val_replicate_zero (k : Nat) : val (List.replicate k 0) = 0 := by
  induction k with
  | zero => rfl
  | succ k ih => simp [List.replicate_succ, val, ih]

/-- what a loop that strikes zeros at the end arrives at -/
theorem take_trim {l : List Nat} (hl : ∀ x ∈ l, x < 65536) {n : Nat} (hn : n ≤ l.length) (hz : ∀ i, n ≤ i → i < l.length → l.getD i 0 = 0)
    (he : n = 0 ∨ l.getD (n - 1) 0 ≠ 0) : l.take n = natL (val l) := by
  have hd : l.drop n = List.replicate (l.length - n) 0 := by
    apply List.ext_getElem
    · simp
    · intro i h1 h2
      simp at h1
      have := hz (n + i) (by omega) (by omega)
      rw [List.getD_eq_getElem?_getD, List.getElem?_eq_getElem (by omega)] at this
      simpa using this
  have hv : val l = val (l.take n) := by
    conv => lhs; rw [← List.take_append_drop n l]
    rw [val_append, hd, val_replicate_zero]; simp
  rw [hv]
  symm
  apply natL_of_good
  refine ⟨fun x hx => hl x (List.mem_of_mem_take hx), ?_⟩
  rcases he with rfl | he
  · simp
  · intro h0
    by_cases hn0 : n = 0
    · subst hn0; simp at h0
    · rw [List.getLast?_eq_getElem?] at h0
      have hlen : (l.take n).length = n := by simp; omega
      rw [hlen, List.getElem?_take] at h0
      rw [if_pos (by omega)] at h0
      apply he
      rw [List.getD_eq_getElem?_getD, h0]; rfl

theorem val_snoc (l : List Nat) (x : Nat) : val (l ++ [x]) = val l + 65536 ^ l.length * x := by
  rw [val_append]; simp [val]

/-- plus: one round -/
theorem plus_step {m n i c : Nat} {o : List Nat} (hi : o.length = i) (h : val o + c * 65536 ^ i = m % 65536 ^ i + n % 65536 ^ i)
    {s : Nat} (hs : s = c + m / 65536 ^ i % 65536 + n / 65536 ^ i % 65536) :
    val (o ++ [s % 65536]) + s / 65536 * 65536 ^ (i + 1) = m % 65536 ^ (i + 1) + n % 65536 ^ (i + 1) := by
  rw [val_snoc, hi, mod_pow_succ m, mod_pow_succ n, Nat.pow_succ]
  have e : s / 65536 * (65536 ^ i * 65536) + 65536 ^ i * (s % 65536) = 65536 ^ i * s := by
    rw [← Nat.mul_assoc, Nat.mul_comm (s / 65536), Nat.mul_assoc, ← Nat.mul_add]
    congr 1; omega
  have e2 : 65536 ^ i * s = 65536 ^ i * c + 65536 ^ i * (m / 65536 ^ i % 65536) + 65536 ^ i * (n / 65536 ^ i % 65536) := by
    rw [hs, Nat.mul_add, Nat.mul_add]
  rw [Nat.mul_comm c] at h
  omega

theorem plus_end {m n i : Nat} {o : List Nat} (h : val o + 0 * 65536 ^ i = m % 65536 ^ i + n % 65536 ^ i)
    (hm : (natL m).length ≤ i) (hn : (natL n).length ≤ i) : val o = m + n := by
  rw [natL_length_le] at hm hn
  rw [Nat.mod_eq_of_lt hm, Nat.mod_eq_of_lt hn] at h
  omega

/-- less: one round; b is the borrow -/
theorem less_step {m n i b : Nat} {o : List Nat} (hi : o.length = i) (h : val o + n % 65536 ^ i = m % 65536 ^ i + b * 65536 ^ i)
    {s b' : Nat} (hs : s + b + n / 65536 ^ i % 65536 = m / 65536 ^ i % 65536 + b' * 65536) :
    val (o ++ [s]) + n % 65536 ^ (i + 1) = m % 65536 ^ (i + 1) + b' * 65536 ^ (i + 1) := by
  rw [val_snoc, hi, mod_pow_succ m, mod_pow_succ n, Nat.pow_succ]
  have e := congrArg (fun t => 65536 ^ i * t) hs
  simp only [Nat.mul_add] at e
  rw [show b' * (65536 ^ i * 65536) = 65536 ^ i * (b' * 65536) by rw [← Nat.mul_assoc, Nat.mul_comm b', Nat.mul_assoc]]
  rw [Nat.mul_comm b] at h
  omega

theorem less_end {m n b : Nat} {o : List Nat} (hmn : n ≤ m) (h : val o + n % 65536 ^ (natL m).length = m % 65536 ^ (natL m).length + b * 65536 ^ (natL m).length)
    (ho : val o < 65536 ^ (natL m).length) : val o = m - n := by
  have hm : m < 65536 ^ (natL m).length := natL_length_le.1 (Nat.le_refl _)
  rw [Nat.mod_eq_of_lt hm, Nat.mod_eq_of_lt (Nat.lt_of_le_of_lt hmn hm)] at h
  have hb : b = 0 := by
    rcases Nat.eq_zero_or_pos b with hb | hb
    · exact hb
    · have : 65536 ^ (natL m).length ≤ b * 65536 ^ (natL m).length := Nat.le_mul_of_pos_left _ hb
      omega
  subst hb; omega

/-- compare: from the top, where all higher digits agree -/
theorem cmp_top {m n i : Nat} (h : m / 65536 ^ (i + 1) = n / 65536 ^ (i + 1)) (hlt : m / 65536 ^ i % 65536 < n / 65536 ^ i % 65536) : m < n := by
  have e : ∀ t, t / 65536 ^ (i + 1) = t / 65536 ^ i / 65536 := fun t => by rw [Nat.pow_succ, Nat.div_div_eq_div_mul]
  rw [e, e] at h
  have : m / 65536 ^ i < n / 65536 ^ i := by omega
  rcases Nat.lt_or_ge m n with h1 | h1
  · exact h1
  · have := Nat.div_le_div_right (c := 65536 ^ i) h1; omega

theorem cmp_next {m n i : Nat} (h : m / 65536 ^ (i + 1) = n / 65536 ^ (i + 1)) (he : m / 65536 ^ i % 65536 = n / 65536 ^ i % 65536) :
    m / 65536 ^ i = n / 65536 ^ i := by
  have e : ∀ t, t / 65536 ^ (i + 1) = t / 65536 ^ i / 65536 := fun t => by rw [Nat.pow_succ, Nat.div_div_eq_div_mul]
  rw [e, e] at h
  omega
end Go.Proofs.Yteoikaedpgianaa.Limb
namespace Go.Proofs.Yteoikaedpgianaa.Limb
theorem val_set {l : List Nat} {k : Nat} (hk : k < l.length) (x : Nat) : val (l.set k x) + 65536 ^ k * l.getD k 0 = val l + 65536 ^ k * x := by
  induction l generalizing k with
  | nil => simp at hk
  | cons y l ih =>
    cases k with
    | zero => simp [val]; omega
    | succ k =>
      have := ih (k := k) (by simpa using hk)
      simp only [List.set_cons_succ, val, Nat.pow_succ, List.getD_cons_succ]
      rw [Nat.mul_comm (65536 ^ k) 65536, Nat.mul_assoc, Nat.mul_assoc]
      omega

theorem mul_step {m n i j c : Nat} {o : List Nat} {x : Nat} (hij : i + j < o.length)
    (h : val o + c * 65536 ^ (i + j) = m + x * (65536 ^ i * (n % 65536 ^ j)))
    {s : Nat} (hs : s = x * (n / 65536 ^ j % 65536) + o.getD (i + j) 0 + c) :
    val (o.set (i + j) (s % 65536)) + s / 65536 * 65536 ^ (i + (j + 1)) = m + x * (65536 ^ i * (n % 65536 ^ (j + 1))) := by
  have h1 := val_set hij (s % 65536)
  rw [mod_pow_succ n j, Nat.mul_add, Nat.mul_add]
  have e : s / 65536 * 65536 ^ (i + (j + 1)) + 65536 ^ (i + j) * (s % 65536) = 65536 ^ (i + j) * s := by
    rw [← Nat.add_assoc, Nat.pow_succ, ← Nat.mul_assoc, Nat.mul_comm (s / 65536), Nat.mul_assoc, ← Nat.mul_add]
    congr 1; omega
  have e2 : 65536 ^ (i + j) * s = x * (65536 ^ i * (65536 ^ j * (n / 65536 ^ j % 65536))) + 65536 ^ (i + j) * o.getD (i + j) 0 + 65536 ^ (i + j) * c := by
    rw [hs, Nat.mul_add, Nat.mul_add]
    congr 2
    rw [Nat.pow_add]
    simp only [Nat.mul_left_comm, Nat.mul_comm]
  rw [Nat.mul_comm c] at h
  omega

theorem mul_last {m n i c : Nat} {o : List Nat} {lb : Nat} (hlb : (natL n).length = lb) (hij : i + lb < o.length) (hz : o.getD (i + lb) 0 = 0)
    (h : val o + c * 65536 ^ (i + lb) = m % 65536 ^ i * n + (m / 65536 ^ i % 65536) * (65536 ^ i * (n % 65536 ^ lb))) :
    val (o.set (i + lb) c) = m % 65536 ^ (i + 1) * n := by
  have h1 := val_set hij c
  rw [hz] at h1
  have hn : n % 65536 ^ lb = n := Nat.mod_eq_of_lt (natL_length_le.1 (by omega))
  rw [hn] at h
  rw [mod_pow_succ m i, Nat.add_mul, Nat.mul_comm (65536 ^ i) (m / 65536 ^ i % 65536), Nat.mul_assoc]
  rw [Nat.mul_comm c] at h
  omega

/-- one step of a division from the top -/
theorem div_step {U V R i : Nat} {q : List Nat} (hi : i < q.length) (hz : q.getD i 0 = 0)
    (h : val q * V + R * 65536 ^ (i + 1) + U % 65536 ^ (i + 1) = U) {s : Nat} (hs : s = R * 65536 + U / 65536 ^ i % 65536) :
    val (q.set i (s / V)) * V + s % V * 65536 ^ i + U % 65536 ^ i = U := by
  have h1 := val_set hi (s / V)
  rw [hz, Nat.mul_zero, Nat.add_zero] at h1
  rw [h1, Nat.add_mul]
  rw [mod_pow_succ U i, Nat.pow_succ] at h
  have e : 65536 ^ i * (s / V) * V + s % V * 65536 ^ i = 65536 ^ i * s := by
    rw [Nat.mul_assoc, Nat.mul_comm (s % V), ← Nat.mul_add]
    congr 1
    rw [Nat.mul_comm]; exact Nat.div_add_mod s V
  have e2 : 65536 ^ i * s = R * (65536 ^ i * 65536) + 65536 ^ i * (U / 65536 ^ i % 65536) := by
    rw [hs, Nat.mul_add]
    congr 1
    rw [Nat.mul_comm, Nat.mul_assoc, Nat.mul_comm 65536]
  omega

theorem div_end {U V R : Nat} {q : List Nat} (hR : R < V) (h : val q * V + R * 65536 ^ 0 + U % 65536 ^ 0 = U) : val q = U / V ∧ R = U % V := by
  simp only [Nat.pow_zero, Nat.mul_one, Nat.mod_one, Nat.add_zero] at h
  have : U = R + V * val q := by rw [Nat.mul_comm]; omega
  constructor
  · rw [this, Nat.add_mul_div_left _ _ (by omega), Nat.div_eq_of_lt hR]; omega
  · rw [this, Nat.add_mul_mod_self_left, Nat.mod_eq_of_lt hR]

theorem rest_lt {R V d : Nat} (hR : R < V) (hd : d < 65536) : R * 65536 + d < 65536 * V := by omega

theorem guess_ge {s V k : Nat} (hk : 65536 ^ k ≤ V) : s / V ≤ s / 65536 ^ k / (V / 65536 ^ k) := by
  have hp : 0 < 65536 ^ k := Nat.pow_pos (by omega)
  have hv : 0 < V / 65536 ^ k := Nat.div_pos hk hp
  rw [Nat.le_div_iff_mul_le hv, Nat.le_div_iff_mul_le hp]
  have h1 : V / 65536 ^ k * 65536 ^ k ≤ V := Nat.div_mul_le_self V _
  calc s / V * (V / 65536 ^ k) * 65536 ^ k = s / V * (V / 65536 ^ k * 65536 ^ k) := Nat.mul_assoc _ _ _
    _ ≤ s / V * V := Nat.mul_le_mul_left _ h1
    _ ≤ s := Nat.div_mul_le_self s V

theorem guess_le {s V : Nat} (hV : 0 < V) (h : s < 65536 * V) : s / V ≤ 65535 := by
  have : s / V < 65536 := by rw [Nat.div_lt_iff_lt_mul hV]; exact h
  omega

theorem guess_zero {s V : Nat} (h : (natL s).length < (natL V).length) : s / V = 0 := Nat.div_eq_of_lt (lt_of_length h)

theorem guess_stop {s V g : Nat} (hg : s / V ≤ g) (hV : 0 < V) (h : V * g ≤ s) : g = s / V := by
  have : g ≤ s / V := by rw [Nat.le_div_iff_mul_le hV, Nat.mul_comm]; exact h
  omega

theorem guess_next {s V g : Nat} (hV : 0 < V) (h : s < V * g) : s / V ≤ g - 1 ∧ 1 ≤ g := by
  have : s / V < g := by rw [Nat.div_lt_iff_lt_mul hV, Nat.mul_comm]; exact h
  exact ⟨Nat.le_sub_one_of_lt this, Nat.lt_of_le_of_lt (Nat.zero_le _) this⟩

theorem length_pos {n : Nat} (h : 0 < n) : 1 ≤ (natL n).length := by
  rcases Nat.eq_zero_or_pos (natL n).length with h0 | h0
  · rw [List.length_eq_zero_iff, natL_eq_nil] at h0; omega
  · exact h0

theorem pow_le_of_length {n k : Nat} (h : (natL n).length = k + 1) : 65536 ^ k ≤ n := by
  rcases Nat.lt_or_ge n (65536 ^ k) with h1 | h1
  · rw [← natL_length_le] at h1; omega
  · exact h1

theorem top_one {s k : Nat} (h : (natL s).length = k + 1) : s / 65536 ^ k % 65536 = s / 65536 ^ k := by
  apply Nat.mod_eq_of_lt
  rw [Nat.div_lt_iff_lt_mul (Nat.pow_pos (by omega)), Nat.mul_comm, ← Nat.pow_succ]
  exact natL_length_le.1 (by omega)

theorem top_two {s k : Nat} (h : (natL s).length = k + 2) : s / 65536 ^ (k + 1) % 65536 * 65536 + s / 65536 ^ k % 65536 = s / 65536 ^ k := by
  rw [top_one h, Nat.pow_succ, ← Nat.div_div_eq_div_mul]
  omega

theorem top_pos {n k : Nat} (h : (natL n).length = k + 1) : 1 ≤ n / 65536 ^ k :=
  Nat.div_pos (pow_le_of_length h) (Nat.pow_pos (by omega))

theorem norm_pos {n k : Nat} (h : (natL n).length = k + 1) : 1 ≤ 65536 / (n / 65536 ^ k + 1) := by
  have h1 := top_one h
  have : n / 65536 ^ k < 65536 := by omega
  exact Nat.div_pos (by omega) (by omega)

theorem scaled_div {a b f : Nat} (hf : 1 ≤ f) : a * f / (b * f) = a / b := Nat.mul_div_mul_right _ _ (by omega)
theorem scaled_mod {a b f : Nat} : a * f % (b * f) = a % b * f := Nat.mul_mod_mul_right f a b
theorem unscaled {r f : Nat} (hf : 1 ≤ f) : r * f / f = r := Nat.mul_div_cancel _ (by omega)

theorem natL_single {x : Nat} (h0 : x ≠ 0) (h : x < 65536) : natL x = [x] := by
  rw [natL_pos h0, show x / 65536 = 0 by omega, natL_zero, show x % 65536 = x by omega]

theorem drop_natL (n k : Nat) : (natL n).drop k = natL (n / 65536 ^ k) := by
  induction k generalizing n with
  | zero => simp
  | succ k ih =>
    by_cases h : n = 0
    · subst h; simp [natL_zero]
    · rw [natL_pos h, List.drop_succ_cons, ih, Nat.div_div_eq_div_mul, Nat.pow_succ, Nat.mul_comm]
theorem rest_start {U V k L : Nat} (h : (natL V).length = k + 1) (hU : (natL U).length ≤ k + 1 + L) : U / 65536 ^ (L + 1) < V := by
  have h1 := pow_le_of_length h
  have h2 : U < 65536 ^ (k + 1 + L) := natL_length_le.1 hU
  have : U / 65536 ^ (L + 1) < 65536 ^ k := by
    rw [Nat.div_lt_iff_lt_mul (Nat.pow_pos (by omega)), ← Nat.pow_add]
    rw [show k + (L + 1) = k + 1 + L by omega]; exact h2
  omega
end Go.Proofs.Yteoikaedpgianaa.Limb
