/- The cleaner of fixes in plain Lean: what is kept, put aside and noted. The reference's cleaning of fixes in plain Lean, beside the program's. Plain law: lists sorted by a key and stable: one such list for each list; what the library's merge by rotations makes. Plain law: the library's merge by rotations: its parts, and the blocks of the stable sort. Plain law: the parts of equal length of a list, for the stable sort by blocks. -/
namespace Go.Proofs.Yteoikaedpgianaa

/-- two ascending lists of the same elements are the same -/
theorem perm_up {α : Type} {r : α → α → Prop} (anti : ∀ a b, r a b → r b a → a = b) : ∀ {x y : List α}, x.Perm y → x.Pairwise r → y.Pairwise r → x = y
  | [], y, h, _, _ => (h.nil_eq)
  | a :: x, [], h, _, _ => by simpa using h.length_eq
  | a :: x, b :: y, h, hx, hy => by
    have hab : a = b := by
      by_cases e : a = b
      · exact e
      · have h1 : a ∈ y := by
          have : a ∈ b :: y := h.subset (List.mem_cons_self ..)
          rcases List.mem_cons.1 this with h2 | h2
          · exact absurd h2 e
          · exact h2
        have h2 : b ∈ x := by
          have : b ∈ a :: x := h.symm.subset (List.mem_cons_self ..)
          rcases List.mem_cons.1 this with h2 | h2
          · exact absurd h2.symm e
          · exact h2
        exact anti a b ((List.pairwise_cons.1 hx).1 b h2) ((List.pairwise_cons.1 hy).1 a h1)
    subst hab
    rw [perm_up anti h.cons_inv (List.pairwise_cons.1 hx).2 (List.pairwise_cons.1 hy).2]

section
variable {α : Type} (t : α → Int) (near : α → α → Bool)
def offsG (R : List α) : List (Int × Int) := R.map fun f => (2, t f)
def keepG (K : List α) (f : α) : Bool := match K.getLast? with | none => true | some x => near x f
def jumpG (R : List α) : Bool := match R.drop (R.length - 3) with | [a, b, c] => near a b && near b c | _ => false
/-- what a fix makes of what is kept, put aside and noted -/
def takeG (s : List α × List α × List (Int × Int)) (f : α) : List α × List α × List (Int × Int) :=
  if keepG near s.1 f = true then (s.1 ++ [f], [], s.2.2 ++ offsG t s.2.1)
  else if jumpG near (s.2.1 ++ [f]) = true then (s.1 ++ (s.2.1 ++ [f]).drop (s.2.1.length - 2), [], s.2.2 ++ offsG t ((s.2.1 ++ [f]).take (s.2.1.length - 2)) ++ ((s.2.1 ++ [f]).drop (s.2.1.length - 2)).head?.toList.map (fun p => (3, t p)))
  else (s.1, s.2.1 ++ [f], s.2.2)
/-- a neighbour has the same time -/
def twiceG (L : List α) (i : Nat) : Bool := (decide (0 < i) && decide (L[i - 1]?.map t = L[i]?.map t)) || (decide (i + 1 < L.length) && decide (L[i + 1]?.map t = L[i]?.map t))
def stepG (L : List α) (s : List α × List α × List (Int × Int)) (i : Nat) : List α × List α × List (Int × Int) :=
  match L[i]? with
  | none => s
  | some f => if twiceG t L i = true then (s.1, s.2.1, s.2.2 ++ [(1, t f)]) else takeG t near s f
def runG (L : List α) : Nat → List α × List α × List (Int × Int)
  | 0 => ([], [], [])
  | m + 1 => stepG t near L (runG L m) m
def timesUp (L : List α) : Prop := L.Pairwise fun a b => t a ≤ t b
variable {t near}
theorem up_at {L : List α} (h : timesUp t L) {i j : Nat} {a b : α} (hij : i ≤ j) (ha : L[i]? = some a) (hb : L[j]? = some b) : t a ≤ t b := by
  obtain ⟨hi, rfl⟩ := List.getElem?_eq_some_iff.1 ha
  obtain ⟨hj, rfl⟩ := List.getElem?_eq_some_iff.1 hb
  rcases Nat.lt_or_eq_of_le hij with h1 | h1
  · exact List.pairwise_iff_getElem.1 h i j hi hj h1
  · subst h1; exact Int.le_refl _
theorem times_same {L M : List α} (h : L.Perm M) (hL : timesUp t L) (hM : timesUp t M) : L.map t = M.map t :=
  perm_up (r := fun a b : Int => a ≤ b) (fun _ _ h1 h2 => Int.le_antisymm h1 h2) (h.map t) (List.pairwise_map.2 hL) (List.pairwise_map.2 hM)
theorem twice_of {L : List α} {i j : Nat} {f : α} (hL : timesUp t L) (hi : (L[i]?).map t = some (t f)) (hj : L[j]? = some f) (hij : j ≠ i) : twiceG t L i = true := by
  obtain ⟨g, hg, hgt⟩ := Option.map_eq_some_iff.1 hi
  have hil := (List.getElem?_eq_some_iff.1 hg).1
  have hjl := (List.getElem?_eq_some_iff.1 hj).1
  unfold twiceG
  rcases Nat.lt_or_gt_of_ne hij with h | h
  · obtain ⟨b, hb⟩ : ∃ b, L[i - 1]? = some b := ⟨_, List.getElem?_eq_getElem (by omega)⟩
    have h1 := up_at hL (by omega : j ≤ i - 1) hj hb
    have h2 := up_at hL (by omega : i - 1 ≤ i) hb hg
    have e : t b = t g := by omega
    rw [hb, hg, Option.map_some, Option.map_some, e]
    simp; left; omega
  · obtain ⟨b, hb⟩ : ∃ b, L[i + 1]? = some b := ⟨_, List.getElem?_eq_getElem (by omega)⟩
    have h1 := up_at hL (by omega : i + 1 ≤ j) hb hj
    have h2 := up_at hL (by omega : i ≤ i + 1) hg hb
    have e : t b = t g := by omega
    rw [hb, hg, Option.map_some, Option.map_some, e]
    simp; right; omega
theorem twice_same {L M : List α} (h : L.map t = M.map t) (i : Nat) : twiceG t L i = twiceG t M i := by
  have hl : L.length = M.length := by have := congrArg List.length h; simpa using this
  have he : ∀ j, L[j]?.map t = M[j]?.map t := fun j => by rw [← List.getElem?_map, ← List.getElem?_map, h]
  unfold twiceG
  rw [he, he, he, hl]
theorem step_same {L M : List α} (h : L.Perm M) (hL : timesUp t L) (hM : timesUp t M) (s : List α × List α × List (Int × Int)) (i : Nat) : stepG t near L s i = stepG t near M s i := by
  have hT := times_same h hL hM
  have he : L[i]?.map t = M[i]?.map t := by rw [← List.getElem?_map, ← List.getElem?_map, hT]
  unfold stepG
  cases ha : L[i]? with
  | none =>
    rw [ha] at he
    cases hb : M[i]? with
    | none => rfl
    | some g => rw [hb] at he; cases he
  | some f =>
    rw [ha] at he
    cases hb : M[i]? with
    | none => rw [hb] at he; cases he
    | some g =>
      rw [hb] at he
      have e : t f = t g := by injection he
      simp only [twice_same hT i, e]
      split
      · rfl
      · rename_i hn
        have hf : f ∈ M := h.subset (List.mem_of_getElem? ha)
        obtain ⟨j, hj⟩ := List.getElem?_of_mem hf
        by_cases hij : j = i
        · subst hij; rw [hb] at hj; injection hj with hj; rw [hj]
        · exact absurd (twice_of hM (by rw [hb, Option.map_some, e]) hj hij) hn
/-- the order of fixes of the same time does not matter -/
theorem run_same {L M : List α} (h : L.Perm M) (hL : timesUp t L) (hM : timesUp t M) : ∀ m, runG t near L m = runG t near M m
  | 0 => rfl
  | m + 1 => by rw [runG, runG, run_same h hL hM m, step_same h hL hM]

/-- the fixes whose neighbours have other times -/
def soleG (t : α → Int) (L : List α) : Nat → List α
  | 0 => []
  | m + 1 => soleG t L m ++ (if twiceG t L m = true then [] else L[m]?.toList)
theorem sole_mem {L : List α} : ∀ {m : Nat} {g : α}, g ∈ soleG t L m → ∃ j, j < m ∧ L[j]? = some g
  | 0, g, h => by simp [soleG] at h
  | m + 1, g, h => by
    rw [soleG, List.mem_append] at h
    rcases h with h | h
    · obtain ⟨j, h1, h2⟩ := sole_mem h
      exact ⟨j, by omega, h2⟩
    · split at h
      · simp at h
      · exact ⟨m, by omega, by simpa using h⟩
theorem sole_up {L : List α} (hL : timesUp t L) : ∀ m, (soleG t L m).Pairwise fun a b => t a < t b
  | 0 => List.Pairwise.nil
  | m + 1 => by
    rw [soleG, List.pairwise_append]
    refine ⟨sole_up hL m, ?_, ?_⟩
    · split
      · exact List.Pairwise.nil
      · cases L[m]? <;> simp
    · intro a ha b hb
      split at hb
      · simp at hb
      · rename_i hn
        have hb : L[m]? = some b := by simpa using hb
        obtain ⟨j, hj, haj⟩ := sole_mem ha
        have h1 := up_at hL (by omega : j ≤ m) haj hb
        rcases Int.lt_or_eq_of_le h1 with h2 | h2
        · exact h2
        · exact absurd (twice_of hL (by rw [hb, Option.map_some, h2]) haj (by omega)) hn
theorem take_sub (s : List α × List α × List (Int × Int)) (f : α) : ((takeG t near s f).1 ++ (takeG t near s f).2.1).Sublist (s.1 ++ s.2.1 ++ [f]) := by
  unfold takeG
  split
  · simp only [List.append_nil]
    rw [List.append_assoc]
    exact (List.Sublist.refl _).append (List.sublist_append_right _ _)
  · split
    · simp only [List.append_nil]
      rw [List.append_assoc]
      exact (List.Sublist.refl _).append (List.drop_sublist _ _)
    · simp
theorem run_sub (L : List α) : ∀ m, ((runG t near L m).1 ++ (runG t near L m).2.1).Sublist (soleG t L m)
  | 0 => by simp [runG, soleG]
  | m + 1 => by
    rw [runG, soleG, stepG]
    cases h : L[m]? with
    | none => simpa using run_sub L m
    | some f =>
      simp only
      split
      · simpa using run_sub L m
      · simp only [Option.toList_some]
        exact (take_sub _ f).trans ((run_sub L m).append (List.Sublist.refl _))
theorem kept_up {L : List α} (hL : timesUp t L) (m : Nat) : (runG t near L m).1.Pairwise fun a b => t a < t b :=
  (sole_up hL m).sublist ((List.sublist_append_left _ _).trans (run_sub L m))
theorem kept_mem {L : List α} {m : Nat} {g : α} (h : g ∈ (runG t near L m).1) : g ∈ L := by
  obtain ⟨j, _, hj⟩ := sole_mem (((List.sublist_append_left _ _).trans (run_sub L m)).subset h)
  exact List.mem_of_getElem? hj
theorem row_mem {L : List α} {m : Nat} {g : α} (h : g ∈ (runG t near L m).2.1) : g ∈ L := by
  obtain ⟨j, _, hj⟩ := sole_mem (((List.sublist_append_right _ _).trans (run_sub L m)).subset h)
  exact List.mem_of_getElem? hj
/-- neighbours are near each other -/
def chainG (near : α → α → Bool) (K : List α) : Prop := ∀ (i : Nat) (a b : α), K[i]? = some a → K[i + 1]? = some b → near a b = true
theorem chain_snoc {K : List α} {f : α} (h : chainG near K) (hk : keepG near K f = true) : chainG near (K ++ [f]) := fun i a b ha hb => by
  have hl := (List.getElem?_eq_some_iff.1 hb).1
  rw [List.length_append, List.length_singleton] at hl
  rw [List.getElem?_append_left (by omega)] at ha
  by_cases h1 : i + 1 < K.length
  · rw [List.getElem?_append_left h1] at hb
    exact h i a b ha hb
  · have e : i + 1 = K.length := by omega
    rw [e, List.getElem?_append_right (Nat.le_refl _), Nat.sub_self] at hb
    have hb : f = b := by simpa using hb
    subst hb
    unfold keepG at hk
    rw [List.getLast?_eq_getElem?, show K.length - 1 = i by omega, ha] at hk
    exact hk
theorem run_chain (L : List α) : ∀ m, (∀ x ∈ (runG t near L m).2.2, x.1 ≠ 3) → chainG near (runG t near L m).1
  | 0, _ => fun i a b ha _ => by simp [runG] at ha
  | m + 1, h => by
    have ih := run_chain L m
    rw [runG] at h ⊢
    generalize runG t near L m = s at h ih ⊢
    unfold stepG at h ⊢
    cases hf : L[m]? with
    | none => rw [hf] at h; exact ih h
    | some f =>
      rw [hf] at h
      simp only at h ⊢
      split at h
      · rename_i hw
        rw [if_pos hw]
        exact ih fun x hx => h x (List.mem_append_left _ hx)
      · rename_i hw
        rw [if_neg hw]
        unfold takeG at h ⊢
        split at h
        · rename_i hk
          rw [if_pos hk]
          exact chain_snoc (ih fun x hx => h x (List.mem_append_left _ hx)) hk
        · rename_i hk
          rw [if_neg hk]
          split at h
          · rename_i hj
            exfalso
            obtain ⟨p, hp⟩ : ∃ p, ((s.2.1 ++ [f]).drop (s.2.1.length - 2)).head? = some p := by
              rw [List.head?_drop]
              exact ⟨_, List.getElem?_eq_getElem (by simp; omega)⟩
            refine h (3, t p) ?_ rfl
            rw [hp]
            simp
          · rename_i hj
            rw [if_neg hj]
            exact ih h
theorem twice_none {K : List α} (h : K.Pairwise fun a b => t a < t b) {i : Nat} (hi : i < K.length) : twiceG t K i = false := by
  have h2 := List.pairwise_iff_getElem.1 h
  unfold twiceG
  simp only [Bool.or_eq_false_iff, Bool.and_eq_false_iff, decide_eq_false_iff_not]
  constructor
  · by_cases h0 : 0 < i
    · right
      rw [List.getElem?_eq_getElem hi, List.getElem?_eq_getElem (by omega), Option.map_some, Option.map_some]
      intro e
      injection e with e
      have := h2 (i - 1) i (by omega) hi (by omega)
      omega
    · exact .inl h0
  · by_cases h0 : i + 1 < K.length
    · right
      rw [List.getElem?_eq_getElem hi, List.getElem?_eq_getElem h0, Option.map_some, Option.map_some]
      intro e
      injection e with e
      have := h2 i (i + 1) hi h0 (by omega)
      omega
    · exact .inl h0
/-- what is near one another is kept -/
theorem run_again {K : List α} (h : K.Pairwise fun a b => t a < t b) (hc : chainG near K) : ∀ m, m ≤ K.length → runG t near K m = (K.take m, [], [])
  | 0, _ => by simp [runG]
  | m + 1, hm => by
    rw [runG, run_again h hc m (by omega), stepG, List.getElem?_eq_getElem (by omega)]
    simp only
    rw [twice_none h (by omega), if_neg (by decide)]
    unfold takeG
    have hk : keepG near (K.take m) K[m] = true := by
      unfold keepG
      rw [List.getLast?_eq_getElem?]
      rw [List.length_take, Nat.min_eq_left (by omega)]
      by_cases h0 : m = 0
      · subst h0; simp
      · rw [List.getElem?_take_of_lt (by omega), List.getElem?_eq_getElem (by omega)]
        exact hc (m - 1) _ _ (List.getElem?_eq_getElem (by omega)) (by rw [show m - 1 + 1 = m by omega]; exact List.getElem?_eq_getElem (by omega))
    rw [if_pos hk]
    rw [List.take_succ_eq_append_getElem (show m < K.length by omega)]
    rfl
/-- the number of what is kept, put aside and noted -/
theorem take_small (s : List α × List α × List (Int × Int)) (f : α) : (takeG t near s f).1.length + (takeG t near s f).2.1.length + (takeG t near s f).2.2.length ≤ s.1.length + s.2.1.length + s.2.2.length + 2 := by
  unfold takeG
  split
  · simp [offsG]; omega
  · split
    · have h1 : ((s.2.1 ++ [f]).drop (s.2.1.length - 2)).head?.toList.length ≤ 1 := by cases ((s.2.1 ++ [f]).drop (s.2.1.length - 2)).head? <;> simp
      simp only [List.length_append, List.length_map, offsG, List.length_take, List.length_drop, List.length_nil, List.length_singleton]
      omega
    · simp; omega
theorem run_small (L : List α) : ∀ m, (runG t near L m).1.length + (runG t near L m).2.1.length + (runG t near L m).2.2.length ≤ 2 * m
  | 0 => by simp [runG]
  | m + 1 => by
    have ih := run_small L m
    rw [runG]
    generalize runG t near L m = s at ih ⊢
    unfold stepG
    split
    · omega
    · rename_i f _
      split
      · simp; omega
      · have := take_small (t := t) (near := near) s f
        omega
/-- issues in the order of their times, and of their kinds -/
def issUp (I : List (Int × Int)) : Prop := I.Pairwise fun a b => a.2 < b.2 ∨ a.2 = b.2 ∧ a.1 ≤ b.1
theorem issUp_one {I J : List (Int × Int)} (h : I.Perm J) (hI : issUp I) (hJ : issUp J) : I = J :=
  perm_up (fun a b h1 h2 => by
    obtain ⟨a1, a2⟩ := a
    obtain ⟨b1, b2⟩ := b
    simp only at h1 h2
    have e1 : a1 = b1 := by omega
    have e2 : a2 = b2 := by omega
    rw [e1, e2]) h hI hJ
/-- f goes behind the last part -/
def snocG : List (List α) → α → List (List α)
  | [], f => [[f]]
  | [p], f => [p ++ [f]]
  | p :: q :: r, f => p :: snocG (q :: r) f
/-- a new part begins at place i -/
def cutG (t : α → Int) (near : α → α → Bool) (gap : Int) (K : List α) (i : Nat) : Bool := decide (i = 0) || (match K[i - 1]?, K[i]? with | some a, some b => decide (gap < t b - t a) || !near a b | _, _ => true)
def partsG (t : α → Int) (near : α → α → Bool) (gap : Int) (K : List α) : Nat → List (List α)
  | 0 => []
  | m + 1 => match K[m]? with
    | none => partsG t near gap K m
    | some f => if cutG t near gap K m = true then partsG t near gap K m ++ [[f]] else snocG (partsG t near gap K m) f
theorem snoc_app (P : List (List α)) (p : List α) (f : α) : snocG (P ++ [p]) f = P ++ [p ++ [f]] := by
  induction P with
  | nil => rfl
  | cons q P ih =>
    cases P with
    | nil => rfl
    | cons q2 P => show q :: snocG (q2 :: P ++ [p]) f = _; rw [ih]; rfl
/-- the parts of the first m: those that are closed, and the last one -/
theorem parts_last {gap : Int} {K : List α} : ∀ m, 0 < m → m ≤ K.length → ∃ (P : List (List α)) (p : List α) (x : α), partsG t near gap K m = P ++ [p ++ [x]] ∧ K[m - 1]? = some x
  | 0, h, _ => absurd h (by omega)
  | m + 1, _, hm => by
    rw [partsG, List.getElem?_eq_getElem (by omega)]
    simp only
    split
    · exact ⟨_, [], _, rfl, by simp⟩
    · rename_i hc
      by_cases h0 : m = 0
      · subst h0; simp [cutG] at hc
      · obtain ⟨P, p, x, h1, _⟩ := parts_last (gap := gap) (K := K) m (by omega) (by omega)
        exact ⟨P, p ++ [x], _, by rw [h1, snoc_app], by simp⟩
theorem parts_flat {gap : Int} {K : List α} : ∀ m, m ≤ K.length → (partsG t near gap K m).flatten = K.take m
  | 0, _ => by simp [partsG]
  | m + 1, hm => by
    have ih := parts_flat (gap := gap) (K := K) m (by omega)
    rw [partsG, List.getElem?_eq_getElem (by omega), List.take_succ_eq_append_getElem (by omega)]
    simp only
    split
    · simp [ih]
    · rename_i hc
      by_cases h0 : m = 0
      · subst h0; simp [cutG] at hc
      · obtain ⟨P, p, x, h1, _⟩ := parts_last (t := t) (near := near) (gap := gap) (K := K) m (by omega) (by omega)
        rw [h1, snoc_app]
        rw [h1] at ih
        rw [← ih]
        simp
theorem parts_full {gap : Int} {K : List α} : ∀ m, ∀ p ∈ partsG t near gap K m, p ≠ []
  | 0, p, h => by simp [partsG] at h
  | m + 1, p, h => by
    rw [partsG] at h
    split at h
    · exact parts_full m p h
    · split at h
      · rcases List.mem_append.1 h with h | h
        · exact parts_full m p h
        · simp at h; simp [h]
      · rename_i f hf hc
        by_cases h0 : m = 0
        · subst h0; simp [cutG] at hc
        · obtain ⟨P, q, x, h1, _⟩ := parts_last (t := t) (near := near) (gap := gap) (K := K) m (by omega) (by have := (List.getElem?_eq_some_iff.1 hf).1; omega)
          have ih := parts_full (gap := gap) (K := K) m
          rw [h1] at ih h
          rw [snoc_app] at h
          rcases List.mem_append.1 h with h | h
          · exact ih p (List.mem_append_left _ h)
          · simp at h; simp [h]
/-- neighbours within a part -/
def bondG (t : α → Int) (near : α → α → Bool) (gap : Int) (p : List α) : Prop := ∀ (i : Nat) (a b : α), p[i]? = some a → p[i + 1]? = some b → t b - t a ≤ gap ∧ near a b = true
theorem bond_snoc {gap : Int} {p : List α} {x f : α} (h : bondG t near gap (p ++ [x])) (h1 : t f - t x ≤ gap) (h2 : near x f = true) : bondG t near gap (p ++ [x] ++ [f]) := fun i a b ha hb => by
  have hl := (List.getElem?_eq_some_iff.1 hb).1
  simp only [List.length_append, List.length_singleton] at hl
  by_cases h3 : i + 1 < (p ++ [x]).length
  · rw [List.getElem?_append_left h3] at hb
    rw [List.getElem?_append_left (by omega)] at ha
    exact h i a b ha hb
  · simp only [List.length_append, List.length_singleton] at h3
    have e : i = p.length := by omega
    subst e
    have ha : x = a := by simpa using ha
    have hb : f = b := by simpa [List.getElem?_append] using hb
    subst ha hb
    exact ⟨h1, h2⟩
theorem parts_bond {gap : Int} {K : List α} : ∀ m, ∀ p ∈ partsG t near gap K m, bondG t near gap p
  | 0, p, h => by simp [partsG] at h
  | m + 1, p, h => by
    rw [partsG] at h
    split at h
    · exact parts_bond m p h
    · split at h
      · rcases List.mem_append.1 h with h | h
        · exact parts_bond m p h
        · have h : p = _ := List.mem_singleton.1 h
          subst h
          intro i a b ha hb
          have := (List.getElem?_eq_some_iff.1 hb).1
          simp at this
      · rename_i f hf hc
        have hml := (List.getElem?_eq_some_iff.1 hf).1
        by_cases h0 : m = 0
        · subst h0; simp [cutG] at hc
        · obtain ⟨P, q, x, h1, hx⟩ := parts_last (t := t) (near := near) (gap := gap) (K := K) m (by omega) (by omega)
          have ih := parts_bond (gap := gap) (K := K) m
          rw [h1] at ih h
          rw [snoc_app] at h
          rcases List.mem_append.1 h with h | h
          · exact ih p (List.mem_append_left _ h)
          · have h : p = _ := List.mem_singleton.1 h
            subst h
            unfold cutG at hc
            rw [hx, hf] at hc
            simp [h0] at hc
            exact bond_snoc (ih _ (by simp)) hc.1 hc.2
end
end Go.Proofs.Yteoikaedpgianaa
namespace Go.Proofs.Yteoikaedpgianaa
section
variable {α : Type} (t : α → Int) (near : α → α → Bool)
variable {t near}
theorem three_of {β : Type} {l : List β} (h : 3 ≤ l.length) : ∃ a b c, l.drop (l.length - 3) = [a, b, c] := by
  have hl : (l.drop (l.length - 3)).length = 3 := by rw [List.length_drop]; omega
  generalize l.drop (l.length - 3) = d at hl
  match d, hl with
  | [a, b, c], _ => exact ⟨a, b, c, rfl⟩
end
end Go.Proofs.Yteoikaedpgianaa
namespace Go.Proofs.Yteoikaedpgianaa
section
variable {α : Type} (key : α → Int)

/-- the elements of a key, in their order -/
def ofKey (k : Int) (l : List α) : List α := l.filter fun x => key x == k
/-- y has the elements of x, those of one key in the same order -/
def Same (x y : List α) : Prop := ∀ k, ofKey key k y = ofKey key k x
/-- sorted by the key -/
def Up (l : List α) : Prop := l.Pairwise fun a b => key a ≤ key b
/-- y is x, sorted and stable -/
def Stab (x y : List α) : Prop := Up key y ∧ Same key x y
variable {key}
theorem ofKey_append (k : Int) (x y : List α) : ofKey key k (x ++ y) = ofKey key k x ++ ofKey key k y := List.filter_append ..
theorem Same.refl (x : List α) : Same key x x := fun _ => rfl
theorem Same.trans {x y z : List α} (h : Same key x y) (g : Same key y z) : Same key x z := fun k => (g k).trans (h k)
theorem Same.append {x y u v : List α} (h : Same key x y) (g : Same key u v) : Same key (x ++ u) (y ++ v) := fun k => by rw [ofKey_append, ofKey_append, h k, g k]
theorem mem_ofKey {k : Int} {l : List α} {x : α} : x ∈ ofKey key k l ↔ x ∈ l ∧ key x = k := by simp [ofKey]
theorem Same.mem {x y : List α} (h : Same key x y) (a : α) : a ∈ y ↔ a ∈ x := by
  have := h (key a)
  constructor
  · intro ha
    have : a ∈ ofKey key (key a) y := mem_ofKey.2 ⟨ha, rfl⟩
    rw [h] at this
    exact (mem_ofKey.1 this).1
  · intro ha
    have : a ∈ ofKey key (key a) x := mem_ofKey.2 ⟨ha, rfl⟩
    rw [← h] at this
    exact (mem_ofKey.1 this).1
theorem Same.nil {y : List α} (h : Same key [] y) : y = [] := by
  match y with
  | [] => rfl
  | a :: _ => exact absurd ((h.mem a).1 (by simp)) (by simp)
/-- two parts without a common key may change places -/
theorem same_swap {x y : List α} (h : ∀ a ∈ x, ∀ b ∈ y, key a ≠ key b) : Same key (x ++ y) (y ++ x) := fun k => by
  rw [ofKey_append, ofKey_append]
  by_cases hx : ofKey key k x = []
  · rw [hx]; simp
  · have hy : ofKey key k y = [] := by
      cases hh : ofKey key k y with
      | nil => rfl
      | cons b t =>
        have hb := mem_ofKey.1 (hh ▸ List.mem_cons_self : b ∈ ofKey key k y)
        cases hg : ofKey key k x with
        | nil => exact absurd hg hx
        | cons a s =>
          have ha := mem_ofKey.1 (hg ▸ List.mem_cons_self : a ∈ ofKey key k x)
          exact absurd (ha.2.trans hb.2.symm) (h a ha.1 b hb.1)
    rw [hy]; simp
theorem up_append {x y : List α} : Up key (x ++ y) ↔ Up key x ∧ Up key y ∧ ∀ a ∈ x, ∀ b ∈ y, key a ≤ key b := List.pairwise_append
/-- the merge's step: the parts x2 and y1 have changed places, each side is merged by itself -/
theorem stab_merge {x1 x2 y1 y2 z1 z2 : List α} (h1 : Stab key (x1 ++ y1) z1) (h2 : Stab key (x2 ++ y2) z2) (hs : ∀ a ∈ x2, ∀ b ∈ y1, key b < key a) (hl : ∀ a ∈ x1 ++ y1, ∀ b ∈ x2 ++ y2, key a ≤ key b) :
    Stab key (x1 ++ x2 ++ (y1 ++ y2)) (z1 ++ z2) := by
  refine ⟨up_append.2 ⟨h1.1, h2.1, fun a ha b hb => hl a ((h1.2.mem a).1 ha) b ((h2.2.mem b).1 hb)⟩, ?_⟩
  have e : Same key (x1 ++ x2 ++ (y1 ++ y2)) (x1 ++ y1 ++ (x2 ++ y2)) := by
    have := (Same.refl (key := key) x1).append ((same_swap (x := x2) (y := y1) (fun a ha b hb => by have := hs a ha b hb; omega)).append (Same.refl (key := key) y2))
    simpa [List.append_assoc] using this
  exact e.trans (h1.2.append h2.2)
/-- one element into a sorted list from the left -/
theorem stab_left {x : α} {y1 y2 : List α} (h : Up key (y1 ++ y2)) (h1 : ∀ b ∈ y1, key b < key x) (h2 : ∀ b ∈ y2, key x ≤ key b) : Stab key ([x] ++ (y1 ++ y2)) (y1 ++ ([x] ++ y2)) := by
  obtain ⟨u1, u2, u3⟩ := up_append.1 h
  refine ⟨up_append.2 ⟨u1, List.pairwise_cons.2 ⟨h2, u2⟩, fun a ha b hb => ?_⟩, ?_⟩
  · rcases List.mem_append.1 hb with g | g
    · rw [List.mem_singleton.1 g]; have := h1 a ha; omega
    · exact u3 a ha b g
  · have := (same_swap (key := key) (x := [x]) (y := y1) (fun a ha b hb => by rw [List.mem_singleton.1 ha]; have := h1 b hb; omega)).append (Same.refl (key := key) y2)
    simpa [List.append_assoc] using this
/-- one element into a sorted list from the right -/
theorem stab_right {y : α} {x1 x2 : List α} (h : Up key (x1 ++ x2)) (h1 : ∀ a ∈ x1, key a ≤ key y) (h2 : ∀ a ∈ x2, key y < key a) : Stab key ((x1 ++ x2) ++ [y]) (x1 ++ ([y] ++ x2)) := by
  obtain ⟨u1, u2, u3⟩ := up_append.1 h
  refine ⟨up_append.2 ⟨u1, List.pairwise_cons.2 ⟨fun b hb => by have := h2 b hb; omega, u2⟩, fun a ha b hb => ?_⟩, ?_⟩
  · rcases List.mem_append.1 hb with g | g
    · rw [List.mem_singleton.1 g]; exact h1 a ha
    · exact u3 a ha b g
  · have := (Same.refl (key := key) x1).append (same_swap (key := key) (x := x2) (y := [y]) (fun a ha b hb => by rw [List.mem_singleton.1 hb]; have := h2 a ha; omega))
    simpa [List.append_assoc] using this
end
end Go.Proofs.Yteoikaedpgianaa
namespace Go.Proofs.Yteoikaedpgianaa
section
variable {α : Type} {key : α → Int}
theorem up_last {l : List α} {v : α} (h : Up key l) (hv : l.getLast? = some v) : ∀ w ∈ l, key w ≤ key v := by
  rcases List.eq_nil_or_concat l with rfl | ⟨t, u, rfl⟩
  · simp at hv
  · rw [List.concat_eq_append] at h hv ⊢
    rw [List.getLast?_append] at hv
    simp at hv
    subst hv
    intro w hw
    rcases List.mem_append.1 hw with g | g
    · exact (up_append.1 h).2.2 w g u (by simp)
    · rw [List.mem_singleton.1 g]; exact Int.le_refl _
theorem up_head {l : List α} {v : α} (h : Up key l) (hv : l.head? = some v) : ∀ w ∈ l, key v ≤ key w := by
  match l with
  | [] => simp at hv
  | u :: t =>
    simp at hv
    subst hv
    intro w hw
    rcases List.mem_cons.1 hw with rfl | g
    · exact Int.le_refl _
    · exact (List.pairwise_cons.1 h).1 w g
/-- one element to the left of a sorted list, placed by its neighbours -/
theorem left_near {x : α} {y1 y2 : List α} (h : Up key (y1 ++ y2)) (h1 : ∀ v, y1.getLast? = some v → key v < key x) (h2 : ∀ v, y2.head? = some v → key x ≤ key v) : Stab key ([x] ++ (y1 ++ y2)) (y1 ++ ([x] ++ y2)) := by
  obtain ⟨u1, u2, _⟩ := up_append.1 h
  refine stab_left h (fun b hb => ?_) (fun b hb => ?_)
  · cases g : y1.getLast? with
    | none => rw [List.getLast?_eq_none_iff.1 g] at hb; simp at hb
    | some v => have := up_last u1 g b hb; have := h1 v g; omega
  · cases g : y2.head? with
    | none => rw [List.head?_eq_none_iff.1 g] at hb; simp at hb
    | some v => have := up_head u2 g b hb; have := h2 v g; omega
/-- one element to the right of a sorted list, placed by its neighbours -/
theorem right_near {y : α} {x1 x2 : List α} (h : Up key (x1 ++ x2)) (h1 : ∀ v, x1.getLast? = some v → key v ≤ key y) (h2 : ∀ v, x2.head? = some v → key y < key v) : Stab key ((x1 ++ x2) ++ [y]) (x1 ++ ([y] ++ x2)) := by
  obtain ⟨u1, u2, _⟩ := up_append.1 h
  refine stab_right h (fun b hb => ?_) (fun b hb => ?_)
  · cases g : x1.getLast? with
    | none => rw [List.getLast?_eq_none_iff.1 g] at hb; simp at hb
    | some v => have := up_last u1 g b hb; have := h1 v g; omega
  · cases g : x2.head? with
    | none => rw [List.head?_eq_none_iff.1 g] at hb; simp at hb
    | some v => have := up_head u2 g b hb; have := h2 v g; omega
/-- the merge's step, by the neighbours of the two cuts -/
theorem merge_near {x1 x2 y1 y2 z1 z2 : List α} (hx : Up key (x1 ++ x2)) (hy : Up key (y1 ++ y2)) (h1 : Stab key (x1 ++ y1) z1) (h2 : Stab key (x2 ++ y2) z2)
    (ha : ∀ u v, x2.head? = some u → y1.getLast? = some v → key v < key u) (hb : ∀ u v, x1.getLast? = some u → y2.head? = some v → key u ≤ key v) :
    Stab key (x1 ++ x2 ++ (y1 ++ y2)) (z1 ++ z2) := by
  obtain ⟨ux1, ux2, ux⟩ := up_append.1 hx
  obtain ⟨uy1, uy2, uy⟩ := up_append.1 hy
  have hs : ∀ a ∈ x2, ∀ b ∈ y1, key b < key a := fun a hA b hB => by
    cases g : x2.head? with
    | none => rw [List.head?_eq_none_iff.1 g] at hA; simp at hA
    | some u =>
      cases g' : y1.getLast? with
      | none => rw [List.getLast?_eq_none_iff.1 g'] at hB; simp at hB
      | some v => have := ha u v g g'; have := up_head ux2 g a hA; have := up_last uy1 g' b hB; omega
  refine stab_merge h1 h2 hs (fun a hA b hB => ?_)
  rcases List.mem_append.1 hA with gA | gA <;> rcases List.mem_append.1 hB with gB | gB
  · exact ux a gA b gB
  · cases g : x1.getLast? with
    | none => rw [List.getLast?_eq_none_iff.1 g] at gA; simp at gA
    | some u =>
      cases g' : y2.head? with
      | none => rw [List.head?_eq_none_iff.1 g'] at gB; simp at gB
      | some v => have := hb u v g g'; have := up_last ux1 g a gA; have := up_head uy2 g' b gB; omega
  · have := hs b gB a gA; omega
  · exact uy a gA b gB
theorem stab_self {x : List α} (h : Up key x) : Stab key x x := ⟨h, Same.refl x⟩
theorem Same.length {x y : List α} (h : Same key x y) : y.length = x.length := by
  induction x generalizing y with
  | nil => rw [h.nil]
  | cons a x ih =>
    have ha : a ∈ y := (h.mem a).2 (by simp)
    -- take out the first element of a's key
    obtain ⟨u, v, hy, hu⟩ : ∃ u v, y = u ++ a :: v ∧ ofKey key (key a) u = [] := by
      have h0 := h (key a)
      have e1 : ofKey key (key a) (a :: x) = a :: ofKey key (key a) x := by simp [ofKey]
      rw [e1] at h0
      clear e1 ih ha
      have : ∀ y : List α, ∀ t, ofKey key (key a) y = a :: t → ∃ u v, y = u ++ a :: v ∧ ofKey key (key a) u = [] := by
        intro y
        induction y with
        | nil => intro t ht; cases ht
        | cons b y ih =>
          intro t ht
          by_cases g : key b = key a
          · have : ofKey key (key a) (b :: y) = b :: ofKey key (key a) y := by simp [ofKey, g]
            rw [this] at ht
            injection ht with h1 h2
            subst h1
            exact ⟨[], y, rfl, rfl⟩
          · have e : ofKey key (key a) (b :: y) = ofKey key (key a) y := by simp [ofKey, g]
            rw [e] at ht
            obtain ⟨u, v, hy, hu⟩ := ih t ht
            exact ⟨b :: u, v, by rw [hy]; rfl, by simp [ofKey, g]; simpa [ofKey] using hu⟩
      exact this y _ h0
    have hs : Same key x (u ++ v) := by
      intro k
      have h0 := h k
      rw [hy] at h0
      rw [ofKey_append] at h0 ⊢
      by_cases g : key a = k
      · subst g
        rw [hu] at h0 ⊢
        have e1 : ofKey key (key a) (a :: x) = a :: ofKey key (key a) x := by simp [ofKey]
        have e2 : ofKey key (key a) (a :: v) = a :: ofKey key (key a) v := by simp [ofKey]
        rw [e1, e2] at h0
        simpa using h0
      · have e1 : ofKey key k (a :: x) = ofKey key k x := by simp [ofKey, g]
        have e2 : ofKey key k (a :: v) = ofKey key k v := by simp [ofKey, g]
        rw [e1, e2] at h0
        exact h0
    have := ih hs
    rw [hy]
    simp at this ⊢
    omega
end
end Go.Proofs.Yteoikaedpgianaa
namespace Go.Proofs.Yteoikaedpgianaa
section
variable {α : Type} {key : α → Int}
/-- part i of length c -/
def chunk (l : List α) (i c : Nat) : List α := (l.drop (i * c)).take c
/-- each part is sorted -/
def Chunks (key : α → Int) (l : List α) (c : Nat) : Prop := ∀ i, Up key (chunk l i c)
/-- the first k parts are sorted -/
def ChunksTo (key : α → Int) (l : List α) (c k : Nat) : Prop := ∀ i, i < k → Up key (chunk l i c)
theorem up_nil : Up key ([] : List α) := List.Pairwise.nil
theorem chunk_left {Z z : List α} {i c k : Nat} (hZ : Z.length = k * c) (hi : i < k) : chunk (Z ++ z) i c = chunk Z i c := by
  have h : (i + 1) * c ≤ k * c := Nat.mul_le_mul_right c hi
  rw [Nat.add_mul, Nat.one_mul] at h
  unfold chunk
  rw [List.drop_append_of_le_length (by omega), List.take_append_of_le_length (by rw [List.length_drop]; omega)]
theorem chunk_at {Z z s : List α} {k c : Nat} (hZ : Z.length = k * c) (hz : z.length = c) : chunk (Z ++ (z ++ s)) k c = z := by
  unfold chunk
  rw [← hZ, List.drop_left, ← hz, List.take_left]
theorem chunk_last {Z z : List α} {k c : Nat} (hZ : Z.length = k * c) (hz : z.length ≤ c) : chunk (Z ++ z) k c = z := by
  unfold chunk
  rw [← hZ, List.drop_left, List.take_of_length_le hz]
theorem chunk_past {Z z : List α} {i k c : Nat} (hZ : Z.length = k * c) (hz : z.length ≤ c) (hi : k < i) : chunk (Z ++ z) i c = [] := by
  have h : (k + 1) * c ≤ i * c := Nat.mul_le_mul_right c hi
  rw [Nat.add_mul, Nat.one_mul] at h
  unfold chunk
  rw [List.drop_of_length_le (by rw [List.length_append]; omega), List.take_nil]
theorem ChunksTo.more {Z z : List α} {c k : Nat} (h : ChunksTo key Z c k) (hZ : Z.length = k * c) (hz : z.length = c) (hu : Up key z) : ChunksTo key (Z ++ z) c (k + 1) := fun i hi => by
  rcases Nat.lt_or_ge i k with g | g
  · rw [chunk_left hZ g]; exact h i g
  · obtain rfl : i = k := by omega
    have := chunk_at (s := []) hZ hz
    rw [List.append_nil] at this
    rw [this]; exact hu
theorem ChunksTo.all {Z z : List α} {c k : Nat} (h : ChunksTo key Z c k) (hZ : Z.length = k * c) (hz : z.length ≤ c) (hu : Up key z) : Chunks key (Z ++ z) c := fun i => by
  rcases Nat.lt_trichotomy i k with g | rfl | g
  · rw [chunk_left hZ g]; exact h i g
  · rw [chunk_last hZ hz]; exact hu
  · rw [chunk_past hZ hz g]; exact up_nil
theorem Chunks.whole {l : List α} {c : Nat} (h : Chunks key l c) (hc : l.length ≤ c) : Up key l := by
  have := h 0
  unfold chunk at this
  rwa [Nat.zero_mul, List.drop_zero, List.take_of_length_le hc] at this
/-- the first two parts of a list, and the rest -/
theorem Chunks.two {R : List α} {c : Nat} (h : Chunks key R c) (hc : c + c ≤ R.length) : ∃ u v R', R = u ++ (v ++ R') ∧ u.length = c ∧ v.length = c ∧ Up key u ∧ Up key v ∧ Chunks key R' c := by
  refine ⟨R.take c, (R.drop c).take c, R.drop (c + c), ?_, by rw [List.length_take]; omega, by rw [List.length_take, List.length_drop]; omega, ?_, ?_, fun i => ?_⟩
  · rw [← List.drop_drop, List.take_append_drop, List.take_append_drop]
  · have := h 0
    unfold chunk at this
    rwa [Nat.zero_mul, List.drop_zero] at this
  · have := h 1
    unfold chunk at this
    rwa [Nat.one_mul] at this
  · have := h (i + 2)
    unfold chunk at this ⊢
    rw [List.drop_drop]
    rwa [show (i + 2) * c = c + c + i * c by rw [Nat.add_mul]; omega] at this
/-- the first part of a list, and the rest that is no longer than a part -/
theorem Chunks.rest {R : List α} {c : Nat} (h : Chunks key R c) (h1 : c < R.length) (h2 : R.length < c + c) : ∃ u v, R = u ++ v ∧ u.length = c ∧ 0 < v.length ∧ Up key u ∧ Up key v := by
  refine ⟨R.take c, R.drop c, (List.take_append_drop _ _).symm, by rw [List.length_take]; omega, by rw [List.length_drop]; omega, ?_, ?_⟩
  · have := h 0
    unfold chunk at this
    rwa [Nat.zero_mul, List.drop_zero] at this
  · have := h 1
    unfold chunk at this
    rwa [Nat.one_mul, List.take_of_length_le (by rw [List.length_drop]; omega)] at this
end
end Go.Proofs.Yteoikaedpgianaa
