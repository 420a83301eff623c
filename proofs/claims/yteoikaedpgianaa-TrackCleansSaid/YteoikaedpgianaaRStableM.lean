/- The cleaner of fixes in plain Lean: what is kept, put aside and noted. The reference's cleaning of fixes in plain Lean, beside the program's. Plain law: lists sorted by a key and stable: one such list for each list; what the library's merge by rotations makes. Plain law: the library's merge by rotations: its parts, and the blocks of the stable sort. Plain law: the parts of equal length of a list, for the stable sort by blocks. -/
namespace Go.Proofs.Yteoikaedpgianaa

/-- two ascending lists of the same elements are the same -/
theorem perm_up {α : Type} {r : α → α → Prop} (anti : ∀ a b, r a b → r b a → a = b) : ∀ {x y : List α}, x.Perm y → x.Pairwise r → y.Pairwise r → x = y
  | [], y, h, _, _ => (h.nil_eq)
  | a :: x, [], h, _, _ => by simpa using h.length_eq
  | a :: x, b :: y, h, hx, hy => by
    have hab : a = b := by
      by_cases e : a = b
      · exact e
      · have h1 : a ∈ y := by
          have : a ∈ b :: y := h.subset (List.mem_cons_self ..)
          rcases List.mem_cons.1 this with h2 | h2
          · exact absurd h2 e
          · exact h2
        have h2 : b ∈ x := by
          have : b ∈ a :: x := h.symm.subset (List.mem_cons_self ..)
          rcases List.mem_cons.1 this with h2 | h2
          · exact absurd h2.symm e
          · exact h2
        exact anti a b ((List.pairwise_cons.1 hx).1 b h2) ((List.pairwise_cons.1 hy).1 a h1)
    subst hab
    rw [perm_up anti h.cons_inv (List.pairwise_cons.1 hx).2 (List.pairwise_cons.1 hy).2]

section
variable {α : Type} (t : α → Int) (near : α → α → Bool)
def offsG (R : List α) : List (Int × Int) := R.map fun f => (2, t f)
def keepG (K : List α) (f : α) : Bool := match K.getLast? with | none => true | some x => near x f
def jumpG (R : List α) : Bool := match R.drop (R.length - 3) with | [a, b, c] => near a b && near b c | _ => false
/-- what a fix makes of what is kept, put aside and noted -/
def takeG (s : List α × List α × List (Int × Int)) (f : α) : List α × List α × List (Int × Int) :=
  if keepG near s.1 f = true then (s.1 ++ [f], [], s.2.2 ++ offsG t s.2.1)
  else if jumpG near (s.2.1 ++ [f]) = true then (s.1 ++ (s.2.1 ++ [f]).drop (s.2.1.length - 2), [], s.2.2 ++ offsG t ((s.2.1 ++ [f]).take (s.2.1.length - 2)) ++ ((s.2.1 ++ [f]).drop (s.2.1.length - 2)).head?.toList.map (fun p => (3, t p)))
  else (s.1, s.2.1 ++ [f], s.2.2)
/-- a neighbour has the same time -/
def twiceG (L : List α) (i : Nat) : Bool := (decide (0 < i) && decide (L[i - 1]?.map t = L[i]?.map t)) || (decide (i + 1 < L.length) && decide (L[i + 1]?.map t = L[i]?.map t))
def stepG (L : List α) (s : List α × List α × List (Int × Int)) (i : Nat) : List α × List α × List (Int × Int) :=
  match L[i]? with
  | none => s
  | some f => if twiceG t L i = true then (s.1, s.2.1, s.2.2 ++ [(1, t f)]) else takeG t near s f
def runG (L : List α) : Nat → List α × List α × List (Int × Int)
  | 0 => ([], [], [])
  | m + 1 => stepG t near L (runG L m) m
def timesUp (L : List α) : Prop := L.Pairwise fun a b => t a ≤ t b
variable {t near}
theorem up_at {L : List α} (h : timesUp t L) {i j : Nat} {a b : α} (hij : i ≤ j) (ha : L[i]? = some a) (hb : L[j]? = some b) : t a ≤ t b := by
  obtain ⟨hi, rfl⟩ := List.getElem?_eq_some_iff.1 ha
  obtain ⟨hj, rfl⟩ := List.getElem?_eq_some_iff.1 hb
  rcases Nat.lt_or_eq_of_le hij with h1 | h1
  · exact List.pairwise_iff_getElem.1 h i j hi hj h1
  · subst h1; exact Int.le_refl _
theorem times_same {L M : List α} (h : L.Perm M) (hL : timesUp t L) (hM : timesUp t M) : L.map t = M.map t :=
  perm_up (r := fun a b : Int => a ≤ b) (fun _ _ h1 h2 => Int.le_antisymm h1 h2) (h.map t) (List.pairwise_map.2 hL) (List.pairwise_map.2 hM)
theorem twice_of {L : List α} {i j : Nat} {f : α} (hL : timesUp t L) (hi : (L[i]?).map t = some (t f)) (hj : L[j]? = some f) (hij : j ≠ i) : twiceG t L i = true := by
  obtain ⟨g, hg, hgt⟩ := Option.map_eq_some_iff.1 hi
  have hil := (List.getElem?_eq_some_iff.1 hg).1
  have hjl := (List.getElem?_eq_some_iff.1 hj).1
  unfold twiceG
  rcases Nat.lt_or_gt_of_ne hij with h | h
  · obtain ⟨b, hb⟩ : ∃ b, L[i - 1]? = some b := ⟨_, List.getElem?_eq_getElem (by omega)⟩
    have h1 := up_at hL (by omega : j ≤ i - 1) hj hb
    have h2 := up_at hL (by omega : i - 1 ≤ i) hb hg
    have e : t b = t g := by omega
    rw [hb, hg, Option.map_some, Option.map_some, e]
    simp; left; omega
  · obtain ⟨b, hb⟩ : ∃ b, L[i + 1]? = some b := ⟨_, List.getElem?_eq_getElem (by omega)⟩
    have h1 := up_at hL (by omega : i + 1 ≤ j) hb hj
    have h2 := up_at hL (by omega : i ≤ i + 1) hg hb
    have e : t b = t g := by omega
    rw [hb, hg, Option.map_some, Option.map_some, e]
    simp; right; omega
theorem twice_same {L M : List α} (h : L.map t = M.map t) (i : Nat) : twiceG t L i = twiceG t M i := by
  have hl : L.length = M.length := by have := congrArg List.length h; simpa using this
  have he : ∀ j, L[j]?.map t = M[j]?.map t := fun j => by rw [← List.getElem?_map, ← List.getElem?_map, h]
  unfold twiceG
  rw [he, he, he, hl]
theorem step_same {L M : List α} (h : L.Perm M) (hL : timesUp t L) (hM : timesUp t M) (s : List α × List α × List (Int × Int)) (i : Nat) : stepG t near L s i = stepG t near M s i := by
  have hT := times_same h hL hM
  have he : L[i]?.map t = M[i]?.map t := by rw [← List.getElem?_map, ← List.getElem?_map, hT]
  unfold stepG
  cases ha : L[i]? with
  | none =>
    rw [ha] at he
    cases hb : M[i]? with
    | none => rfl
    | some g => rw [hb] at he; cases he
  | some f =>
    rw [ha] at he
    cases hb : M[i]? with
    | none => rw [hb] at he; cases he
    | some g =>
      rw [hb] at he
      have e : t f = t g := by injection he
      simp only [twice_same hT i, e]
      split
      · rfl
      · rename_i hn
        have hf : f ∈ M := h.subset (List.mem_of_getElem? ha)
        obtain ⟨j, hj⟩ := List.getElem?_of_mem hf
        by_cases hij : j = i
        · subst hij; rw [hb] at hj; injection hj with hj; rw [hj]
        · exact absurd (twice_of hM (by rw [hb, Option.map_some, e]) hj hij) hn
/-- the order of fixes of the same time does not matter -/
theorem run_same {L M : List α} (h : L.Perm M) (hL : timesUp t L) (hM : timesUp t M) : ∀ m, runG t near L m = runG t near M m
  | 0 => rfl
  | m + 1 => by rw [runG, runG, run_same h hL hM m, step_same h hL hM]

/-- the fixes whose neighbours have other times -/
def soleG (t : α → Int) (L : List α) : Nat → List α
  | 0 => []
  | m + 1 => soleG t L m ++ (if twiceG t L m = true then [] else L[m]?.toList)
theorem sole_mem {L : List α} : ∀ {m : Nat} {g : α}, g ∈ soleG t L m → ∃ j, j < m ∧ L[j]? = some g
  | 0, g, h => by simp [soleG] at h
  | m + 1, g, h => by
    rw [soleG, List.mem_append] at h
    rcases h with h | h
    · obtain ⟨j, h1, h2⟩ := sole_mem h
      exact ⟨j, by omega, h2⟩
    · split at h
      · simp at h
      · exact ⟨m, by omega, by simpa using h⟩
theorem take_sub (s : List α × List α × List (Int × Int)) (f : α) : ((takeG t near s f).1 ++ (takeG t near s f).2.1).Sublist (s.1 ++ s.2.1 ++ [f]) := by
  unfold takeG
  split
  · simp only [List.append_nil]
    rw [List.append_assoc]
    exact (List.Sublist.refl _).append (List.sublist_append_right _ _)
  · split
    · simp only [List.append_nil]
      rw [List.append_assoc]
      exact (List.Sublist.refl _).append (List.drop_sublist _ _)
    · simp
theorem run_sub (L : List α) : ∀ m, ((runG t near L m).1 ++ (runG t near L m).2.1).Sublist (soleG t L m)
  | 0 => by simp [runG, soleG]
  | m + 1 => by
    rw [runG, soleG, stepG]
    cases h : L[m]? with
    | none => simpa using run_sub L m
    | some f =>
      simp only
      split
      · simpa using run_sub L m
      · simp only [Option.toList_some]
        exact (take_sub _ f).trans ((run_sub L m).append (List.Sublist.refl _))
theorem kept_mem {L : List α} {m : Nat} {g : α} (h : g ∈ (runG t near L m).1) : g ∈ L := by
  obtain ⟨j, _, hj⟩ := sole_mem (((List.sublist_append_left _ _).trans (run_sub L m)).subset h)
  exact List.mem_of_getElem? hj
theorem row_mem {L : List α} {m : Nat} {g : α} (h : g ∈ (runG t near L m).2.1) : g ∈ L := by
  obtain ⟨j, _, hj⟩ := sole_mem (((List.sublist_append_right _ _).trans (run_sub L m)).subset h)
  exact List.mem_of_getElem? hj
/-- neighbours are near each other -/
def chainG (near : α → α → Bool) (K : List α) : Prop := ∀ (i : Nat) (a b : α), K[i]? = some a → K[i + 1]? = some b → near a b = true
theorem twice_none {K : List α} (h : K.Pairwise fun a b => t a < t b) {i : Nat} (hi : i < K.length) : twiceG t K i = false := by
  have h2 := List.pairwise_iff_getElem.1 h
  unfold twiceG
  simp only [Bool.or_eq_false_iff, Bool.and_eq_false_iff, decide_eq_false_iff_not]
  constructor
  · by_cases h0 : 0 < i
    · right
      rw [List.getElem?_eq_getElem hi, List.getElem?_eq_getElem (by omega), Option.map_some, Option.map_some]
      intro e
      injection e with e
      have := h2 (i - 1) i (by omega) hi (by omega)
      omega
    · exact .inl h0
  · by_cases h0 : i + 1 < K.length
    · right
      rw [List.getElem?_eq_getElem hi, List.getElem?_eq_getElem h0, Option.map_some, Option.map_some]
      intro e
      injection e with e
      have := h2 i (i + 1) hi h0 (by omega)
      omega
    · exact .inl h0
/-- what is near one another is kept -/
theorem run_again {K : List α} (h : K.Pairwise fun a b => t a < t b) (hc : chainG near K) : ∀ m, m ≤ K.length → runG t near K m = (K.take m, [], [])
  | 0, _ => by simp [runG]
  | m + 1, hm => by
    rw [runG, run_again h hc m (by omega), stepG, List.getElem?_eq_getElem (by omega)]
    simp only
    rw [twice_none h (by omega), if_neg (by decide)]
    unfold takeG
    have hk : keepG near (K.take m) K[m] = true := by
      unfold keepG
      rw [List.getLast?_eq_getElem?]
      rw [List.length_take, Nat.min_eq_left (by omega)]
      by_cases h0 : m = 0
      · subst h0; simp
      · rw [List.getElem?_take_of_lt (by omega), List.getElem?_eq_getElem (by omega)]
        exact hc (m - 1) _ _ (List.getElem?_eq_getElem (by omega)) (by rw [show m - 1 + 1 = m by omega]; exact List.getElem?_eq_getElem (by omega))
    rw [if_pos hk]
    rw [List.take_succ_eq_append_getElem (show m < K.length by omega)]
    rfl
/-- the number of what is kept, put aside and noted -/
theorem take_small (s : List α × List α × List (Int × Int)) (f : α) : (takeG t near s f).1.length + (takeG t near s f).2.1.length + (takeG t near s f).2.2.length ≤ s.1.length + s.2.1.length + s.2.2.length + 2 := by
  unfold takeG
  split
  · simp [offsG]; omega
  · split
    · have h1 : ((s.2.1 ++ [f]).drop (s.2.1.length - 2)).head?.toList.length ≤ 1 := by cases ((s.2.1 ++ [f]).drop (s.2.1.length - 2)).head? <;> simp
      simp only [List.length_append, List.length_map, offsG, List.length_take, List.length_drop, List.length_nil, List.length_singleton]
      omega
    · simp; omega
theorem run_small (L : List α) : ∀ m, (runG t near L m).1.length + (runG t near L m).2.1.length + (runG t near L m).2.2.length ≤ 2 * m
  | 0 => by simp [runG]
  | m + 1 => by
    have ih := run_small L m
    rw [runG]
    generalize runG t near L m = s at ih ⊢
    unfold stepG
    split
    · omega
    · rename_i f _
      split
      · simp; omega
      · have := take_small (t := t) (near := near) s f
        omega
/-- issues in the order of their times, and of their kinds -/
def issUp (I : List (Int × Int)) : Prop := I.Pairwise fun a b => a.2 < b.2 ∨ a.2 = b.2 ∧ a.1 ≤ b.1
theorem issUp_one {I J : List (Int × Int)} (h : I.Perm J) (hI : issUp I) (hJ : issUp J) : I = J :=
  perm_up (fun a b h1 h2 => by
    obtain ⟨a1, a2⟩ := a
    obtain ⟨b1, b2⟩ := b
    simp only at h1 h2
    have e1 : a1 = b1 := by omega
    have e2 : a2 = b2 := by omega
    rw [e1, e2]) h hI hJ
/-- f goes behind the last part -/
def snocG : List (List α) → α → List (List α)
  | [], f => [[f]]
  | [p], f => [p ++ [f]]
  | p :: q :: r, f => p :: snocG (q :: r) f
/-- a new part begins at place i -/
def cutG (t : α → Int) (near : α → α → Bool) (gap : Int) (K : List α) (i : Nat) : Bool := decide (i = 0) || (match K[i - 1]?, K[i]? with | some a, some b => decide (gap < t b - t a) || !near a b | _, _ => true)
def partsG (t : α → Int) (near : α → α → Bool) (gap : Int) (K : List α) : Nat → List (List α)
  | 0 => []
  | m + 1 => match K[m]? with
    | none => partsG t near gap K m
    | some f => if cutG t near gap K m = true then partsG t near gap K m ++ [[f]] else snocG (partsG t near gap K m) f
theorem snoc_app (P : List (List α)) (p : List α) (f : α) : snocG (P ++ [p]) f = P ++ [p ++ [f]] := by
  induction P with
  | nil => rfl
  | cons q P ih =>
    cases P with
    | nil => rfl
    | cons q2 P => show q :: snocG (q2 :: P ++ [p]) f = _; rw [ih]; rfl
/-- the parts of the first m: those that are closed, and the last one -/
theorem parts_last {gap : Int} {K : List α} : ∀ m, 0 < m → m ≤ K.length → ∃ (P : List (List α)) (p : List α) (x : α), partsG t near gap K m = P ++ [p ++ [x]] ∧ K[m - 1]? = some x
  | 0, h, _ => absurd h (by omega)
  | m + 1, _, hm => by
    rw [partsG, List.getElem?_eq_getElem (by omega)]
    simp only
    split
    · exact ⟨_, [], _, rfl, by simp⟩
    · rename_i hc
      by_cases h0 : m = 0
      · subst h0; simp [cutG] at hc
      · obtain ⟨P, p, x, h1, _⟩ := parts_last (gap := gap) (K := K) m (by omega) (by omega)
        exact ⟨P, p ++ [x], _, by rw [h1, snoc_app], by simp⟩
theorem parts_flat {gap : Int} {K : List α} : ∀ m, m ≤ K.length → (partsG t near gap K m).flatten = K.take m
  | 0, _ => by simp [partsG]
  | m + 1, hm => by
    have ih := parts_flat (gap := gap) (K := K) m (by omega)
    rw [partsG, List.getElem?_eq_getElem (by omega), List.take_succ_eq_append_getElem (by omega)]
    simp only
    split
    · simp [ih]
    · rename_i hc
      by_cases h0 : m = 0
      · subst h0; simp [cutG] at hc
      · obtain ⟨P, p, x, h1, _⟩ := parts_last (t := t) (near := near) (gap := gap) (K := K) m (by omega) (by omega)
        rw [h1, snoc_app]
        rw [h1] at ih
        rw [← ih]
        simp
end
end Go.Proofs.Yteoikaedpgianaa
namespace Go.Proofs.Yteoikaedpgianaa
section
variable {α : Type} (t : α → Int) (near : α → α → Bool)
def updG {β : Type} (f : Nat → β) (p : Nat) (v : β) : Nat → β := fun j => if j = p then v else f j
/-- the states of the reference: what each fix is, where it jumps, the last one that was kept, the row that is put aside -/
structure RS where
  out : Nat → Int
  jmp : Nat → Bool
  last : Int
  row : List Nat
def nearI (L : List α) (i j : Nat) : Bool := match L[i]?, L[j]? with | some a, some b => near a b | _, _ => false
def jumpR (L : List α) (row : List Nat) : Bool := match row.drop (row.length - 3) with | [a, b, c] => nearI near L a b && nearI near L b c | _ => false
def rowDone (s : RS) (i : Nat) : RS := match (s.row ++ [i]).drop ((s.row ++ [i]).length - 3) with
  | [a, b, c] => { out := updG (updG (updG (updG s.out i 1) a 0) b 0) c 0, jmp := updG s.jmp a true, last := i, row := [] }
  | _ => s
def rstepG (L : List α) (s : RS) (i : Nat) : RS :=
  if twiceG t L i = true then { s with out := updG s.out i 2 }
  else if s.last < 0 ∨ nearI near L s.last.toNat i = true then { s with last := i, row := [] }
  else if jumpR near L (s.row ++ [i]) = true then rowDone s i
  else { s with out := updG s.out i 1, row := s.row ++ [i] }
def rrunG (L : List α) : Nat → RS
  | 0 => ⟨fun _ => 0, fun _ => false, -1, []⟩
  | m + 1 => rstepG t near L (rrunG L m) m
def keptR (L : List α) (out : Nat → Int) : Nat → List α
  | 0 => []
  | m + 1 => keptR L out m ++ (if out m = 0 then L[m]?.toList else [])
def issOne (f : α) (o : Int) (j : Bool) : List (Int × Int) := if o = 0 then (if j = true then [(3, t f)] else []) else if o = 1 then [(2, t f)] else [(1, t f)]
def issR (L : List α) (out : Nat → Int) (jmp : Nat → Bool) : Nat → List (Int × Int)
  | 0 => []
  | m + 1 => issR L out jmp m ++ (match L[m]? with | none => [] | some f => issOne t f (out m) (jmp m))
variable {t near}
theorem keptR_same {L : List α} {o o' : Nat → Int} : ∀ {m : Nat}, (∀ j, j < m → o j = o' j) → keptR L o m = keptR L o' m
  | 0, _ => rfl
  | m + 1, h => by rw [keptR, keptR, keptR_same (fun j hj => h j (by omega)), h m (by omega)]
theorem issR_same {L : List α} {o o' : Nat → Int} {j j' : Nat → Bool} : ∀ {m : Nat}, (∀ i, i < m → o i = o' i) → (∀ i, i < m → j i = j' i) → issR t L o j m = issR t L o' j' m
  | 0, _, _ => rfl
  | m + 1, h, h2 => by rw [issR, issR, issR_same (fun i hi => h i (by omega)) (fun i hi => h2 i (by omega)), h m (by omega), h2 m (by omega)]
theorem updG_at {β : Type} {f : Nat → β} {p : Nat} {v : β} : updG f p v p = v := by simp [updG]
theorem updG_ne {β : Type} {f : Nat → β} {p q : Nat} {v : β} (h : q ≠ p) : updG f p v q = f q := by simp [updG, h]
theorem keptR_set {L : List α} {o : Nat → Int} {p : Nat} {f : α} (hf : L[p]? = some f) : ∀ {m : Nat}, p < m → (∀ q, p ≤ q → q < m → o q ≠ 0) → keptR L (updG o p 0) m = keptR L o m ++ [f]
  | 0, h, _ => absurd h (by omega)
  | m + 1, h, h2 => by
    rw [keptR, keptR, if_neg (h2 m (by omega) (by omega)), List.append_nil]
    by_cases e : p = m
    · subst e
      rw [updG_at, if_pos rfl, hf, keptR_same (o' := o) (fun j hj => updG_ne (by omega))]
      rfl
    · rw [updG_ne (by omega), if_neg (h2 m (by omega) (by omega)), List.append_nil, keptR_set hf (by omega) (fun q h3 h4 => h2 q h3 (by omega))]
theorem issR_set {L : List α} {o : Nat → Int} {j : Nat → Bool} {p : Nat} {f : α} (hf : L[p]? = some f) (ho : o p = 1) (hj : j p = false) (z : Int × Int) : ∀ {m : Nat}, p < m →
    (issR t L (updG o p 0) j m).count z + [((2 : Int), t f)].count z = (issR t L o j m).count z
  | 0, h => absurd h (by omega)
  | m + 1, h => by
    rw [issR, issR, List.count_append, List.count_append]
    by_cases e : p = m
    · subst e
      rw [issR_same (o' := o) (j' := j) (fun i hi => updG_ne (by omega)) (fun _ _ => rfl), hf, updG_at, ho, hj]
      simp [issOne]
    · rw [updG_ne (by omega)]
      have := issR_set hf ho hj z (m := m) (by omega)
      omega
theorem issR_jump {L : List α} {o : Nat → Int} {j : Nat → Bool} {p : Nat} {f : α} (hf : L[p]? = some f) (ho : o p = 1) (z : Int × Int) : ∀ {m : Nat}, p < m →
    (issR t L (updG o p 0) (updG j p true) m).count z + [((2 : Int), t f)].count z = (issR t L o j m).count z + [((3 : Int), t f)].count z
  | 0, h => absurd h (by omega)
  | m + 1, h => by
    rw [issR, issR, List.count_append, List.count_append]
    by_cases e : p = m
    · subst e
      rw [issR_same (o' := o) (j' := j) (fun i hi => updG_ne (by omega)) (fun i hi => updG_ne (by omega)), hf, updG_at, updG_at, ho]
      simp [issOne]
      omega
    · rw [updG_ne (by omega), updG_ne (by omega)]
      have := issR_jump (j := j) hf ho z (m := m) (by omega)
      omega
/-- the reference's states beside the program's -/
structure Beside (t : α → Int) (near : α → α → Bool) (L : List α) (m : Nat) (s : List α × List α × List (Int × Int)) (r : RS) : Prop where
  kept : keptR L r.out m = s.1
  row : r.row.map (fun p => L[p]?) = s.2.1.map some
  low : ∀ p ∈ r.row, p < m ∧ r.out p = 1 ∧ r.jmp p = false ∧ ∀ q, p ≤ q → q < m → r.out q ≠ 0
  up : r.row.Pairwise (· < ·)
  last : (r.last = -1 ∧ s.1 = []) ∨ ∃ (j : Nat) (x : α), r.last = j ∧ L[j]? = some x ∧ s.1.getLast? = some x
  iss : ∀ z, (issR t L r.out r.jmp m).count z = (s.2.2 ++ offsG t s.2.1).count z
  rest : ∀ q, m ≤ q → r.out q = 0 ∧ r.jmp q = false
  twice : ∀ q, q < m → twiceG t L q = true → r.out q = 2
theorem row_get {L : List α} {row : List Nat} {R : List α} (h : row.map (fun p => L[p]?) = R.map some) : row.length = R.length ∧ ∀ (i p : Nat), row[i]? = some p → L[p]? = R[i]? := by
  refine ⟨by have := congrArg List.length h; simpa using this, fun i p hp => ?_⟩
  have h1 : (row.map (fun p => L[p]?))[i]? = (R.map some)[i]? := by rw [h]
  rw [List.getElem?_map, List.getElem?_map, hp] at h1
  cases hR : R[i]? with
  | none => rw [hR] at h1; cases h1
  | some x => rw [hR] at h1; injection h1
theorem jump_same {L : List α} {row : List Nat} {R : List α} (h : row.map (fun p => L[p]?) = R.map some) : jumpR near L row = jumpG near R := by
  have hl := (row_get h).1
  unfold jumpR jumpG
  have hd : (row.drop (row.length - 3)).map (fun p => L[p]?) = (R.drop (R.length - 3)).map some := by rw [List.map_drop, List.map_drop, h, hl]
  generalize row.drop (row.length - 3) = A at hd
  generalize R.drop (R.length - 3) = B at hd
  match A, B, hd with
  | [], [], _ => rfl
  | [_], [_], _ => rfl
  | [_, _], [_, _], _ => rfl
  | [a, b, c], [x, y, z], hd =>
    simp only [List.map_cons, List.map_nil, List.cons.injEq, and_true] at hd
    simp only [nearI, hd.1, hd.2.1, hd.2.2]
  | _ :: _ :: _ :: _ :: _, _ :: _ :: _ :: _ :: _, _ => rfl
  | [], _ :: _, hd => simp at hd
  | _ :: _, [], hd => simp at hd
  | [_], _ :: _ :: _, hd => simp at hd
  | _ :: _ :: _, [_], hd => simp at hd
  | [_, _], _ :: _ :: _ :: _, hd => simp at hd
  | _ :: _ :: _ :: _, [_, _], hd => simp at hd
  | [_, _, _], _ :: _ :: _ :: _ :: _, hd => simp at hd
  | _ :: _ :: _ :: _ :: _, [_, _, _], hd => simp at hd
theorem rest_row {L : List α} {row : List Nat} {R : List α} (h : row.map (fun p => L[p]?) = R.map some) {i : Nat} {f : α} (hf : L[i]? = some f) : (row ++ [i]).map (fun p => L[p]?) = (R ++ [f]).map some := by
  rw [List.map_append, List.map_append, h]; simp [hf]
theorem three_of {β : Type} {l : List β} (h : 3 ≤ l.length) : ∃ a b c, l.drop (l.length - 3) = [a, b, c] := by
  have hl : (l.drop (l.length - 3)).length = 3 := by rw [List.length_drop]; omega
  generalize l.drop (l.length - 3) = d at hl
  match d, hl with
  | [a, b, c], _ => exact ⟨a, b, c, rfl⟩
theorem beside_step {L : List α} {m : Nat} {s : List α × List α × List (Int × Int)} {r : RS} (h : Beside t near L m s r) (hm : m < L.length) : Beside t near L (m + 1) (stepG t near L s m) (rstepG t near L r m) := by
  obtain ⟨f, hf⟩ : ∃ f, L[m]? = some f := ⟨_, List.getElem?_eq_getElem hm⟩
  unfold stepG rstepG
  rw [hf]
  simp only
  by_cases hw : twiceG t L m = true
  · rw [if_pos hw, if_pos hw]
    refine ⟨?_, h.row, ?_, h.up, h.last, ?_, ?_, ?_⟩
    · show keptR L (updG r.out m 2) (m + 1) = s.1
      rw [keptR, updG_at, if_neg (by decide), List.append_nil, keptR_same (o' := r.out) (fun j hj => updG_ne (by omega)), h.kept]
    · intro p hp
      obtain ⟨h1, h2, h3, h4⟩ := h.low p hp
      refine ⟨by omega, by show updG r.out m 2 p = 1; rw [updG_ne (by omega)]; exact h2, h3, fun q hq hq2 => ?_⟩
      show updG r.out m 2 q ≠ 0
      by_cases e : q = m
      · subst e; rw [updG_at]; decide
      · rw [updG_ne e]; exact h4 q hq (by omega)
    · intro z
      show (issR t L (updG r.out m 2) r.jmp (m + 1)).count z = _
      rw [issR, hf, updG_at, issR_same (o' := r.out) (j' := r.jmp) (fun j hj => updG_ne (by omega)) (fun _ _ => rfl), List.count_append, h.iss z]
      simp only [show issOne t f 2 (r.jmp m) = [((1 : Int), t f)] by simp [issOne], List.count_append]
      omega
    · intro q hq
      exact ⟨by show updG r.out m 2 q = 0; rw [updG_ne (by omega)]; exact (h.rest q (by omega)).1, (h.rest q (by omega)).2⟩
    · intro q hq hq2
      show updG r.out m 2 q = 2
      by_cases e : q = m
      · subst e; rw [updG_at]
      · rw [updG_ne e]; exact h.twice q (by omega) hq2
  · rw [if_neg hw, if_neg hw]
    have hkeep : keepG near s.1 f = true ↔ (r.last < 0 ∨ nearI near L r.last.toNat m = true) := by
      unfold keepG
      rcases h.last with ⟨h1, h2⟩ | ⟨j, x, h1, h2, h3⟩
      · rw [h2, h1]; simp
      · rw [h3, h1]
        have : ((j : Int).toNat) = j := by simp
        simp only [nearI, this, h2, hf]
        constructor
        · intro h; exact .inr h
        · rintro (h | h); (· omega); (· exact h)
    have hm0 := h.rest m (Nat.le_refl _)
    unfold takeG
    by_cases hk : keepG near s.1 f = true
    · rw [if_pos hk, if_pos (hkeep.1 hk)]
      refine ⟨?_, rfl, by intro p hp; simp at hp, List.Pairwise.nil, .inr ⟨m, f, rfl, hf, by simp⟩, ?_, ?_, ?_⟩
      · show keptR L r.out (m + 1) = s.1 ++ [f]
        rw [keptR, hm0.1, if_pos rfl, hf, h.kept]; rfl
      · intro z
        show (issR t L r.out r.jmp (m + 1)).count z = _
        rw [issR, hf, hm0.1, hm0.2, List.count_append, h.iss z]
        simp [issOne, offsG]
      · intro q hq; exact h.rest q (by omega)
      · intro q hq hq2
        by_cases e : q = m
        · subst e; exact absurd hq2 hw
        · exact h.twice q (by omega) hq2
    · rw [if_neg hk, if_neg (fun e => hk (hkeep.2 e))]
      have hrow := rest_row h.row hf
      rw [jump_same hrow]
      -- put aside
      have kept1 : keptR L (updG r.out m 1) (m + 1) = s.1 := by
        rw [keptR, updG_at, if_neg (by decide), List.append_nil, keptR_same (o' := r.out) (fun j hj => updG_ne (by omega)), h.kept]
      have low1 : ∀ p ∈ r.row ++ [m], p < m + 1 ∧ updG r.out m 1 p = 1 ∧ r.jmp p = false ∧ ∀ q, p ≤ q → q < m + 1 → updG r.out m 1 q ≠ 0 := by
        intro p hp
        rcases List.mem_append.1 hp with hp | hp
        · obtain ⟨h1, h2, h3, h4⟩ := h.low p hp
          refine ⟨by omega, by rw [updG_ne (by omega)]; exact h2, h3, fun q hq hq2 => ?_⟩
          by_cases e : q = m
          · subst e; rw [updG_at]; decide
          · rw [updG_ne e]; exact h4 q hq (by omega)
        · have hp : p = m := List.mem_singleton.1 hp
          subst hp
          refine ⟨by omega, updG_at, hm0.2, fun q hq hq2 => ?_⟩
          have : q = p := by omega
          subst this
          rw [updG_at]; decide
      have up1 : (r.row ++ [m]).Pairwise (· < ·) := by
        rw [List.pairwise_append]
        refine ⟨h.up, List.pairwise_singleton _ _, fun a ha b hb => ?_⟩
        have hb : b = m := List.mem_singleton.1 hb
        subst hb
        exact (h.low a ha).1
      have iss1 : ∀ z, (issR t L (updG r.out m 1) r.jmp (m + 1)).count z = (s.2.2 ++ offsG t (s.2.1 ++ [f])).count z := by
        intro z
        rw [issR, hf, updG_at, issR_same (o' := r.out) (j' := r.jmp) (fun j hj => updG_ne (by omega)) (fun _ _ => rfl), List.count_append, h.iss z]
        simp only [show issOne t f 1 (r.jmp m) = [((2 : Int), t f)] by simp [issOne], List.count_append, offsG, List.map_append, List.map_cons, List.map_nil]
        omega
      have rest1 : ∀ q, m + 1 ≤ q → updG r.out m 1 q = 0 ∧ r.jmp q = false := fun q hq => ⟨by rw [updG_ne (by omega)]; exact (h.rest q (by omega)).1, (h.rest q (by omega)).2⟩
      have twice1 : ∀ q, q < m + 1 → twiceG t L q = true → updG r.out m 1 q = 2 := by
        intro q hq hq2
        by_cases e : q = m
        · subst e; exact absurd hq2 hw
        · rw [updG_ne e]; exact h.twice q (by omega) hq2
      by_cases hj : jumpG near (s.2.1 ++ [f]) = true
      · rw [if_pos hj, if_pos hj]
        have hl := (row_get hrow).1
        have h3 : 3 ≤ (s.2.1 ++ [f]).length := by
          unfold jumpG at hj
          split at hj
          · rename_i a b c he
            have := congrArg List.length he
            rw [List.length_drop] at this
            simp only [List.length_cons, List.length_nil] at this
            omega
          · cases hj
        obtain ⟨a, b, c, habc⟩ := three_of (l := r.row ++ [m]) (by omega)
        have hget : ∀ (i p : Nat), [a, b, c][i]? = some p → (r.row ++ [m])[(r.row ++ [m]).length - 3 + i]? = some p := fun i p hp => by rw [← habc, List.getElem?_drop] at hp; exact hp
        have ha := hget 0 a rfl
        have hb := hget 1 b rfl
        have hc := hget 2 c rfl
        have hcm : c = m := by
          rw [List.getElem?_append_right (by rw [List.length_append] at *; simp at *; omega)] at hc
          have : (r.row ++ [m]).length - 3 + 2 - r.row.length = 0 := by simp only [List.length_append, List.length_singleton] at *; omega
          rw [this] at hc
          simpa using hc.symm
        subst hcm
        have hpa := (row_get hrow).2 _ _ ha
        have hpb := (row_get hrow).2 _ _ hb
        have hpc := (row_get hrow).2 _ _ hc
        rw [hl] at hpa hpb hpc
        have hk3 : (s.2.1 ++ [f]).length - 3 = s.2.1.length - 2 := by rw [List.length_append, List.length_singleton]; omega
        rw [hk3] at hpa hpb hpc
        have hlen : s.2.1.length + 1 = (s.2.1 ++ [f]).length := by rw [List.length_append, List.length_singleton]
        obtain ⟨x, y, z0, hxyz⟩ : ∃ x y z0, (s.2.1 ++ [f]).drop (s.2.1.length - 2) = [x, y, z0] := by rw [← hk3]; exact three_of h3
        have hx : (s.2.1 ++ [f])[s.2.1.length - 2 + 0]? = some x := by rw [← List.getElem?_drop, hxyz]; rfl
        have hy : (s.2.1 ++ [f])[s.2.1.length - 2 + 1]? = some y := by rw [← List.getElem?_drop, hxyz]; rfl
        have hz : (s.2.1 ++ [f])[s.2.1.length - 2 + 2]? = some z0 := by rw [← List.getElem?_drop, hxyz]; rfl
        rw [hx] at hpa
        rw [hy] at hpb
        rw [hz] at hpc
        have la := low1 a (List.mem_of_getElem? ha)
        have lb := low1 b (List.mem_of_getElem? hb)
        have lc := low1 c (List.mem_of_getElem? hc)
        have hup := List.pairwise_iff_getElem.1 up1
        obtain ⟨ia, ha'⟩ := List.getElem?_eq_some_iff.1 ha
        obtain ⟨ib, hb'⟩ := List.getElem?_eq_some_iff.1 hb
        obtain ⟨ic, hc'⟩ := List.getElem?_eq_some_iff.1 hc
        have hab : a < b := by have h9 := hup _ _ ia ib (by omega); rw [ha', hb'] at h9; exact h9
        have hbc : b < c := by have h9 := hup _ _ ib ic (by omega); rw [hb', hc'] at h9; exact h9
        have hrd : rowDone r c = { out := updG (updG (updG (updG r.out c 1) a 0) b 0) c 0, jmp := updG r.jmp a true, last := c, row := [] } := by
          unfold rowDone
          rw [habc]
        rw [hrd, hxyz]
        refine ⟨?_, rfl, by intro p hp; simp at hp, List.Pairwise.nil, .inr ⟨c, z0, rfl, hpc, by simp⟩, ?_, ?_, ?_⟩
        · show keptR L (updG (updG (updG (updG r.out c 1) a 0) b 0) c 0) (c + 1) = s.1 ++ [x, y, z0]
          rw [keptR_set hpc (by omega) (fun q h1 h2 => by rw [updG_ne (by omega), updG_ne (by omega)]; exact lc.2.2.2 q h1 h2),
            keptR_set hpb (by omega) (fun q h1 h2 => by rw [updG_ne (by omega)]; exact lb.2.2.2 q h1 h2), keptR_set hpa (by omega) la.2.2.2, kept1]
          simp
        · intro z
          show (issR t L (updG (updG (updG (updG r.out c 1) a 0) b 0) c 0) (updG r.jmp a true) (c + 1)).count z = _
          have e3 := issR_set (t := t) (o := updG (updG (updG r.out c 1) a 0) b 0) (j := updG r.jmp a true) hpc (by rw [updG_ne (by omega), updG_ne (by omega)]; exact lc.2.1) (by rw [updG_ne (by omega)]; exact lc.2.2.1) z (m := c + 1) (by omega)
          have e2 := issR_set (t := t) (o := updG (updG r.out c 1) a 0) (j := updG r.jmp a true) hpb (by rw [updG_ne (by omega)]; exact lb.2.1) (by rw [updG_ne (by omega)]; exact lb.2.2.1) z (m := c + 1) (by omega)
          have e1 := issR_jump (t := t) (o := updG r.out c 1) (j := r.jmp) hpa la.2.1 z (m := c + 1) (by omega)
          have e0 := iss1 z
          have es : offsG t (s.2.1 ++ [f]) = offsG t ((s.2.1 ++ [f]).take (s.2.1.length - 2)) ++ [(2, t x), (2, t y), (2, t z0)] := by
            have : (s.2.1 ++ [f]) = (s.2.1 ++ [f]).take (s.2.1.length - 2) ++ [x, y, z0] := by rw [← hxyz, List.take_append_drop]
            unfold offsG
            rw [show List.map (fun f => ((2 : Int), t f)) (s.2.1 ++ [f]) = List.map (fun f => ((2 : Int), t f)) ((s.2.1 ++ [f]).take (s.2.1.length - 2) ++ [x, y, z0]) by rw [← this], List.map_append]
            rfl
          rw [es] at e0
          generalize offsG t ((s.2.1 ++ [f]).take (s.2.1.length - 2)) = T at e0 ⊢
          have c1 : [((2 : Int), t x), (2, t y), (2, t z0)].count z = [((2 : Int), t x)].count z + [((2 : Int), t y)].count z + [((2 : Int), t z0)].count z := by
            rw [show [((2 : Int), t x), (2, t y), (2, t z0)] = [((2 : Int), t x)] ++ [((2 : Int), t y)] ++ [((2 : Int), t z0)] from rfl, List.count_append, List.count_append]
          rw [List.count_append, List.count_append, c1] at e0
          simp only [List.head?_cons, Option.toList_some, List.map_cons, List.map_nil, offsG, List.append_nil, List.count_append] at *
          omega
        · intro q hq
          show updG (updG (updG (updG r.out c 1) a 0) b 0) c 0 q = 0 ∧ updG r.jmp a true q = false
          rw [updG_ne (by omega), updG_ne (by omega), updG_ne (by omega), updG_ne (by omega), updG_ne (by omega)]
          exact h.rest q (by omega)
        · intro q hq hq2
          show updG (updG (updG (updG r.out c 1) a 0) b 0) c 0 q = 2
          have h4 := twice1 q hq hq2
          have hqa : q ≠ a := fun e => by subst e; rw [la.2.1] at h4; omega
          have hqb : q ≠ b := fun e => by subst e; rw [lb.2.1] at h4; omega
          have hqc : q ≠ c := fun e => by subst e; rw [lc.2.1] at h4; omega
          rw [updG_ne hqc, updG_ne hqb, updG_ne hqa]
          exact h4
      · rw [if_neg hj, if_neg hj]
        exact ⟨kept1, hrow, low1, up1, h.last, iss1, rest1, twice1⟩
theorem beside_run {L : List α} : ∀ m, m ≤ L.length → Beside t near L m (runG t near L m) (rrunG t near L m)
  | 0, _ => ⟨rfl, rfl, by intro p hp; simp [rrunG] at hp, List.Pairwise.nil, .inl ⟨rfl, rfl⟩, fun _ => rfl, fun _ _ => ⟨rfl, rfl⟩, fun _ hq => absurd hq (Nat.not_lt_zero _)⟩
  | m + 1, h => beside_step (beside_run m (by omega)) (by omega)
/-- the reference's issues come in order -/
theorem issR_mem {L : List α} {o : Nat → Int} {j : Nat → Bool} : ∀ {m : Nat} {x : Int × Int}, x ∈ issR t L o j m → ∃ i f, i < m ∧ L[i]? = some f ∧ x.2 = t f ∧ (o i = 2 → x.1 = 1)
  | 0, x, h => by simp [issR] at h
  | m + 1, x, h => by
    rw [issR, List.mem_append] at h
    rcases h with h | h
    · obtain ⟨i, f, h1, h2⟩ := issR_mem h
      exact ⟨i, f, by omega, h2⟩
    · cases hf : L[m]? with
      | none => rw [hf] at h; simp at h
      | some f =>
        rw [hf] at h
        refine ⟨m, f, by omega, hf, ?_⟩
        simp only [issOne] at h
        split at h
        · split at h
          · have h := List.mem_singleton.1 h; subst h; exact ⟨rfl, fun e => by omega⟩
          · simp at h
        · split at h
          · have h := List.mem_singleton.1 h; subst h; exact ⟨rfl, fun e => by omega⟩
          · have h := List.mem_singleton.1 h; subst h; exact ⟨rfl, fun e => rfl⟩
theorem issR_up {L : List α} (hL : timesUp t L) {o : Nat → Int} {j : Nat → Bool} : ∀ {m : Nat}, (∀ q, q < m → twiceG t L q = true → o q = 2) → issUp (issR t L o j m)
  | 0, _ => List.Pairwise.nil
  | m + 1, h => by
    rw [issR]
    refine List.pairwise_append.2 ⟨issR_up hL (fun q hq => h q (by omega)), ?_, ?_⟩
    · cases L[m]? with
      | none => exact List.Pairwise.nil
      | some f => simp only [issOne]; split; (· split <;> simp); (· split <;> simp)
    · intro a ha b hb
      obtain ⟨i, f, h1, h2, h3, h4⟩ := issR_mem ha
      have hb2 : b ∈ issR t L o j (m + 1) := by rw [issR]; exact List.mem_append_right _ hb
      cases hf : L[m]? with
      | none => rw [hf] at hb; simp at hb
      | some g =>
        rw [hf] at hb
        have hbt : b.2 = t g ∧ (o m = 2 → b.1 = 1) := by
          simp only [issOne] at hb
          split at hb
          · split at hb
            · have hb := List.mem_singleton.1 hb; subst hb; exact ⟨rfl, fun e => by omega⟩
            · simp at hb
          · split at hb
            · have hb := List.mem_singleton.1 hb; subst hb; exact ⟨rfl, fun e => by omega⟩
            · have hb := List.mem_singleton.1 hb; subst hb; exact ⟨rfl, fun e => rfl⟩
        have hle := up_at hL (by omega : i ≤ m) h2 hf
        rcases Int.lt_or_eq_of_le hle with h5 | h5
        · left; omega
        · right
          have w1 := h i (by omega) (twice_of hL (by rw [h2, Option.map_some, h5]) hf (by omega))
          have w2 := h m (by omega) (twice_of hL (by rw [hf, Option.map_some, h5]) h2 (by omega))
          have := h4 w1
          have := hbt.2 w2
          omega
/-- what the reference returns is what the program returns -/
theorem clean_same {L M : List α} (h : L.Perm M) (hL : timesUp t L) (hM : timesUp t M) {J : List (Int × Int)} (hJ : J.Perm ((runG t near L L.length).2.2 ++ offsG t (runG t near L L.length).2.1)) (hJu : issUp J) :
    keptR M (rrunG t near M M.length).out M.length = (runG t near L L.length).1 ∧ issR t M (rrunG t near M M.length).out (rrunG t near M M.length).jmp M.length = J := by
  have hb := beside_run (t := t) (near := near) (L := M) M.length (Nat.le_refl _)
  have hs : runG t near L L.length = runG t near M M.length := by rw [h.length_eq]; exact run_same h hL hM _
  refine ⟨hb.kept.trans (by rw [hs]), ?_⟩
  refine issUp_one ?_ (issR_up hM hb.twice) hJu
  refine List.Perm.trans ?_ hJ.symm
  rw [hs]
  exact List.perm_iff_count.2 hb.iss
end
end Go.Proofs.Yteoikaedpgianaa
namespace Go.Proofs.Yteoikaedpgianaa
section
variable {α : Type} (key : α → Int)

/-- the elements of a key, in their order -/
def ofKey (k : Int) (l : List α) : List α := l.filter fun x => key x == k
/-- y has the elements of x, those of one key in the same order -/
def Same (x y : List α) : Prop := ∀ k, ofKey key k y = ofKey key k x
/-- sorted by the key -/
def Up (l : List α) : Prop := l.Pairwise fun a b => key a ≤ key b
/-- y is x, sorted and stable -/
def Stab (x y : List α) : Prop := Up key y ∧ Same key x y
variable {key}
theorem ofKey_append (k : Int) (x y : List α) : ofKey key k (x ++ y) = ofKey key k x ++ ofKey key k y := List.filter_append ..
theorem Same.refl (x : List α) : Same key x x := fun _ => rfl
theorem Same.trans {x y z : List α} (h : Same key x y) (g : Same key y z) : Same key x z := fun k => (g k).trans (h k)
theorem Same.append {x y u v : List α} (h : Same key x y) (g : Same key u v) : Same key (x ++ u) (y ++ v) := fun k => by rw [ofKey_append, ofKey_append, h k, g k]
theorem mem_ofKey {k : Int} {l : List α} {x : α} : x ∈ ofKey key k l ↔ x ∈ l ∧ key x = k := by simp [ofKey]
theorem Same.mem {x y : List α} (h : Same key x y) (a : α) : a ∈ y ↔ a ∈ x := by
  have := h (key a)
  constructor
  · intro ha
    have : a ∈ ofKey key (key a) y := mem_ofKey.2 ⟨ha, rfl⟩
    rw [h] at this
    exact (mem_ofKey.1 this).1
  · intro ha
    have : a ∈ ofKey key (key a) x := mem_ofKey.2 ⟨ha, rfl⟩
    rw [← h] at this
    exact (mem_ofKey.1 this).1
theorem Same.nil {y : List α} (h : Same key [] y) : y = [] := by
  match y with
  | [] => rfl
  | a :: _ => exact absurd ((h.mem a).1 (by simp)) (by simp)
/-- two parts without a common key may change places -/
theorem same_swap {x y : List α} (h : ∀ a ∈ x, ∀ b ∈ y, key a ≠ key b) : Same key (x ++ y) (y ++ x) := fun k => by
  rw [ofKey_append, ofKey_append]
  by_cases hx : ofKey key k x = []
  · rw [hx]; simp
  · have hy : ofKey key k y = [] := by
      cases hh : ofKey key k y with
      | nil => rfl
      | cons b t =>
        have hb := mem_ofKey.1 (hh ▸ List.mem_cons_self : b ∈ ofKey key k y)
        cases hg : ofKey key k x with
        | nil => exact absurd hg hx
        | cons a s =>
          have ha := mem_ofKey.1 (hg ▸ List.mem_cons_self : a ∈ ofKey key k x)
          exact absurd (ha.2.trans hb.2.symm) (h a ha.1 b hb.1)
    rw [hy]; simp
theorem up_append {x y : List α} : Up key (x ++ y) ↔ Up key x ∧ Up key y ∧ ∀ a ∈ x, ∀ b ∈ y, key a ≤ key b := List.pairwise_append
/-- the merge's step: the parts x2 and y1 have changed places, each side is merged by itself -/
theorem stab_merge {x1 x2 y1 y2 z1 z2 : List α} (h1 : Stab key (x1 ++ y1) z1) (h2 : Stab key (x2 ++ y2) z2) (hs : ∀ a ∈ x2, ∀ b ∈ y1, key b < key a) (hl : ∀ a ∈ x1 ++ y1, ∀ b ∈ x2 ++ y2, key a ≤ key b) :
    Stab key (x1 ++ x2 ++ (y1 ++ y2)) (z1 ++ z2) := by
  refine ⟨up_append.2 ⟨h1.1, h2.1, fun a ha b hb => hl a ((h1.2.mem a).1 ha) b ((h2.2.mem b).1 hb)⟩, ?_⟩
  have e : Same key (x1 ++ x2 ++ (y1 ++ y2)) (x1 ++ y1 ++ (x2 ++ y2)) := by
    have := (Same.refl (key := key) x1).append ((same_swap (x := x2) (y := y1) (fun a ha b hb => by have := hs a ha b hb; omega)).append (Same.refl (key := key) y2))
    simpa [List.append_assoc] using this
  exact e.trans (h1.2.append h2.2)
/-- one element into a sorted list from the left -/
theorem stab_left {x : α} {y1 y2 : List α} (h : Up key (y1 ++ y2)) (h1 : ∀ b ∈ y1, key b < key x) (h2 : ∀ b ∈ y2, key x ≤ key b) : Stab key ([x] ++ (y1 ++ y2)) (y1 ++ ([x] ++ y2)) := by
  obtain ⟨u1, u2, u3⟩ := up_append.1 h
  refine ⟨up_append.2 ⟨u1, List.pairwise_cons.2 ⟨h2, u2⟩, fun a ha b hb => ?_⟩, ?_⟩
  · rcases List.mem_append.1 hb with g | g
    · rw [List.mem_singleton.1 g]; have := h1 a ha; omega
    · exact u3 a ha b g
  · have := (same_swap (key := key) (x := [x]) (y := y1) (fun a ha b hb => by rw [List.mem_singleton.1 ha]; have := h1 b hb; omega)).append (Same.refl (key := key) y2)
    simpa [List.append_assoc] using this
/-- one element into a sorted list from the right -/
theorem stab_right {y : α} {x1 x2 : List α} (h : Up key (x1 ++ x2)) (h1 : ∀ a ∈ x1, key a ≤ key y) (h2 : ∀ a ∈ x2, key y < key a) : Stab key ((x1 ++ x2) ++ [y]) (x1 ++ ([y] ++ x2)) := by
  obtain ⟨u1, u2, u3⟩ := up_append.1 h
  refine ⟨up_append.2 ⟨u1, List.pairwise_cons.2 ⟨fun b hb => by have := h2 b hb; omega, u2⟩, fun a ha b hb => ?_⟩, ?_⟩
  · rcases List.mem_append.1 hb with g | g
    · rw [List.mem_singleton.1 g]; exact h1 a ha
    · exact u3 a ha b g
  · have := (Same.refl (key := key) x1).append (same_swap (key := key) (x := x2) (y := [y]) (fun a ha b hb => by rw [List.mem_singleton.1 hb]; have := h2 a ha; omega))
    simpa [List.append_assoc] using this
end
end Go.Proofs.Yteoikaedpgianaa
namespace Go.Proofs.Yteoikaedpgianaa
section
variable {α : Type} {key : α → Int}
theorem up_last {l : List α} {v : α} (h : Up key l) (hv : l.getLast? = some v) : ∀ w ∈ l, key w ≤ key v := by
  rcases List.eq_nil_or_concat l with rfl | ⟨t, u, rfl⟩
  · simp at hv
  · rw [List.concat_eq_append] at h hv ⊢
    rw [List.getLast?_append] at hv
    simp at hv
    subst hv
    intro w hw
    rcases List.mem_append.1 hw with g | g
    · exact (up_append.1 h).2.2 w g u (by simp)
    · rw [List.mem_singleton.1 g]; exact Int.le_refl _
theorem up_head {l : List α} {v : α} (h : Up key l) (hv : l.head? = some v) : ∀ w ∈ l, key v ≤ key w := by
  match l with
  | [] => simp at hv
  | u :: t =>
    simp at hv
    subst hv
    intro w hw
    rcases List.mem_cons.1 hw with rfl | g
    · exact Int.le_refl _
    · exact (List.pairwise_cons.1 h).1 w g
/-- one element to the left of a sorted list, placed by its neighbours -/
theorem left_near {x : α} {y1 y2 : List α} (h : Up key (y1 ++ y2)) (h1 : ∀ v, y1.getLast? = some v → key v < key x) (h2 : ∀ v, y2.head? = some v → key x ≤ key v) : Stab key ([x] ++ (y1 ++ y2)) (y1 ++ ([x] ++ y2)) := by
  obtain ⟨u1, u2, _⟩ := up_append.1 h
  refine stab_left h (fun b hb => ?_) (fun b hb => ?_)
  · cases g : y1.getLast? with
    | none => rw [List.getLast?_eq_none_iff.1 g] at hb; simp at hb
    | some v => have := up_last u1 g b hb; have := h1 v g; omega
  · cases g : y2.head? with
    | none => rw [List.head?_eq_none_iff.1 g] at hb; simp at hb
    | some v => have := up_head u2 g b hb; have := h2 v g; omega
/-- one element to the right of a sorted list, placed by its neighbours -/
theorem right_near {y : α} {x1 x2 : List α} (h : Up key (x1 ++ x2)) (h1 : ∀ v, x1.getLast? = some v → key v ≤ key y) (h2 : ∀ v, x2.head? = some v → key y < key v) : Stab key ((x1 ++ x2) ++ [y]) (x1 ++ ([y] ++ x2)) := by
  obtain ⟨u1, u2, _⟩ := up_append.1 h
  refine stab_right h (fun b hb => ?_) (fun b hb => ?_)
  · cases g : x1.getLast? with
    | none => rw [List.getLast?_eq_none_iff.1 g] at hb; simp at hb
    | some v => have := up_last u1 g b hb; have := h1 v g; omega
  · cases g : x2.head? with
    | none => rw [List.head?_eq_none_iff.1 g] at hb; simp at hb
    | some v => have := up_head u2 g b hb; have := h2 v g; omega
/-- the merge's step, by the neighbours of the two cuts -/
theorem merge_near {x1 x2 y1 y2 z1 z2 : List α} (hx : Up key (x1 ++ x2)) (hy : Up key (y1 ++ y2)) (h1 : Stab key (x1 ++ y1) z1) (h2 : Stab key (x2 ++ y2) z2)
    (ha : ∀ u v, x2.head? = some u → y1.getLast? = some v → key v < key u) (hb : ∀ u v, x1.getLast? = some u → y2.head? = some v → key u ≤ key v) :
    Stab key (x1 ++ x2 ++ (y1 ++ y2)) (z1 ++ z2) := by
  obtain ⟨ux1, ux2, ux⟩ := up_append.1 hx
  obtain ⟨uy1, uy2, uy⟩ := up_append.1 hy
  have hs : ∀ a ∈ x2, ∀ b ∈ y1, key b < key a := fun a hA b hB => by
    cases g : x2.head? with
    | none => rw [List.head?_eq_none_iff.1 g] at hA; simp at hA
    | some u =>
      cases g' : y1.getLast? with
      | none => rw [List.getLast?_eq_none_iff.1 g'] at hB; simp at hB
      | some v => have := ha u v g g'; have := up_head ux2 g a hA; have := up_last uy1 g' b hB; omega
  refine stab_merge h1 h2 hs (fun a hA b hB => ?_)
  rcases List.mem_append.1 hA with gA | gA <;> rcases List.mem_append.1 hB with gB | gB
  · exact ux a gA b gB
  · cases g : x1.getLast? with
    | none => rw [List.getLast?_eq_none_iff.1 g] at gA; simp at gA
    | some u =>
      cases g' : y2.head? with
      | none => rw [List.head?_eq_none_iff.1 g'] at gB; simp at gB
      | some v => have := hb u v g g'; have := up_last ux1 g a gA; have := up_head uy2 g' b gB; omega
  · have := hs b gB a gA; omega
  · exact uy a gA b gB
theorem stab_self {x : List α} (h : Up key x) : Stab key x x := ⟨h, Same.refl x⟩
theorem Same.length {x y : List α} (h : Same key x y) : y.length = x.length := by
  induction x generalizing y with
  | nil => rw [h.nil]
  | cons a x ih =>
    have ha : a ∈ y := (h.mem a).2 (by simp)
    -- take out the first element of a's key
    obtain ⟨u, v, hy, hu⟩ : ∃ u v, y = u ++ a :: v ∧ ofKey key (key a) u = [] := by
      have h0 := h (key a)
      have e1 : ofKey key (key a) (a :: x) = a :: ofKey key (key a) x := by simp [ofKey]
      rw [e1] at h0
      clear e1 ih ha
      have : ∀ y : List α, ∀ t, ofKey key (key a) y = a :: t → ∃ u v, y = u ++ a :: v ∧ ofKey key (key a) u = [] := by
        intro y
        induction y with
        | nil => intro t ht; cases ht
        | cons b y ih =>
          intro t ht
          by_cases g : key b = key a
          · have : ofKey key (key a) (b :: y) = b :: ofKey key (key a) y := by simp [ofKey, g]
            rw [this] at ht
            injection ht with h1 h2
            subst h1
            exact ⟨[], y, rfl, rfl⟩
          · have e : ofKey key (key a) (b :: y) = ofKey key (key a) y := by simp [ofKey, g]
            rw [e] at ht
            obtain ⟨u, v, hy, hu⟩ := ih t ht
            exact ⟨b :: u, v, by rw [hy]; rfl, by simp [ofKey, g]; simpa [ofKey] using hu⟩
      exact this y _ h0
    have hs : Same key x (u ++ v) := by
      intro k
      have h0 := h k
      rw [hy] at h0
      rw [ofKey_append] at h0 ⊢
      by_cases g : key a = k
      · subst g
        rw [hu] at h0 ⊢
        have e1 : ofKey key (key a) (a :: x) = a :: ofKey key (key a) x := by simp [ofKey]
        have e2 : ofKey key (key a) (a :: v) = a :: ofKey key (key a) v := by simp [ofKey]
        rw [e1, e2] at h0
        simpa using h0
      · have e1 : ofKey key k (a :: x) = ofKey key k x := by simp [ofKey, g]
        have e2 : ofKey key k (a :: v) = ofKey key k v := by simp [ofKey, g]
        rw [e1, e2] at h0
        exact h0
    have := ih hs
    rw [hy]
    simp at this ⊢
    omega
end
end Go.Proofs.Yteoikaedpgianaa
namespace Go.Proofs.Yteoikaedpgianaa
section
variable {α : Type} {key : α → Int}
/-- part i of length c -/
def chunk (l : List α) (i c : Nat) : List α := (l.drop (i * c)).take c
/-- each part is sorted -/
def Chunks (key : α → Int) (l : List α) (c : Nat) : Prop := ∀ i, Up key (chunk l i c)
/-- the first k parts are sorted -/
def ChunksTo (key : α → Int) (l : List α) (c k : Nat) : Prop := ∀ i, i < k → Up key (chunk l i c)
theorem up_nil : Up key ([] : List α) := List.Pairwise.nil
theorem chunk_left {Z z : List α} {i c k : Nat} (hZ : Z.length = k * c) (hi : i < k) : chunk (Z ++ z) i c = chunk Z i c := by
  have h : (i + 1) * c ≤ k * c := Nat.mul_le_mul_right c hi
  rw [Nat.add_mul, Nat.one_mul] at h
  unfold chunk
  rw [List.drop_append_of_le_length (by omega), List.take_append_of_le_length (by rw [List.length_drop]; omega)]
theorem chunk_at {Z z s : List α} {k c : Nat} (hZ : Z.length = k * c) (hz : z.length = c) : chunk (Z ++ (z ++ s)) k c = z := by
  unfold chunk
  rw [← hZ, List.drop_left, ← hz, List.take_left]
theorem chunk_last {Z z : List α} {k c : Nat} (hZ : Z.length = k * c) (hz : z.length ≤ c) : chunk (Z ++ z) k c = z := by
  unfold chunk
  rw [← hZ, List.drop_left, List.take_of_length_le hz]
theorem chunk_past {Z z : List α} {i k c : Nat} (hZ : Z.length = k * c) (hz : z.length ≤ c) (hi : k < i) : chunk (Z ++ z) i c = [] := by
  have h : (k + 1) * c ≤ i * c := Nat.mul_le_mul_right c hi
  rw [Nat.add_mul, Nat.one_mul] at h
  unfold chunk
  rw [List.drop_of_length_le (by rw [List.length_append]; omega), List.take_nil]
theorem ChunksTo.more {Z z : List α} {c k : Nat} (h : ChunksTo key Z c k) (hZ : Z.length = k * c) (hz : z.length = c) (hu : Up key z) : ChunksTo key (Z ++ z) c (k + 1) := fun i hi => by
  rcases Nat.lt_or_ge i k with g | g
  · rw [chunk_left hZ g]; exact h i g
  · obtain rfl : i = k := by omega
    have := chunk_at (s := []) hZ hz
    rw [List.append_nil] at this
    rw [this]; exact hu
theorem ChunksTo.all {Z z : List α} {c k : Nat} (h : ChunksTo key Z c k) (hZ : Z.length = k * c) (hz : z.length ≤ c) (hu : Up key z) : Chunks key (Z ++ z) c := fun i => by
  rcases Nat.lt_trichotomy i k with g | rfl | g
  · rw [chunk_left hZ g]; exact h i g
  · rw [chunk_last hZ hz]; exact hu
  · rw [chunk_past hZ hz g]; exact up_nil
theorem Chunks.whole {l : List α} {c : Nat} (h : Chunks key l c) (hc : l.length ≤ c) : Up key l := by
  have := h 0
  unfold chunk at this
  rwa [Nat.zero_mul, List.drop_zero, List.take_of_length_le hc] at this
/-- the first two parts of a list, and the rest -/
theorem Chunks.two {R : List α} {c : Nat} (h : Chunks key R c) (hc : c + c ≤ R.length) : ∃ u v R', R = u ++ (v ++ R') ∧ u.length = c ∧ v.length = c ∧ Up key u ∧ Up key v ∧ Chunks key R' c := by
  refine ⟨R.take c, (R.drop c).take c, R.drop (c + c), ?_, by rw [List.length_take]; omega, by rw [List.length_take, List.length_drop]; omega, ?_, ?_, fun i => ?_⟩
  · rw [← List.drop_drop, List.take_append_drop, List.take_append_drop]
  · have := h 0
    unfold chunk at this
    rwa [Nat.zero_mul, List.drop_zero] at this
  · have := h 1
    unfold chunk at this
    rwa [Nat.one_mul] at this
  · have := h (i + 2)
    unfold chunk at this ⊢
    rw [List.drop_drop]
    rwa [show (i + 2) * c = c + c + i * c by rw [Nat.add_mul]; omega] at this
/-- the first part of a list, and the rest that is no longer than a part -/
theorem Chunks.rest {R : List α} {c : Nat} (h : Chunks key R c) (h1 : c < R.length) (h2 : R.length < c + c) : ∃ u v, R = u ++ v ∧ u.length = c ∧ 0 < v.length ∧ Up key u ∧ Up key v := by
  refine ⟨R.take c, R.drop c, (List.take_append_drop _ _).symm, by rw [List.length_take]; omega, by rw [List.length_drop]; omega, ?_, ?_⟩
  · have := h 0
    unfold chunk at this
    rwa [Nat.zero_mul, List.drop_zero] at this
  · have := h 1
    unfold chunk at this
    rwa [Nat.one_mul, List.take_of_length_le (by rw [List.length_drop]; omega)] at this
end
end Go.Proofs.Yteoikaedpgianaa
