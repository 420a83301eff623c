/- Plain law: lists sorted by a key and stable: one such list for each list; what the library's merge by rotations makes. -/
namespace Go.Proofs.Yteoikaedpgianaa
section
variable {α : Type} (key : α → Int)

/-- the elements of a key, in their order -/
def ofKey (k : Int) (l : List α) : List α := l.filter fun x => key x == k
/-- y has the elements of x, those of one key in the same order -/
def Same (x y : List α) : Prop := ∀ k, ofKey key k y = ofKey key k x
/-- sorted by the key -/
def Up (l : List α) : Prop := l.Pairwise fun a b => key a ≤ key b
/-- y is x, sorted and stable -/
def Stab (x y : List α) : Prop := Up key y ∧ Same key x y
variable {key}
theorem ofKey_append (k : Int) (x y : List α) : ofKey key k (x ++ y) = ofKey key k x ++ ofKey key k y := List.filter_append ..
theorem Same.refl (x : List α) : Same key x x := fun _ => rfl
theorem Same.trans {x y z : List α} (h : Same key x y) (g : Same key y z) : Same key x z := fun k => (g k).trans (h k)
theorem Same.symm {x y : List α} (h : Same key x y) : Same key y x := fun k => (h k).symm
theorem Same.append {x y u v : List α} (h : Same key x y) (g : Same key u v) : Same key (x ++ u) (y ++ v) := fun k => by rw [ofKey_append, ofKey_append, h k, g k]
theorem mem_ofKey {k : Int} {l : List α} {x : α} : x ∈ ofKey key k l ↔ x ∈ l ∧ key x = k := by simp [ofKey]
theorem Same.mem {x y : List α} (h : Same key x y) (a : α) : a ∈ y ↔ a ∈ x := by
  have := h (key a)
  constructor
  · intro ha
    have : a ∈ ofKey key (key a) y := mem_ofKey.2 ⟨ha, rfl⟩
    rw [h] at this
    exact (mem_ofKey.1 this).1
  · intro ha
    have : a ∈ ofKey key (key a) x := mem_ofKey.2 ⟨ha, rfl⟩
    rw [← h] at this
    exact (mem_ofKey.1 this).1
theorem Same.nil {y : List α} (h : Same key [] y) : y = [] := by
  match y with
  | [] => rfl
  | a :: _ => exact absurd ((h.mem a).1 (by simp)) (by simp)
/-- there is one list that is sorted and has the same elements of each key -/
theorem up_one : ∀ {x y : List α}, Up key x → Up key y → Same key x y → x = y
  | [], y, _, _, h => h.nil.symm
  | a :: x, [], _, _, h => absurd ((h.mem a).2 (by simp)) (by simp)
  | a :: x, b :: y, hx, hy, h => by
    have hx' := List.pairwise_cons.1 hx
    have hy' := List.pairwise_cons.1 hy
    have h1 : key a ≤ key b := by
      have := (h.mem b).1 (by simp)
      rcases List.mem_cons.1 this with rfl | g
      · exact Int.le_refl _
      · exact hx'.1 b g
    have h2 : key b ≤ key a := by
      have := (h.mem a).2 (by simp)
      rcases List.mem_cons.1 this with rfl | g
      · exact Int.le_refl _
      · exact hy'.1 a g
    have hk : key a = key b := by omega
    have h3 := h (key a)
    have e1 : ofKey key (key a) (a :: x) = a :: ofKey key (key a) x := by simp [ofKey]
    have e2 : ofKey key (key a) (b :: y) = b :: ofKey key (key a) y := by simp [ofKey, hk]
    rw [e1, e2] at h3
    injection h3 with h4 h5
    subst h4
    rw [up_one hx'.2 hy'.2 (fun k => by
      by_cases g : key b = k
      · subst g; exact h5
      · have := h k
        simpa [ofKey, g] using this)]
theorem Stab.one {x y z : List α} (h : Stab key x y) (g : Stab key x z) : y = z := up_one h.1 g.1 (h.2.symm.trans g.2)
/-- two parts without a common key may change places -/
theorem same_swap {x y : List α} (h : ∀ a ∈ x, ∀ b ∈ y, key a ≠ key b) : Same key (x ++ y) (y ++ x) := fun k => by
  rw [ofKey_append, ofKey_append]
  by_cases hx : ofKey key k x = []
  · rw [hx]; simp
  · have hy : ofKey key k y = [] := by
      cases hh : ofKey key k y with
      | nil => rfl
      | cons b t =>
        have hb := mem_ofKey.1 (hh ▸ List.mem_cons_self : b ∈ ofKey key k y)
        cases hg : ofKey key k x with
        | nil => exact absurd hg hx
        | cons a s =>
          have ha := mem_ofKey.1 (hg ▸ List.mem_cons_self : a ∈ ofKey key k x)
          exact absurd (ha.2.trans hb.2.symm) (h a ha.1 b hb.1)
    rw [hy]; simp
theorem up_append {x y : List α} : Up key (x ++ y) ↔ Up key x ∧ Up key y ∧ ∀ a ∈ x, ∀ b ∈ y, key a ≤ key b := List.pairwise_append
/-- the merge's step: the parts x2 and y1 have changed places, each side is merged by itself -/
theorem stab_merge {x1 x2 y1 y2 z1 z2 : List α} (h1 : Stab key (x1 ++ y1) z1) (h2 : Stab key (x2 ++ y2) z2) (hs : ∀ a ∈ x2, ∀ b ∈ y1, key b < key a) (hl : ∀ a ∈ x1 ++ y1, ∀ b ∈ x2 ++ y2, key a ≤ key b) :
    Stab key (x1 ++ x2 ++ (y1 ++ y2)) (z1 ++ z2) := by
  refine ⟨up_append.2 ⟨h1.1, h2.1, fun a ha b hb => hl a ((h1.2.mem a).1 ha) b ((h2.2.mem b).1 hb)⟩, ?_⟩
  have e : Same key (x1 ++ x2 ++ (y1 ++ y2)) (x1 ++ y1 ++ (x2 ++ y2)) := by
    have := (Same.refl (key := key) x1).append ((same_swap (x := x2) (y := y1) (fun a ha b hb => by have := hs a ha b hb; omega)).append (Same.refl (key := key) y2))
    simpa [List.append_assoc] using this
  exact e.trans (h1.2.append h2.2)
/-- one element into a sorted list from the left -/
theorem stab_left {x : α} {y1 y2 : List α} (h : Up key (y1 ++ y2)) (h1 : ∀ b ∈ y1, key b < key x) (h2 : ∀ b ∈ y2, key x ≤ key b) : Stab key ([x] ++ (y1 ++ y2)) (y1 ++ ([x] ++ y2)) := by
  obtain ⟨u1, u2, u3⟩ := up_append.1 h
  refine ⟨up_append.2 ⟨u1, List.pairwise_cons.2 ⟨h2, u2⟩, fun a ha b hb => ?_⟩, ?_⟩
  · rcases List.mem_append.1 hb with g | g
    · rw [List.mem_singleton.1 g]; have := h1 a ha; omega
    · exact u3 a ha b g
  · have := (same_swap (key := key) (x := [x]) (y := y1) (fun a ha b hb => by rw [List.mem_singleton.1 ha]; have := h1 b hb; omega)).append (Same.refl (key := key) y2)
    simpa [List.append_assoc] using this
/-- one element into a sorted list from the right -/
theorem stab_right {y : α} {x1 x2 : List α} (h : Up key (x1 ++ x2)) (h1 : ∀ a ∈ x1, key a ≤ key y) (h2 : ∀ a ∈ x2, key y < key a) : Stab key ((x1 ++ x2) ++ [y]) (x1 ++ ([y] ++ x2)) := by
  obtain ⟨u1, u2, u3⟩ := up_append.1 h
  refine ⟨up_append.2 ⟨u1, List.pairwise_cons.2 ⟨fun b hb => by have := h2 b hb; omega, u2⟩, fun a ha b hb => ?_⟩, ?_⟩
  · rcases List.mem_append.1 hb with g | g
    · rw [List.mem_singleton.1 g]; exact h1 a ha
    · exact u3 a ha b g
  · have := (Same.refl (key := key) x1).append (same_swap (key := key) (x := x2) (y := [y]) (fun a ha b hb => by rw [List.mem_singleton.1 hb]; have := h2 a ha; omega))
    simpa [List.append_assoc] using this
/-- an element that goes left past greater ones -/
theorem same_step {p s : List α} {x y : α} (h : key y < key x) : Same key (p ++ x :: y :: s) (p ++ y :: x :: s) := by
  have := (Same.refl (key := key) p).append ((same_swap (key := key) (x := [x]) (y := [y]) (fun a ha b hb => by rw [List.mem_singleton.1 ha, List.mem_singleton.1 hb]; omega)).append (Same.refl (key := key) s))
  simpa using this
end
end Go.Proofs.Yteoikaedpgianaa
