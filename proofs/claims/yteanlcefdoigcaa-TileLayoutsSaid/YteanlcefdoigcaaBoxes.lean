/- A region that draws its order: plain values first, then blocks, then a store into each. For whatever program. -/
import Derived.Test.YteanlcefdoigcaaExt
import Derived.Test.YteanlcefdoigcaaAid
import Derived.Laws.Tables
namespace Go.Proofs.Yteanlcefdoigcaa
open Go.RowKit

/-- what holds while m blocks are laid and filled behind c plain values -/
structure BoxR (W0 : World) (c m : Nat) (V : Nat → Value) (Z C : Nat → Array Value) (T : Nat → TypeId) (L : Nat → Bool) (us : Nat → Value) (W : World) : Prop where
  grow : Below W0.heap.size W0 W
  vals : ∀ j, j < c → L j = true → us j = V j
  box : ∀ i, i < m → L (c + i) = true → ∃ g, us (c + i) = .pointer (some ⟨g, 0, none⟩) ∧ W0.heap.size ≤ g ∧ W.heap[g]? = some (.cells (if L (c + m + i) = true then C i else Z i) (T i))
  ne : ∀ i j, i < m → j < m → i ≠ j → L (c + i) = true → L (c + j) = true → us (c + i) ≠ us (c + j)
  dep : ∀ i, i < m → L (c + m + i) = true → L (c + i) = true
theorem BoxR.start {W0 : World} {c m : Nat} {V : Nat → Value} {Z C : Nat → Array Value} {T : Nat → TypeId} {us : Nat → Value} : BoxR W0 c m V Z C T (fun _ => false) us W0.drew :=
  ⟨(Below.refl _ _).drew, fun _ _ h => (Bool.false_ne_true h).elim, fun _ _ h => (Bool.false_ne_true h).elim, fun _ _ _ _ _ h => (Bool.false_ne_true h).elim, fun _ _ h => (Bool.false_ne_true h).elim⟩
section
variable {W0 W W' : World} {c m : Nat} {V : Nat → Value} {Z C : Nat → Array Value} {T : Nat → TypeId} {L : Nat → Bool} {us : Nat → Value}
theorem box_other {k j : Nat} {v : Value} (h : j ≠ k) : ((j == k || L j) = L j) ∧ updF us k v j = us j :=
  ⟨by rw [show (j == k) = false from beq_false_of_ne h, Bool.false_or], by simp [updF, h]⟩
theorem BoxR.pure {k : Nat} {v : Value} (h : BoxR W0 c m V Z C T L us W) (hk : k < c) (hB : Below W.heap.size W W') (hv : v = V k) : BoxR W0 c m V Z C T (fun j => j == k || L j) (updF us k v) W' := by
  have o : ∀ j, c ≤ j → ((j == k || L j) = L j) ∧ updF us k v j = us j := fun j hj => box_other (by omega)
  refine ⟨h.grow.trans (hB.mono h.grow.size), ?_, ?_, ?_, ?_⟩
  · intro j hj hLj
    by_cases hjk : j = k
    · subst hjk; simp [updF, hv]
    · rw [(box_other (L := L) (us := us) (v := v) hjk).2]
      exact h.vals j hj (by simpa [hjk] using hLj)
  · intro i hi hLi
    simp only [(o (c + i) (by omega)).1, (o (c + i) (by omega)).2, (o (c + m + i) (by omega)).1] at hLi ⊢
    obtain ⟨g, e, hg, hh⟩ := h.box i hi hLi
    exact ⟨g, e, hg, heap_still hB hh⟩
  · intro i j hi hj hij h1 h2
    simp only [(o (c + i) (by omega)).1, (o (c + i) (by omega)).2, (o (c + j) (by omega)).1, (o (c + j) (by omega)).2] at h1 h2 ⊢
    exact h.ne i j hi hj hij h1 h2
  · intro i hi h1
    simp only [(o (c + i) (by omega)).1, (o (c + m + i) (by omega)).1] at h1 ⊢
    exact h.dep i hi h1
theorem BoxR.alloc {i : Nat} (h : BoxR W0 c m V Z C T L us W) (hi : i < m) (hL : L (c + i) = false) :
    BoxR W0 c m V Z C T (fun j => j == c + i || L j) (updF us (c + i) (.pointer (some ⟨W.heap.size, 0, none⟩))) (W.alloc (.cells (Z i) (T i))) := by
  have hB := (Below.refl W.heap.size W).alloc (Nat.le_refl _) (.cells (Z i) (T i))
  have hnd : L (c + m + i) = false := by
    cases hd : L (c + m + i)
    · rfl
    · rw [h.dep i hi hd] at hL; cases hL
  refine ⟨h.grow.trans (hB.mono h.grow.size), ?_, ?_, ?_, ?_⟩
  · intro j hj hLj
    have o := box_other (L := L) (us := us) (v := .pointer (some ⟨W.heap.size, 0, none⟩)) (show j ≠ c + i by omega)
    rw [o.1] at hLj
    rw [o.2]
    exact h.vals j hj hLj
  · intro j hj hLj
    have o2 := box_other (L := L) (us := us) (v := .pointer (some ⟨W.heap.size, 0, none⟩)) (show c + m + j ≠ c + i by omega)
    simp only [o2.1]
    by_cases hji : j = i
    · subst hji
      refine ⟨W.heap.size, by simp [updF], h.grow.size, ?_⟩
      rw [hnd, if_neg (by decide)]
      exact heap_alloc_at _ _ _ rfl
    · have o := box_other (L := L) (us := us) (v := .pointer (some ⟨W.heap.size, 0, none⟩)) (show c + j ≠ c + i by omega)
      rw [o.1] at hLj
      obtain ⟨g, e, hg, hh⟩ := h.box j hj hLj
      exact ⟨g, by rw [o.2]; exact e, hg, heap_alloc_past _ _ _ _ hh⟩
  · intro a b ha hb hab h1 h2
    have key : ∀ x, x < m → x ≠ i → (x + c == c + i || L (c + x)) = true → L (c + x) = true → us (c + x) ≠ .pointer (some ⟨W.heap.size, 0, none⟩) := by
      intro x hx hxi _ hLx he
      obtain ⟨g, e, _, hh⟩ := h.box x hx hLx
      rw [e] at he
      injection he with he
      injection he with he
      injection he with he
      have := (Array.getElem?_eq_some_iff.1 hh).1
      omega
    by_cases hai : a = i
    · subst hai
      have o := box_other (L := L) (us := us) (v := .pointer (some ⟨W.heap.size, 0, none⟩)) (show c + b ≠ c + a by omega)
      rw [o.1] at h2
      rw [o.2]
      simp only [updF, if_true]
      exact fun he => key b hb (by omega) (by rw [h2]; simp) h2 he.symm
    · have o := box_other (L := L) (us := us) (v := .pointer (some ⟨W.heap.size, 0, none⟩)) (show c + a ≠ c + i by omega)
      rw [o.1] at h1
      rw [o.2]
      by_cases hbi : b = i
      · subst hbi
        simp only [updF, if_true]
        exact key a ha hai (by rw [h1]; simp) h1
      · have o' := box_other (L := L) (us := us) (v := .pointer (some ⟨W.heap.size, 0, none⟩)) (show c + b ≠ c + i by omega)
        rw [o'.1] at h2
        rw [o'.2]
        exact h.ne a b ha hb hab h1 h2
  · intro j hj h1
    have o2 := box_other (L := L) (us := us) (v := .pointer (some ⟨W.heap.size, 0, none⟩)) (show c + m + j ≠ c + i by omega)
    rw [o2.1] at h1
    rw [h.dep j hj h1]
    simp
theorem BoxR.store {i g : Nat} {v : Value} (h : BoxR W0 c m V Z C T L us W) (hi : i < m) (hL : L (c + i) = true) (e : us (c + i) = .pointer (some ⟨g, 0, none⟩)) (hg : W0.heap.size ≤ g) (hh : W.heap[g]? = some (.cells (Z i) (T i))) :
    BoxR W0 c m V Z C T (fun j => j == c + m + i || L j) (updF us (c + m + i) v) (W.setRow g (C i)) := by
  have o : ∀ j, j < c + m → ((j == c + m + i || L j) = L j) ∧ updF us (c + m + i) v j = us j := fun j hj => box_other (by omega)
  refine ⟨below_setRow h.grow hg _, ?_, ?_, ?_, ?_⟩
  · intro j hj hLj
    rw [(o j (by omega)).1] at hLj
    rw [(o j (by omega)).2]
    exact h.vals j hj hLj
  · intro j hj hLj
    simp only [(o (c + j) (by omega)).1, (o (c + j) (by omega)).2] at hLj ⊢
    by_cases hji : j = i
    · subst hji
      refine ⟨g, e, hg, ?_⟩
      rw [show (c + m + j == c + m + j || L (c + m + j)) = true by simp, if_pos rfl]
      exact setRow_heap _ _ _ _ _ _ hh
    · obtain ⟨g', e', hg', hh'⟩ := h.box j hj hLj
      refine ⟨g', e', hg', ?_⟩
      rw [show (c + m + j == c + m + i || L (c + m + j)) = L (c + m + j) by rw [show (c + m + j == c + m + i) = false from beq_false_of_ne (by omega), Bool.false_or]]
      have hne : g' ≠ g := by
        rintro rfl
        exact h.ne j i hj hi hji hLj hL (by rw [e, e'])
      show (W.heap.modify g _)[g']? = _
      rw [Array.getElem?_modify, if_neg (by omega)]
      exact hh'
  · intro a b ha hb hab h1 h2
    simp only [(o (c + a) (by omega)).1, (o (c + a) (by omega)).2, (o (c + b) (by omega)).1, (o (c + b) (by omega)).2] at h1 h2 ⊢
    exact h.ne a b ha hb hab h1 h2
  · intro j hj h1
    rw [(o (c + j) (by omega)).1]
    by_cases hji : j = i
    · subst hji; exact hL
    · rw [show (c + m + j == c + m + i || L (c + m + j)) = L (c + m + j) by rw [show (c + m + j == c + m + i) = false from beq_false_of_ne (by omega), Bool.false_or]] at h1
      exact h.dep j hj h1
end
end Go.Proofs.Yteanlcefdoigcaa
