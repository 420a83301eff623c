/- The reference's list of the keys of differing tiles, in plain Lean. -/
import Derived.Test.YteanlcefdoigcaaAffM
namespace Go.Proofs.Yteanlcefdoigcaa
open Go.RowKit

/-- the keys that differ among the first i tiles of the one list and the first j of the other -/
structure RefAt (A B : List Tl) (i j : Nat) (K : List Ky) : Prop where
  mem : ∀ k, k ∈ K ↔ (∃ t ∈ A.take i, t.key = k ∧ t ∉ B) ∨ (∃ t ∈ B.take j, t.key = k ∧ t ∉ A)
  ne : K.Pairwise (fun a b => a ≠ b)
theorem RefAt.start (A B : List Tl) : RefAt A B 0 0 [] := ⟨fun k => by simp, List.Pairwise.nil⟩
section
variable {A B : List Tl} {i j : Nat} {K : List Ky} {t : Tl}
theorem ne_push {k : Ky} (h : K.Pairwise (fun a b => a ≠ b)) (hk : k ∉ K) : (K ++ [k]).Pairwise (fun a b => a ≠ b) := by
  rw [List.pairwise_append]
  refine ⟨h, List.pairwise_singleton _ _, fun a ha b hb e => ?_⟩
  obtain rfl := List.mem_singleton.1 hb
  exact hk (e ▸ ha)
theorem RefAt.left_yes (hA : A.Pairwise (fun a b => a.key.lt b.key)) (h : RefAt A B i 0 K) (ht : A[i]? = some t) (hn : t ∉ B) : RefAt A B (i + 1) 0 (K ++ [t.key]) := by
  refine ⟨fun k => ?_, ne_push h.ne (fun hk => ?_)⟩
  · rw [List.mem_append, h.mem, take_next ht, List.mem_singleton]
    constructor
    · rintro ((⟨u, g1, g2, g3⟩ | ⟨u, g1, _⟩) | rfl)
      · exact Or.inl ⟨u, List.mem_append_left _ g1, g2, g3⟩
      · simp at g1
      · exact Or.inl ⟨t, List.mem_append_right _ (List.mem_singleton.2 rfl), rfl, hn⟩
    · rintro (⟨u, g1, g2, g3⟩ | ⟨u, g1, _⟩)
      · rcases List.mem_append.1 g1 with g | g
        · exact Or.inl (Or.inl ⟨u, g, g2, g3⟩)
        · obtain rfl := List.mem_singleton.1 g; exact Or.inr g2.symm
      · simp at g1
  · rcases (h.mem _).1 hk with ⟨u, g1, g2, _⟩ | ⟨u, g1, _⟩
    · have := order_take hA ht u g1
      rw [g2] at this
      exact Ky.lt_irrefl _ this
    · simp at g1
theorem RefAt.left_no (h : RefAt A B i 0 K) (ht : A[i]? = some t) (hn : t ∈ B) : RefAt A B (i + 1) 0 K := by
  refine ⟨fun k => ?_, h.ne⟩
  rw [h.mem, take_next ht]
  constructor
  · rintro (⟨u, g1, g2, g3⟩ | ⟨u, g1, _⟩)
    · exact Or.inl ⟨u, List.mem_append_left _ g1, g2, g3⟩
    · simp at g1
  · rintro (⟨u, g1, g2, g3⟩ | ⟨u, g1, _⟩)
    · rcases List.mem_append.1 g1 with g | g
      · exact Or.inl ⟨u, g, g2, g3⟩
      · obtain rfl := List.mem_singleton.1 g; exact absurd hn g3
    · simp at g1
theorem RefAt.right_no (h : RefAt A B i j K) (ht : B[j]? = some t) (hn : t.key ∈ K ∨ t ∈ A) : RefAt A B i (j + 1) K := by
  refine ⟨fun k => ?_, h.ne⟩
  constructor
  · intro hk
    rcases (h.mem k).1 hk with g | ⟨u, g1, g2, g3⟩
    · exact Or.inl g
    · exact Or.inr ⟨u, by rw [take_next ht]; exact List.mem_append_left _ g1, g2, g3⟩
  · rintro (g | ⟨u, g1, g2, g3⟩)
    · exact (h.mem k).2 (Or.inl g)
    · rw [take_next ht] at g1
      rcases List.mem_append.1 g1 with g | g
      · exact (h.mem k).2 (Or.inr ⟨u, g, g2, g3⟩)
      · obtain rfl := List.mem_singleton.1 g
        rcases hn with hn | hn
        · exact g2 ▸ hn
        · exact absurd hn g3
theorem RefAt.right_yes (h : RefAt A B i j K) (ht : B[j]? = some t) (hk : t.key ∉ K) (hn : t ∉ A) : RefAt A B i (j + 1) (K ++ [t.key]) := by
  refine ⟨fun k => ?_, ne_push h.ne hk⟩
  rw [List.mem_append, h.mem, take_next ht, List.mem_singleton]
  constructor
  · rintro ((g | ⟨u, g1, g2, g3⟩) | rfl)
    · exact Or.inl g
    · exact Or.inr ⟨u, List.mem_append_left _ g1, g2, g3⟩
    · exact Or.inr ⟨t, List.mem_append_right _ (List.mem_singleton.2 rfl), rfl, hn⟩
  · rintro (g | ⟨u, g1, g2, g3⟩)
    · exact Or.inl (Or.inl g)
    · rcases List.mem_append.1 g1 with g | g
      · exact Or.inl (Or.inr ⟨u, g, g2, g3⟩)
      · obtain rfl := List.mem_singleton.1 g; exact Or.inr g2.symm
theorem Ky.lt_of {a b : Ky} (h : ¬ b.lt a) (hne : a ≠ b) : a.lt b := by
  have : ¬ (a.L = b.L ∧ a.x = b.x ∧ a.y = b.y ∧ a.z = b.z) := fun ⟨h1, h2, h3, h4⟩ => hne (Ky.ext' h1 h2 h3 h4)
  unfold Ky.lt at *
  omega
theorem RefAt.done (h : RefAt A B A.length B.length K) {K' : List Ky} (hp : K'.Perm K) (hs : K'.Pairwise (fun a b => ¬ b.lt a)) : IsChg A B K' := by
  have hne := (hp.pairwise_iff (R := fun a b : Ky => a ≠ b) (fun {_ _} e => Ne.symm e)).2 h.ne
  refine ⟨(hs.and hne).imp (fun g => Ky.lt_of g.1 g.2), fun k => ?_⟩
  rw [hp.mem_iff, h.mem, List.take_length, List.take_length]
  rfl
end
end Go.Proofs.Yteanlcefdoigcaa
