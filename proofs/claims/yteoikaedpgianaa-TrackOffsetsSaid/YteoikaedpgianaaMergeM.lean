/- Plain law: the library's merge by rotations: its parts, and the blocks of the stable sort. -/
import Derived.Test.YteoikaedpgianaaStableM
namespace Go.Proofs.Yteoikaedpgianaa
section
variable {α : Type} {key : α → Int}
theorem up_last {l : List α} {v : α} (h : Up key l) (hv : l.getLast? = some v) : ∀ w ∈ l, key w ≤ key v := by
  rcases List.eq_nil_or_concat l with rfl | ⟨t, u, rfl⟩
  · simp at hv
  · rw [List.concat_eq_append] at h hv ⊢
    rw [List.getLast?_append] at hv
    simp at hv
    subst hv
    intro w hw
    rcases List.mem_append.1 hw with g | g
    · exact (up_append.1 h).2.2 w g u (by simp)
    · rw [List.mem_singleton.1 g]; exact Int.le_refl _
theorem up_head {l : List α} {v : α} (h : Up key l) (hv : l.head? = some v) : ∀ w ∈ l, key v ≤ key w := by
  match l with
  | [] => simp at hv
  | u :: t =>
    simp at hv
    subst hv
    intro w hw
    rcases List.mem_cons.1 hw with rfl | g
    · exact Int.le_refl _
    · exact (List.pairwise_cons.1 h).1 w g
/-- one element to the left of a sorted list, placed by its neighbours -/
theorem left_near {x : α} {y1 y2 : List α} (h : Up key (y1 ++ y2)) (h1 : ∀ v, y1.getLast? = some v → key v < key x) (h2 : ∀ v, y2.head? = some v → key x ≤ key v) : Stab key ([x] ++ (y1 ++ y2)) (y1 ++ ([x] ++ y2)) := by
  obtain ⟨u1, u2, _⟩ := up_append.1 h
  refine stab_left h (fun b hb => ?_) (fun b hb => ?_)
  · cases g : y1.getLast? with
    | none => rw [List.getLast?_eq_none_iff.1 g] at hb; simp at hb
    | some v => have := up_last u1 g b hb; have := h1 v g; omega
  · cases g : y2.head? with
    | none => rw [List.head?_eq_none_iff.1 g] at hb; simp at hb
    | some v => have := up_head u2 g b hb; have := h2 v g; omega
/-- one element to the right of a sorted list, placed by its neighbours -/
theorem right_near {y : α} {x1 x2 : List α} (h : Up key (x1 ++ x2)) (h1 : ∀ v, x1.getLast? = some v → key v ≤ key y) (h2 : ∀ v, x2.head? = some v → key y < key v) : Stab key ((x1 ++ x2) ++ [y]) (x1 ++ ([y] ++ x2)) := by
  obtain ⟨u1, u2, _⟩ := up_append.1 h
  refine stab_right h (fun b hb => ?_) (fun b hb => ?_)
  · cases g : x1.getLast? with
    | none => rw [List.getLast?_eq_none_iff.1 g] at hb; simp at hb
    | some v => have := up_last u1 g b hb; have := h1 v g; omega
  · cases g : x2.head? with
    | none => rw [List.head?_eq_none_iff.1 g] at hb; simp at hb
    | some v => have := up_head u2 g b hb; have := h2 v g; omega
/-- the merge's step, by the neighbours of the two cuts -/
theorem merge_near {x1 x2 y1 y2 z1 z2 : List α} (hx : Up key (x1 ++ x2)) (hy : Up key (y1 ++ y2)) (h1 : Stab key (x1 ++ y1) z1) (h2 : Stab key (x2 ++ y2) z2)
    (ha : ∀ u v, x2.head? = some u → y1.getLast? = some v → key v < key u) (hb : ∀ u v, x1.getLast? = some u → y2.head? = some v → key u ≤ key v) :
    Stab key (x1 ++ x2 ++ (y1 ++ y2)) (z1 ++ z2) := by
  obtain ⟨ux1, ux2, ux⟩ := up_append.1 hx
  obtain ⟨uy1, uy2, uy⟩ := up_append.1 hy
  have hs : ∀ a ∈ x2, ∀ b ∈ y1, key b < key a := fun a hA b hB => by
    cases g : x2.head? with
    | none => rw [List.head?_eq_none_iff.1 g] at hA; simp at hA
    | some u =>
      cases g' : y1.getLast? with
      | none => rw [List.getLast?_eq_none_iff.1 g'] at hB; simp at hB
      | some v => have := ha u v g g'; have := up_head ux2 g a hA; have := up_last uy1 g' b hB; omega
  refine stab_merge h1 h2 hs (fun a hA b hB => ?_)
  rcases List.mem_append.1 hA with gA | gA <;> rcases List.mem_append.1 hB with gB | gB
  · exact ux a gA b gB
  · cases g : x1.getLast? with
    | none => rw [List.getLast?_eq_none_iff.1 g] at gA; simp at gA
    | some u =>
      cases g' : y2.head? with
      | none => rw [List.head?_eq_none_iff.1 g'] at gB; simp at gB
      | some v => have := hb u v g g'; have := up_last ux1 g a gA; have := up_head uy2 g' b gB; omega
  · have := hs b gB a gA; omega
  · exact uy a gA b gB
theorem stab_self {x : List α} (h : Up key x) : Stab key x x := ⟨h, Same.refl x⟩
theorem Same.length {x y : List α} (h : Same key x y) : y.length = x.length := by
  induction x generalizing y with
  | nil => rw [h.nil]
  | cons a x ih =>
    have ha : a ∈ y := (h.mem a).2 (by simp)
    -- take out the first element of a's key
    obtain ⟨u, v, hy, hu⟩ : ∃ u v, y = u ++ a :: v ∧ ofKey key (key a) u = [] := by
      have h0 := h (key a)
      have e1 : ofKey key (key a) (a :: x) = a :: ofKey key (key a) x := by simp [ofKey]
      rw [e1] at h0
      clear e1 ih ha
      have : ∀ y : List α, ∀ t, ofKey key (key a) y = a :: t → ∃ u v, y = u ++ a :: v ∧ ofKey key (key a) u = [] := by
        intro y
        induction y with
        | nil => intro t ht; cases ht
        | cons b y ih =>
          intro t ht
          by_cases g : key b = key a
          · have : ofKey key (key a) (b :: y) = b :: ofKey key (key a) y := by simp [ofKey, g]
            rw [this] at ht
            injection ht with h1 h2
            subst h1
            exact ⟨[], y, rfl, rfl⟩
          · have e : ofKey key (key a) (b :: y) = ofKey key (key a) y := by simp [ofKey, g]
            rw [e] at ht
            obtain ⟨u, v, hy, hu⟩ := ih t ht
            exact ⟨b :: u, v, by rw [hy]; rfl, by simp [ofKey, g]; simpa [ofKey] using hu⟩
      exact this y _ h0
    have hs : Same key x (u ++ v) := by
      intro k
      have h0 := h k
      rw [hy] at h0
      rw [ofKey_append] at h0 ⊢
      by_cases g : key a = k
      · subst g
        rw [hu] at h0 ⊢
        have e1 : ofKey key (key a) (a :: x) = a :: ofKey key (key a) x := by simp [ofKey]
        have e2 : ofKey key (key a) (a :: v) = a :: ofKey key (key a) v := by simp [ofKey]
        rw [e1, e2] at h0
        simpa using h0
      · have e1 : ofKey key k (a :: x) = ofKey key k x := by simp [ofKey, g]
        have e2 : ofKey key k (a :: v) = ofKey key k v := by simp [ofKey, g]
        rw [e1, e2] at h0
        exact h0
    have := ih hs
    rw [hy]
    simp at this ⊢
    omega
end
end Go.Proofs.Yteoikaedpgianaa
