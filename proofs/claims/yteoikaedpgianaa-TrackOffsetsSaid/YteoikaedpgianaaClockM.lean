/- Plain law of the clocks of syncs: the fold over the sorted syncs, and what it says of each sync. -/
import Derived.Test.YteoikaedpgianaaMergeM
namespace Go.Proofs.Yteoikaedpgianaa

/-- the ends of a sync's offsets; a sync is (Scan, Nav, Err), a clock (From, Lo, Hi) -/
def offLo (s : Int × Int × Int) : Int := s.2.1 - s.1 - s.2.2
def offHi (s : Int × Int × Int) : Int := s.2.1 - s.1 + s.2.2
/-- the clocks, the last one first -/
def clockR : List (Int × Int × Int) → List (Int × Int × Int) → List (Int × Int × Int)
  | O, [] => O
  | [], s :: l => clockR [(s.1, offLo s, offHi s)] l
  | c :: O, s :: l => if max c.2.1 (offLo s) ≤ min c.2.2 (offHi s) then clockR ((c.1, max c.2.1 (offLo s), min c.2.2 (offHi s)) :: O) l else clockR ((s.1, offLo s, offHi s) :: c :: O) l
/-- one sync more -/
def clockStep (O : List (Int × Int × Int)) (s : Int × Int × Int) : List (Int × Int × Int) := match O with
  | [] => [(s.1, offLo s, offHi s)]
  | c :: O => if max c.2.1 (offLo s) ≤ min c.2.2 (offHi s) then (c.1, max c.2.1 (offLo s), min c.2.2 (offHi s)) :: O else (s.1, offLo s, offHi s) :: c :: O
theorem clockR_fold : ∀ (l O : List (Int × Int × Int)), clockR O l = l.foldl clockStep O
  | [], O => by cases O <;> rfl
  | s :: l, [] => clockR_fold l _
  | s :: l, c :: O => by
    show (if _ then _ else _) = l.foldl clockStep (if _ then _ else _)
    split
    · exact clockR_fold l _
    · exact clockR_fold l _
/-- the clocks of sorted syncs, the first one first -/
def clocksOf (l : List (Int × Int × Int)) : List (Int × Int × Int) := (l.foldl clockStep []).reverse
def syncOk (s : Int × Int × Int) : Prop := 0 ≤ s.2.2
/-- sync s belongs to a clock of the list (the last one first) whose starts are at most B -/
def Meets (s : Int × Int × Int) : List (Int × Int × Int) → Option Int → Prop
  | [], _ => False
  | c :: O, nx => (c.1 ≤ s.1 ∧ (∀ f, nx = some f → s.1 ≤ f) ∧ offLo s ≤ c.2.1 ∧ c.2.1 ≤ c.2.2 ∧ c.2.2 ≤ offHi s) ∨ Meets s O (some c.1)
theorem Meets.push {s c : Int × Int × Int} {O : List (Int × Int × Int)} (h : Meets s O none) (hs : s.1 ≤ c.1) : Meets s (c :: O) none := by
  match O with
  | [] => exact h.elim
  | d :: O =>
    rcases h with ⟨h1, _, h3⟩ | h
    · exact Or.inr (Or.inl ⟨h1, fun f hf => by cases hf; exact hs, h3⟩)
    · exact Or.inr (Or.inr h)
theorem fold_meets : ∀ (l O done : List (Int × Int × Int)), (∀ s ∈ l, syncOk s) → l.Pairwise (fun a b => a.1 ≤ b.1) → (∀ s ∈ done, Meets s O none) → (∀ s ∈ done, ∀ t ∈ l, s.1 ≤ t.1) → (∀ c ∈ O.head?, ∀ t ∈ l, c.1 ≤ t.1) →
    ∀ s ∈ done ++ l, Meets s (l.foldl clockStep O) none
  | [], O, done, _, _, hd, _, _ => by simpa using hd
  | t :: l, O, done, hv, hp, hd, hdl, hO => by
    have hp' := List.pairwise_cons.1 hp
    have ht : offLo t ≤ offHi t := by have := hv t (by simp); unfold syncOk at this; unfold offLo offHi; omega
    have ih := fold_meets l (clockStep O t) (done ++ [t]) (fun s hs => hv s (by simp [hs])) hp'.2
    have hnew : Meets t (clockStep O t) none := by
      unfold clockStep
      split
      · exact Or.inl ⟨Int.le_refl _, fun _ hf => absurd hf (by simp), Int.le_refl _, ht, Int.le_refl _⟩
      · next c O =>
        split
        · next h => exact Or.inl ⟨hO c (by simp) t (by simp), fun _ hf => absurd hf (by simp), Int.le_max_right _ _, h, Int.min_le_right _ _⟩
        · exact Or.inl ⟨Int.le_refl _, fun _ hf => absurd hf (by simp), Int.le_refl _, ht, Int.le_refl _⟩
    have hold : ∀ s ∈ done, Meets s (clockStep O t) none := fun s hs => by
      have h0 := hd s hs
      have hst := hdl s hs t (by simp)
      unfold clockStep
      split
      · exact h0.elim
      · next c O =>
        split
        · next h =>
          rcases h0 with ⟨h1, h2, h3, h4, h5⟩ | h0
          · refine Or.inl ⟨h1, h2, ?_, h, ?_⟩
            · have := Int.le_max_left c.2.1 (offLo t); show _ ≤ max c.2.1 (offLo t); omega
            · have := Int.min_le_left c.2.2 (offHi t); show min c.2.2 (offHi t) ≤ _; omega
          · exact Or.inr h0
        · exact Meets.push h0 hst
    have hhead : ∀ c ∈ (clockStep O t).head?, ∀ x ∈ l, c.1 ≤ x.1 := by
      intro c hc x hx
      unfold clockStep at hc
      split at hc
      · simp at hc; subst hc; exact hp'.1 x hx
      · next d O =>
        split at hc
        · simp at hc; subst hc; exact hO d (by simp) x (by simp [hx])
        · simp at hc; subst hc; exact hp'.1 x hx
    have := ih (fun s hs => by
      rcases List.mem_append.1 hs with g | g
      · exact hold s g
      · rw [List.mem_singleton.1 g]; exact hnew) (fun s hs x hx => by
      rcases List.mem_append.1 hs with g | g
      · exact hdl s g x (by simp [hx])
      · rw [List.mem_singleton.1 g]; exact hp'.1 x hx) hhead
    intro s hs
    exact this s (by simpa using hs)
theorem fold_all (x : Int) : ∀ (l : List (Int × Int × Int)) (O : List (Int × Int × Int)), (∀ s ∈ l, offLo s ≤ x ∧ x ≤ offHi s) → (O = [] ∨ ∃ c, O = [c] ∧ c.2.1 ≤ x ∧ x ≤ c.2.2) → (l ≠ [] ∨ O ≠ []) → ∃ c, l.foldl clockStep O = [c] ∧ c.2.1 ≤ x ∧ x ≤ c.2.2
  | [], O, _, h, h0 => by
    rcases h with rfl | h
    · exact absurd rfl (h0.elim (fun h => absurd rfl h) id)
    · exact h
  | t :: l, O, hv, h, _ => by
    have ht := hv t (by simp)
    refine fold_all x l (clockStep O t) (fun s hs => hv s (by simp [hs])) (Or.inr ?_) (Or.inr ?_)
    · rcases h with rfl | ⟨c, rfl, h1, h2⟩
      · exact ⟨_, rfl, ht⟩
      · have h3 : max c.2.1 (offLo t) ≤ x := Int.max_le.2 ⟨h1, ht.1⟩
        have h4 : x ≤ min c.2.2 (offHi t) := Int.le_min.2 ⟨h2, ht.2⟩
        refine ⟨(c.1, max c.2.1 (offLo t), min c.2.2 (offHi t)), ?_, h3, h4⟩
        show (if _ then _ else _) = _
        rw [if_pos (by omega)]
    · unfold clockStep
      split
      · simp
      · split <;> simp
theorem fold_length : ∀ (l O : List (Int × Int × Int)), (l.foldl clockStep O).length ≤ O.length + l.length ∧ (O.length + l.length ≠ 0 → (l.foldl clockStep O).length ≠ 0)
  | [], O => ⟨by simp, by simp⟩
  | t :: l, O => by
    have ih := fold_length l (clockStep O t)
    have h1 : (clockStep O t).length ≤ O.length + 1 ∧ (clockStep O t).length ≠ 0 := by
      unfold clockStep
      split
      · simp
      · split <;> simp
    rw [List.foldl_cons]
    refine ⟨by simp only [List.length_cons]; omega, fun _ => ih.2 (by omega)⟩
end Go.Proofs.Yteoikaedpgianaa
