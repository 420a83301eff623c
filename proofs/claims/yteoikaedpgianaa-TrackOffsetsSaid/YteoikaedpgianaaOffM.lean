/- Plain law: what the clocks say of each sync, by index. -/
import Derived.Test.YteoikaedpgianaaClockM
namespace Go.Proofs.Yteoikaedpgianaa

/-- clock i of the list suits the sync -/
def Suits (l : List (Int × Int × Int)) (s : Int × Int × Int) (i : Nat) : Prop :=
  ∃ c, l[i]? = some c ∧ c.1 ≤ s.1 ∧ (i + 1 = l.length ∨ ∃ d, l[i + 1]? = some d ∧ s.1 ≤ d.1) ∧ offLo s ≤ c.2.1 ∧ c.2.1 ≤ c.2.2 ∧ c.2.2 ≤ offHi s
theorem meets_index : ∀ {O : List (Int × Int × Int)} {s : Int × Int × Int} {nx : Option Int}, Meets s O nx →
    ∃ i c, O.reverse[i]? = some c ∧ c.1 ≤ s.1 ∧ ((i + 1 = O.length ∧ ∀ f, nx = some f → s.1 ≤ f) ∨ ∃ d, O.reverse[i + 1]? = some d ∧ s.1 ≤ d.1) ∧ offLo s ≤ c.2.1 ∧ c.2.1 ≤ c.2.2 ∧ c.2.2 ≤ offHi s
  | [], s, nx, h => h.elim
  | c :: O, s, nx, h => by
    have e0 : (c :: O).reverse = O.reverse ++ [c] := List.reverse_cons
    rcases h with ⟨h1, h2, h3⟩ | h
    · refine ⟨O.length, c, by rw [e0]; simp, h1, Or.inl ⟨rfl, h2⟩, h3⟩
    · obtain ⟨i, d, hd, h1, h2, h3⟩ := meets_index h
      have hi : i < O.reverse.length := (List.getElem?_eq_some_iff.1 hd).1
      refine ⟨i, d, by rw [e0, List.getElem?_append_left hi]; exact hd, h1, Or.inr ?_, h3⟩
      rcases h2 with ⟨h2, h4⟩ | ⟨e, he, h4⟩
      · refine ⟨c, ?_, h4 _ rfl⟩
        rw [e0, List.getElem?_append_right (by simp; omega)]
        simp [h2]
      · have hi2 : i + 1 < O.reverse.length := (List.getElem?_eq_some_iff.1 he).1
        exact ⟨e, by rw [e0, List.getElem?_append_left hi2]; exact he, h4⟩
theorem clocks_suit {z : List (Int × Int × Int)} (hv : ∀ s ∈ z, syncOk s) (hu : z.Pairwise (fun a b => a.1 ≤ b.1)) {s : Int × Int × Int} (hs : s ∈ z) : ∃ i, Suits (clocksOf z) s i := by
  have h := fold_meets z [] [] hv hu (by simp) (by simp) (by simp) s (by simpa using hs)
  obtain ⟨i, c, hc, h1, h2, h3⟩ := meets_index h
  refine ⟨i, c, hc, h1, ?_, h3⟩
  rcases h2 with ⟨h2, _⟩ | h2
  · exact Or.inl (by unfold clocksOf; rw [List.length_reverse]; exact h2)
  · exact Or.inr h2
theorem clocks_all {z : List (Int × Int × Int)} {x : Int} (hz : z ≠ []) (h : ∀ s ∈ z, offLo s ≤ x ∧ x ≤ offHi s) : ∃ c, clocksOf z = [c] ∧ c.2.1 ≤ x ∧ x ≤ c.2.2 := by
  obtain ⟨c, h1, h2⟩ := fold_all x z [] h (Or.inl rfl) (Or.inl hz)
  exact ⟨c, by unfold clocksOf; rw [h1]; rfl, h2⟩
end Go.Proofs.Yteoikaedpgianaa
