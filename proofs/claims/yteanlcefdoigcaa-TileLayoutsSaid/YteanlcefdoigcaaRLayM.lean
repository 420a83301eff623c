/- The reference's layout as lists: a point joins its tile, or begins one. -/
import Derived.Test.YteanlcefdoigcaaTileRow
namespace Go.Proofs.Yteanlcefdoigcaa
open Go.RowKit Go.Sort

/-- the tiles of the first i points -/
def QL (L : List Pt) (c i : Nat) : Pt → Ky → Prop := fun p k => p ∈ L.take i ∧ isAt L c p k
theorem QL_next {L : List Pt} {c i : Nat} {p : Pt} {k : Ky} (hi : L[i]? = some p) (hat : isAt L c p k) (q : Pt) (x : Ky) : (QL L c i q x ∨ (x = k ∧ q = p)) ↔ QL L c (i + 1) q x := by
  unfold QL
  rw [take_succ' hi, List.mem_append, List.mem_singleton]
  constructor
  · rintro (⟨h1, h2⟩ | ⟨rfl, rfl⟩)
    · exact ⟨Or.inl h1, h2⟩
    · exact ⟨Or.inr rfl, hat⟩
  · rintro ⟨h1 | rfl, h2⟩
    · exact Or.inl ⟨h1, h2⟩
    · exact Or.inr ⟨isAt_un h2 hat, rfl⟩
theorem lay_more {L : List Pt} {c i a : Nat} {p : Pt} {k : Ky} {E : List Te} {e : Te} {v : Value} (hT : Tiles (QL L c i) (E.map Te.tl)) (hi : L[i]? = some p) (hat : isAt L c p k) (hasc : L.Pairwise (fun p q => p.id < q.id)) (ha : E[a]? = some e) (hk : e.key = k) :
    Tiles (QL L c (i + 1)) ((E.set a ⟨e.key, v, e.pts ++ [p]⟩).map Te.tl) := by
  have h1 : (E.map Te.tl)[a]? = some e.tl := by rw [List.getElem?_map, ha]; rfl
  have h2 := hT.more (p := p) h1 (fun q hq => by
    have h3 := ((hT.mem e.tl (List.mem_of_getElem? h1) q).1 hq).1
    obtain ⟨j, hj, rfl⟩ := List.mem_take_iff_getElem.1 h3
    have hil : i < L.length := (List.getElem?_eq_some_iff.1 hi).1
    have h4 := List.pairwise_iff_getElem.1 hasc j i (by omega) hil (by omega)
    rw [List.getElem?_eq_getElem hil] at hi
    injection hi with hi
    rw [hi] at h4
    exact h4)
  rw [List.map_set]
  exact h2.congr (fun q x => by
    have : e.tl.key = k := hk
    rw [this]
    exact QL_next hi hat q x)
theorem lay_new {L : List Pt} {c i : Nat} {p : Pt} {k : Ky} {E : List Te} {v : Value} (hT : Tiles (QL L c i) (E.map Te.tl)) (hi : L[i]? = some p) (hat : isAt L c p k) (hno : ∀ e ∈ E, e.key ≠ k) : Tiles (QL L c (i + 1)) ((E ++ [(⟨k, v, [p]⟩ : Te)]).map Te.tl) := by
  rw [List.map_append]
  have h2 := hT.add (k := k) (pts := [p]) (fun q hq => by
    obtain ⟨t, ht, he⟩ := hT.all q k hq
    obtain ⟨e, he2, rfl⟩ := List.mem_map.1 ht
    exact hno e he2 he) (by simp) (List.pairwise_singleton _ _)
  exact h2.congr (fun q x => by
    rw [List.mem_singleton]
    exact QL_next hi hat q x)
/-- behind q tiles: the point has joined its tile, or the tile has not been met -/
def FoundAt (k : Ky) (p : Pt) (E E' : List Te) (q : Nat) (f : Bool) : Prop :=
  (f = false ∧ E' = E ∧ ∀ a e, a < q → E[a]? = some e → e.key ≠ k) ∨ (f = true ∧ ∃ (a : Nat) (e : Te) (v : Value), a < q ∧ E[a]? = some e ∧ e.key = k ∧ E' = E.set a ⟨e.key, v, e.pts ++ [p]⟩)
theorem found_start (k : Ky) (p : Pt) (E : List Te) : FoundAt k p E E 0 false := by
  refine Or.inl ⟨rfl, rfl, ?_⟩
  intro a e h
  omega
theorem found_at {k : Ky} {p : Pt} {E E' : List Te} {q : Nat} {f : Bool} (h : FoundAt k p E E' q f) : E'[q]? = E[q]? ∧ E'.length = E.length := by
  rcases h with ⟨_, rfl, _⟩ | ⟨_, a, e, v, ha, _, _, rfl⟩
  · exact ⟨rfl, rfl⟩
  · exact ⟨List.getElem?_set_ne (by omega), by simp⟩
theorem found_pass {k : Ky} {p : Pt} {E E' : List Te} {q : Nat} {f : Bool} {e : Te} (h : FoundAt k p E E' q f) (he : E[q]? = some e) (hk : e.key ≠ k) : FoundAt k p E E' (q + 1) f := by
  rcases h with ⟨h1, h2, h3⟩ | ⟨h1, a, e', v, ha, h2⟩
  · refine Or.inl ⟨h1, h2, fun a e' ha he' => ?_⟩
    by_cases haq : a = q
    · subst haq
      rw [he] at he'
      injection he' with he'
      subst he'
      exact hk
    · exact h3 a e' (by omega) he'
  · exact Or.inr ⟨h1, a, e', v, by omega, h2⟩
theorem found_hit {k : Ky} {p : Pt} {E E' : List Te} {q : Nat} {f : Bool} {e : Te} (h : FoundAt k p E E' q f) (hd : (E.map Te.tl).Pairwise (fun t u => t.key ≠ u.key)) (he : E[q]? = some e) (hk : e.key = k) :
    f = false ∧ E' = E ∧ ∀ v, FoundAt k p E (E.set q ⟨e.key, v, e.pts ++ [p]⟩) (q + 1) true := by
  rcases h with ⟨h1, h2, h3⟩ | ⟨h1, a, e', v, ha, he', hk', _⟩
  · exact ⟨h1, h2, fun v => Or.inr ⟨rfl, q, e, v, by omega, he, hk, rfl⟩⟩
  · exfalso
    rw [List.pairwise_map] at hd
    have hq : q < E.length := (List.getElem?_eq_some_iff.1 he).1
    have h4 := List.pairwise_iff_getElem.1 hd a q (by omega) hq ha
    rw [List.getElem?_eq_getElem hq] at he
    rw [List.getElem?_eq_getElem (by omega)] at he'
    injection he with he
    injection he' with he'
    rw [he, he'] at h4
    exact h4 (hk'.trans hk.symm)
end Go.Proofs.Yteanlcefdoigcaa
