/- A region that draws its order, in two parts: operations that only add to the world, and behind all of them others (stores). For whatever program. -/
import Derived.Test.YteoikaedpgianaaExt
namespace Go.Proofs.Yteoikaedpgianaa
open Go.RowKit

/-- each operation waits for all of the first c -/
def covers (c : Nat) (l : List Oper) : Bool := l.all fun o => (List.range c).all fun j => o.after.any fun e => Region.binds .any e && e.on == j
section
variable {P : Program} {Q : Exit → Act → World → Prop}
theorem BySteps.append {ops : Array Oper} {A0 : Act} {ds : List (Option Nat)} {R : (Nat → Bool) → (Nat → Value) → World → Prop} : ∀ {l1 l2 : List Oper} {k : Nat},
    BySteps P ops Q A0 ds R k l1 → BySteps P ops Q A0 ds R (k + l1.length) l2 → BySteps P ops Q A0 ds R k (l1 ++ l2)
  | [], l2, k, _, h2 => h2
  | o :: l1, l2, k, h1, h2 => ⟨h1.1, BySteps.append h1.2 (by rw [show k + 1 + l1.length = k + (o :: l1).length by simp; omega]; exact h2)⟩

theorem two_first {ops : Array Oper} {A0 : Act} {ds : List (Option Nat)} {B : World} {Pr : Nat → World → Value → Prop} (hPr : ∀ j W W' v, Below W.heap.size W W' → Pr j W v → Pr j W' v) (c : Nat)
    (R2 : (Nat → Bool) → (Nat → Value) → World → Prop) : ∀ {l : List Oper} {k : Nat}, k + l.length ≤ c → backB k l = true → PtSteps P ops Q A0 ds B Pr k l →
    BySteps P ops Q A0 ds (fun L us W => ((∀ j, c ≤ j → j < ds.length → L j = false) ∧ Below B.heap.size B W ∧ ∀ j, j < c → L j = true → Pr j W (us j)) ∨ ((∀ j, j < c → L j = true) ∧ R2 L us W)) k l
  | [], _, _, _, _ => trivial
  | o :: rest, k, hl, hb, hs => by
    simp only [List.length_cons] at hl
    simp only [backB, Bool.and_eq_true] at hb
    refine ⟨?_, two_first hPr c R2 (by omega) hb.2 hs.2⟩
    intro K L us W hK hL hd hR
    rcases hR with ⟨hn, hB, hp⟩ | ⟨ha, _⟩
    · have hdep : ∀ e ∈ o.after, Region.binds .any e = true → L e.on = true := by
        intro e he hbi
        rw [Array.all_eq_true'] at hd
        have := hd e he
        rw [hbi] at this
        simpa using this
      have hlt : ∀ e ∈ o.after, Region.binds .any e = true → e.on < k := by
        intro e he hbi
        have hb1 := hb.1
        rw [Array.all_eq_true'] at hb1
        have := hb1 e he
        rw [hbi] at this
        simpa using this
      refine hs.1 K us W ?_ hB ?_
      · intro v A' W' hA hB' hv
        refine hK v A' W' hA (Or.inl ⟨?_, hB.trans (hB'.mono hB.size), ?_⟩)
        · intro j hj hjn
          have h1 := hn j hj hjn
          simp [h1]
          omega
        · intro j hjc hj
          by_cases hjk : j = k
          · subst hjk; simpa [updF] using hv
          · simp only [updF, hjk, if_false]
            exact hPr j W W' _ hB' (hp j hjc (by simpa [hjk] using hj))
      · intro e he hbi
        have := hlt e he hbi
        exact hp e.on (by omega) (hdep e he hbi)
    · rw [ha k (by omega)] at hL
      cases hL
theorem two_last {ops : Array Oper} {A0 : Act} {ds : List (Option Nat)} {B : World} {Pr : Nat → World → Value → Prop} (c : Nat)
    (R2 : (Nat → Bool) → (Nat → Value) → World → Prop)
    (h12 : ∀ L us W, (∀ j, j < c → L j = true) → (∀ j, c ≤ j → j < ds.length → L j = false) → Below B.heap.size B W → (∀ j, j < c → Pr j W (us j)) → R2 L us W) : ∀ {l : List Oper} {k : Nat}, covers c l = true →
    BySteps P ops Q A0 ds R2 k l →
    BySteps P ops Q A0 ds (fun L us W => ((∀ j, c ≤ j → j < ds.length → L j = false) ∧ Below B.heap.size B W ∧ ∀ j, j < c → L j = true → Pr j W (us j)) ∨ ((∀ j, j < c → L j = true) ∧ R2 L us W)) k l
  | [], _, _, _ => trivial
  | o :: rest, k, hc, hs => by
    simp only [covers, List.all_cons, Bool.and_eq_true] at hc
    refine ⟨?_, two_last c R2 h12 hc.2 hs.2⟩
    intro K L us W hK hL hd hR
    have hall : ∀ j, j < c → L j = true := by
      intro j hj
      have h1 := hc.1
      rw [List.all_eq_true] at h1
      have h2 := h1 j (List.mem_range.2 hj)
      rw [Array.any_eq_true'] at h2
      obtain ⟨e, he, h3⟩ := h2
      simp only [Bool.and_eq_true, beq_iff_eq] at h3
      rw [Array.all_eq_true'] at hd
      have h4 := hd e he
      rw [h3.1, h3.2] at h4
      simpa using h4
    have hR2 : R2 L us W := by
      rcases hR with ⟨hn, hB, hp⟩ | ⟨_, h⟩
      · exact h12 L us W hall hn hB (fun j hj => hp j hj (hall j hj))
      · exact h
    refine hs.1 K L us W ?_ hL hd hR2
    intro v A' W' hA hR'
    exact hK v A' W' hA (Or.inr ⟨fun j hj => by simp [hall j hj], hR'⟩)

/-- A REGION THAT DRAWS ITS ORDER, IN TWO PARTS: the first c operations by one predicate each, those behind all of them by an invariant. -/
theorem wp_region_two {id : Nat} {l : List Oper} {A0 : Act} {w : World} (hm : P.follows .mixedOrders = true) (hb : backB 0 l = true) (ds : List (Option Nat)) (hl : l.length = ds.length) (hds : (ds.filterMap _root_.id).Nodup)
    (c : Nat) (hcl : (l.take c).length ≤ c) (hb1 : backB 0 (l.take c) = true) (hcov : covers c (l.drop c) = true) (ps : List (World → Value → Prop)) (hps : StbL ps)
    (R2 : (Nat → Bool) → (Nat → Value) → World → Prop)
    (h12 : ∀ L us W, (∀ j, j < c → L j = true) → (∀ j, c ≤ j → j < ds.length → L j = false) → Below w.heap.size w W → (∀ j, j < c → ps.getD j (fun _ _ => True) W (us j)) → R2 L us W)
    (hs1 : PtSteps P l.toArray Q A0 ds w (fun j => ps.getD j (fun _ _ => True)) 0 (l.take c)) (hs2 : BySteps P l.toArray Q A0 ds R2 (l.take c).length (l.drop c))
    (hend : ∀ L us W, (∀ j, j < ds.length → L j = true) → R2 L us W → Q .normal (putF A0 ds us) W) (hcn : c < ds.length) : (Code.region id l.toArray true).wp P Q A0 w := by
  refine wp_region_by hm hb ds hl hds (fun L us W => ((∀ j, c ≤ j → j < ds.length → L j = false) ∧ Below w.heap.size w W ∧ ∀ j, j < c → L j = true → ps.getD j (fun _ _ => True) W (us j)) ∨ ((∀ j, j < c → L j = true) ∧ R2 L us W)) (selfF A0 ds) (putF_self A0 ds) (Or.inl ⟨fun _ _ _ => rfl, (Below.refl _ _).drew, by simp⟩) ?_ ?_
  · have h1 := two_first (ops := l.toArray) (Q := Q) (A0 := A0) (ds := ds) (B := w) hps.at c R2 (k := 0) (l := l.take c) (by omega) hb1 hs1
    have h2 := two_last (ops := l.toArray) (Q := Q) (A0 := A0) (ds := ds) (B := w) (Pr := fun j => ps.getD j (fun _ _ => True)) c R2 h12 (k := (l.take c).length) hcov hs2
    have h3 := BySteps.append h1 (by rw [Nat.zero_add]; exact h2)
    rw [List.take_append_drop] at h3
    exact h3
  · rintro L us W hL (⟨hn, _, _⟩ | ⟨_, h⟩)
    · have := hn c (Nat.le_refl _) hcn
      rw [hL c hcn] at this
      cases this
    · exact hend L us W hL h
end
end Go.Proofs.Yteoikaedpgianaa
