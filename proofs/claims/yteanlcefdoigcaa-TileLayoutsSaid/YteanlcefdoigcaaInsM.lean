/- Insertion sort by exchanges of neighbours, as lists; an exchange in rows of the call's own. -/
import Derived.Test.YteanlcefdoigcaaSwapT
namespace Go.Proofs.Yteanlcefdoigcaa
open Go.RowKit

section
variable {α : Type}
/-- the first i members stand in order -/
def SortedTo (r : α → α → Prop) (L : List α) (i : Nat) : Prop := ∀ a b x y, a < b → b < i → L[a]? = some x → L[b]? = some y → ¬ r y x
/-- the first i + 1 members stand in order, but for the one at k, which is no greater than those behind it -/
def InsAt (r : α → α → Prop) (L : List α) (i k : Nat) : Prop :=
  (∀ a b x y, a < b → b ≤ i → a ≠ k → b ≠ k → L[a]? = some x → L[b]? = some y → ¬ r y x) ∧ ∀ b x y, k < b → b ≤ i → L[k]? = some x → L[b]? = some y → ¬ r y x
theorem ins_start {r : α → α → Prop} {L : List α} {i : Nat} (h : SortedTo r L i) : InsAt r L i i :=
  ⟨fun a b x y h1 h2 h3 h4 => h a b x y h1 (by omega), fun b x y h1 h2 => by omega⟩
theorem ins_step {r : α → α → Prop} (asym : ∀ x y, r x y → ¬ r y x) {L : List α} {i k : Nat} {x y : α} (h : InsAt r L i (k + 1)) (hk : k + 1 ≤ i) (hx : L[k + 1]? = some x) (hy : L[k]? = some y) (hr : r x y) : InsAt r ((L.set (k + 1) y).set k x) i k := by
  have hl : k + 1 < L.length := (List.getElem?_eq_some_iff.1 hx).1
  have g0 : ((L.set (k + 1) y).set k x)[k]? = some x := List.getElem?_set_self (by simp; omega)
  have g1 : ((L.set (k + 1) y).set k x)[k + 1]? = some y := by
    rw [List.getElem?_set_ne (by omega)]
    exact List.getElem?_set_self hl
  have g2 : ∀ a, a ≠ k → a ≠ k + 1 → ((L.set (k + 1) y).set k x)[a]? = L[a]? := fun a h1 h2 => by
    rw [List.getElem?_set_ne (by omega), List.getElem?_set_ne (by omega)]
  constructor
  · intro a b u v hab hb ha1 hb1 hu hv
    by_cases ha : a = k + 1
    · subst ha
      rw [g1] at hu
      injection hu with hu
      subst hu
      rw [g2 b (by omega) (by omega)] at hv
      exact h.1 k b _ v (by omega) hb (by omega) (by omega) hy hv
    · rw [g2 a ha1 ha] at hu
      by_cases hbk : b = k + 1
      · subst hbk
        rw [g1] at hv
        injection hv with hv
        subst hv
        exact h.1 a k u _ (by omega) (by omega) (by omega) (by omega) hu hy
      · rw [g2 b hb1 hbk] at hv
        exact h.1 a b u v hab hb ha hbk hu hv
  · intro b u v hkb hb hu hv
    rw [g0] at hu
    injection hu with hu
    subst hu
    by_cases hbk : b = k + 1
    · subst hbk
      rw [g1] at hv
      injection hv with hv
      subst hv
      exact asym _ _ hr
    · rw [g2 b (by omega) hbk] at hv
      exact h.2 b _ v (by omega) hb hx hv
theorem ins_end {r : α → α → Prop} (ntr : ∀ x y z, ¬ r y x → ¬ r z y → ¬ r z x) {L : List α} {i k : Nat} (h : InsAt r L i k) (hk : k ≤ i) (he : ∀ x y, 0 < k → L[k]? = some x → L[k - 1]? = some y → ¬ r x y) : SortedTo r L (i + 1) := by
  intro a b x y hab hb hx hy
  by_cases ha : a = k
  · subst ha
    exact h.2 b x y hab (by omega) hx hy
  · by_cases hbk : b = k
    · subst hbk
      have hl : b < L.length := (List.getElem?_eq_some_iff.1 hy).1
      obtain ⟨z, hz⟩ : ∃ z, L[b - 1]? = some z := ⟨_, List.getElem?_eq_getElem (by omega)⟩
      have h1 := he y z (by omega) hy hz
      by_cases ha2 : a = b - 1
      · subst ha2
        rw [hz] at hx
        injection hx with hx
        subst hx
        exact h1
      · exact ntr x z y (h.1 a (b - 1) x z (by omega) (by omega) ha (by omega) hx hz) h1
    · exact h.1 a b x y hab (by omega) ha hbk hx hy
theorem sortedTo_pairwise {r : α → α → Prop} {L : List α} (h : SortedTo r L L.length) : L.Pairwise (fun x y => ¬ r y x) := by
  rw [List.pairwise_iff_getElem]
  intro i j hi hj hij
  exact h i j _ _ hij hj (List.getElem?_eq_getElem hi) (List.getElem?_eq_getElem hj)
theorem sw_perm [Inhabited α] {L : List α} {i j : Nat} {x y : α} (hi : L[i]? = some x) (hj : L[j]? = some y) : ((L.set i y).set j x).Perm L := swL_some hi hj ▸ swL_perm L i j
end
/-- two rows of the call's own change places -/
theorem own_swapE {α : Type} {enc : α → List Value} {t sz : Nat} {W : World} {base g n cap x y : Nat} {C : Array Value} {L : List α} {p q : α} (h : OwnR W base t sz (.slice (some ⟨g, 0, none⟩) n cap) (L.map enc)) (hC : W.heap[g]? = some (.cells C t))
    (hp : (enc p).length = sz) (hq : (enc q).length = sz) (hp1 : ∀ u ∈ enc p, u.oneCell' = true) (hq1 : ∀ u ∈ enc q, u.oneCell' = true) (hx : L[x]? = some p) (hy : L[y]? = some q) :
    OwnR ((W.setRow g (ptL C (x * sz) (enc q))).setRow g (ptL (ptL C (x * sz) (enc q)) (y * sz) (enc p))) base t sz (.slice (some ⟨g, 0, none⟩) n cap) (((L.set x q).set y p).map enc) := by
  have hx1 : x < L.length := (List.getElem?_eq_some_iff.1 hx).1
  have hy1 : y < L.length := (List.getElem?_eq_some_iff.1 hy).1
  have h1 := own_set h hC (i := x) (r := enc q) (by simpa using hx1) hq hq1
  have h2 := own_set h1 (setRow_heap _ _ _ _ _ _ hC) (i := y) (r := enc p) (by simpa using hy1) hp hp1
  rw [List.map_set, List.map_set]
  exact h2
theorem below_row {B : Nat} {w W : World} {g : Nat} {X : Array Value} (h : Below B w W) (hg : B ≤ g) : Below B w (W.setRow g X) := below_setRow h hg _
theorem below_drew {B : Nat} {w W : World} (h : Below B w W) : Below B w W.drew := ⟨h.os, h.tape, h.output, h.size, h.block⟩
theorem OwnR.drew {W : World} {base t sz : Nat} {v : Value} {l : List (List Value)} (h : OwnR W base t sz v l) : OwnR W.drew base t sz v l := OwnR.heap h (fun _ _ h _ => h)
end Go.Proofs.Yteanlcefdoigcaa
