/- Rings, plain: whether a place lies within; the sides may be taken in any order. -/
import Derived.Test.YtpablkmdpoombaaTurn
import Derived.Test.YtpablkmdpoombaaAidB
namespace Go.Proofs.Ytpablkmdpoombaa
open Go.RowKit

structure Xy where
  x : Int
  y : Int
instance : Inhabited Xy := ⟨⟨0, 0⟩⟩
def Xy.row (p : Xy) : List Value := [.int .i64 p.x, .int .i64 p.y]
/-- a slice of places, as it lies in memory -/
def XysV (W : World) (v : Value) (R : List Xy) : Prop := ∃ a cap, v = .slice a R.length cap ∧ (R = [] ∨ ∃ b off, a = some ⟨b, off, none⟩ ∧ b < W.heap.size ∧ RowsAt W b off 2 (R.map Xy.row))
theorem XysV.still {W W' : World} {v : Value} {R : List Xy} (h : XysV W v R) (hb : Below W.heap.size W W') : XysV W' v R := by
  obtain ⟨a, cap, h1, h2⟩ := h
  refine ⟨a, cap, h1, ?_⟩
  rcases h2 with h2 | ⟨b, off, h3, h4, h5⟩
  · exact Or.inl h2
  · exact Or.inr ⟨b, off, h3, Nat.lt_of_lt_of_le h4 hb.size, h5.still hb h4⟩
def plX (p : Xy) : Bool := placeB p.x p.y
def ringB (R : List Xy) : Bool := inB 3 64 R.length && R.all plX
abbrev Side := Xy × Xy
def sOn (q : Xy) (e : Side) : Bool := onV e.1.x e.1.y e.2.x e.2.y q.x q.y
def sCr (q : Xy) (e : Side) : Bool := crV e.1.x e.1.y e.2.x e.2.y q.x q.y
/-- crossed an odd number of times -/
def oddB (q : Xy) (E : List Side) : Bool := decide ((E.filter (sCr q)).length % 2 = 1)
def withinS (q : Xy) (E : List Side) : Bool := E.any (sOn q) || oddB q E
theorem oddB_nil (q : Xy) : oddB q [] = false := rfl
theorem filter_len (q : Xy) (E : List Side) (e : Side) : ((E ++ [e]).filter (sCr q)).length = (E.filter (sCr q)).length + (if sCr q e = true then 1 else 0) := by
  rw [List.filter_append, List.length_append]
  cases h : sCr q e <;> simp [List.filter, h]
theorem parity (n : Nat) (c : Bool) : decide ((n + (if c = true then 1 else 0)) % 2 = 1) = if c = true then !decide (n % 2 = 1) else decide (n % 2 = 1) := by
  cases c
  · simp
  · simp only [if_true]
    by_cases h2 : n % 2 = 1
    · rw [decide_eq_true h2, decide_eq_false (by omega)]; rfl
    · rw [decide_eq_false h2, decide_eq_true (by omega)]; rfl
theorem oddB_snoc (q : Xy) (E : List Side) (e : Side) : oddB q (E ++ [e]) = if sCr q e then !oddB q E else oddB q E := by
  unfold oddB
  rw [decide_eq_decide.2 (show ((E ++ [e]).filter (sCr q)).length % 2 = 1 ↔ ((E.filter (sCr q)).length + (if sCr q e = true then 1 else 0)) % 2 = 1 by rw [filter_len])]
  exact parity _ _
theorem withinS_perm {q : Xy} {E F : List Side} (h : E.Perm F) : withinS q E = withinS q F := by
  unfold withinS oddB
  rw [(h.filter (sCr q)).length_eq, h.any_eq]
/-- the sides as the program takes them, and as the reference does -/
def xSides (R : List Xy) : List Side := match R.getLast? with | some l => (l :: R).zip R | none => []
def rSides (R : List Xy) : List Side := match R.head? with | some h => R.zip (R.tail ++ [h]) | none => []
theorem sides_perm (R : List Xy) : (xSides R).Perm (rSides R) := by
  cases R with
  | nil => exact List.Perm.refl _
  | cons a T =>
    obtain ⟨l, hl⟩ : ∃ l, (a :: T).getLast? = some l := ⟨_, List.getLast?_eq_some_getLast (by simp)⟩
    obtain ⟨D, hD⟩ : ∃ D, a :: T = D ++ [l] := List.getLast?_eq_some_iff.1 hl
    have hlen : D.length = T.length := by have := congrArg List.length hD; simp at this; omega
    have e1 : xSides (a :: T) = (l, a) :: (a :: T).zip T := by simp only [xSides, hl]; rfl
    have e2 : rSides (a :: T) = D.zip T ++ [(l, a)] := by
      show (a :: T).zip (T ++ [a]) = _
      rw [hD, List.zip_append hlen]; rfl
    have e3 : (a :: T).zip T = D.zip T := by
      rw [hD]
      conv => lhs; rw [show T = T ++ [] by simp]
      rw [List.zip_append hlen]; simp
    rw [e1, e2, e3]
    exact (List.perm_append_comm (l₁ := [(l, a)]) (l₂ := D.zip T))
theorem xSides_at {R : List Xy} {l : Xy} (hl : R.getLast? = some l) {i : Nat} {p q : Xy} (hp : (l :: R)[i]? = some p) (hq : R[i]? = some q) : (xSides R)[i]? = some (p, q) := by
  simp only [xSides, hl]
  exact List.getElem?_zip_eq_some.2 ⟨hp, hq⟩
theorem xSides_len {R : List Xy} : (xSides R).length = R.length := by
  unfold xSides
  cases h : R.getLast? with
  | none => simp at h; simp [h]
  | some l => simp [List.length_zip]
theorem rSides_len {R : List Xy} : (rSides R).length = R.length := by rw [← (sides_perm R).length_eq, xSides_len]
theorem rSides_at {R : List Xy} {i : Nat} {p q : Xy} (hp : R[i]? = some p) (hq : R[(i + 1) % R.length]? = some q) : (rSides R)[i]? = some (p, q) := by
  cases R with
  | nil => simp at hp
  | cons a T =>
    have hi : i < T.length + 1 := by have := (List.getElem?_eq_some_iff.1 hp).1; simpa using this
    show ((a :: T).zip (T ++ [a]))[i]? = _
    refine List.getElem?_zip_eq_some.2 ⟨hp, ?_⟩
    by_cases h : i < T.length
    · rw [List.length_cons, Nat.mod_eq_of_lt (by omega)] at hq
      rw [List.getElem?_append_left h]
      simpa using hq
    · obtain rfl : i = T.length := by omega
      rw [List.length_cons, Nat.mod_self] at hq
      rw [List.getElem?_append_right (Nat.le_refl _)]
      simpa using hq
def inRingB (R : List Xy) (q : Xy) : Bool := withinS q (xSides R)
theorem inRingB_ref (R : List Xy) (q : Xy) : inRingB R q = withinS q (rSides R) := withinS_perm (sides_perm R)
theorem withinS_on {q : Xy} {E : List Side} {e : Side} {i : Nat} (he : E[i]? = some e) (h : sOn q e = true) : withinS q E = true := by
  unfold withinS
  rw [List.any_eq_true.2 ⟨e, List.mem_of_getElem? he, h⟩]; rfl
theorem withinS_end {q : Xy} {E : List Side} (h : E.any (sOn q) = false) : withinS q E = oddB q E := by unfold withinS; rw [h]; rfl
theorem any_snoc {q : Xy} {E : List Side} {e : Side} {i : Nat} (he : E[i]? = some e) (h : (E.take i).any (sOn q) = false) (hn : sOn q e = false) : (E.take (i + 1)).any (sOn q) = false := by
  rw [take_next he, List.any_append, h]; simp [hn]
theorem oddB_next {q : Xy} {E : List Side} {e : Side} {i : Nat} (he : E[i]? = some e) : oddB q (E.take (i + 1)) = if sCr q e then !oddB q (E.take i) else oddB q (E.take i) := by
  rw [take_next he, oddB_snoc]
/-- the crossing as the reference asks -/
def crR (ax ay bx byy cx cy : Int) : Bool := (decide (ay ≤ cy) && decide (cy < byy)) && decide (0 < tnV ax ay bx byy cx cy) || (decide (cy < ay) && decide (byy ≤ cy)) && decide (tnV ax ay bx byy cx cy < 0)
theorem placeB_bd {x y : Int} (h : placeB x y = true) : (-268435456 ≤ x ∧ x ≤ 268435456) ∧ (-268435456 ≤ y ∧ y ≤ 268435456) := by
  simpa [placeB, inB] using h
theorem wrap64_id {x : Int} (h : -9223372036854775808 ≤ x ∧ x ≤ 9223372036854775807) : wrap64 x = x := by
  unfold wrap64; omega
theorem mul_bd {a b : Int} (ha : -536870912 ≤ a ∧ a ≤ 536870912) (hb : -536870912 ≤ b ∧ b ≤ 536870912) : -288230376151711744 ≤ a * b ∧ a * b ≤ 288230376151711744 := by
  have h : (a * b).natAbs ≤ 536870912 * 536870912 := by
    rw [Int.natAbs_mul]; exact Nat.mul_le_mul (by omega) (by omega)
  omega
theorem turnN_eq {a b c : Xy} (ha : plX a = true) (hb : plX b = true) (hc : plX c = true) : turnN a.x a.y b.x b.y c.x c.y = (b.x - a.x) * (c.y - a.y) - (b.y - a.y) * (c.x - a.x) := by
  have h1 := placeB_bd ha
  have h2 := placeB_bd hb
  have h3 := placeB_bd hc
  unfold turnN
  rw [wrap64_id (x := b.x - a.x) (by omega), wrap64_id (x := c.y - a.y) (by omega), wrap64_id (x := b.y - a.y) (by omega), wrap64_id (x := c.x - a.x) (by omega)]
  have m1 := mul_bd (a := b.x - a.x) (b := c.y - a.y) (by omega) (by omega)
  have m2 := mul_bd (a := b.y - a.y) (b := c.x - a.x) (by omega) (by omega)
  rw [wrap64_id (x := (b.x - a.x) * (c.y - a.y)) (by omega), wrap64_id (x := (b.y - a.y) * (c.x - a.x)) (by omega), wrap64_id (by omega)]
theorem turnN_swap {a b c : Xy} (ha : plX a = true) (hb : plX b = true) (hc : plX c = true) : turnN b.x b.y a.x a.y c.x c.y = - turnN a.x a.y b.x b.y c.x c.y := by
  rw [turnN_eq ha hb hc, turnN_eq hb ha hc]
  generalize a.x = p at *; generalize a.y = q at *; generalize b.x = r at *; generalize b.y = s at *; generalize c.x = u at *; generalize c.y = v at *
  simp only [Int.sub_mul, Int.mul_sub]
  have := Int.mul_comm p v
  have := Int.mul_comm q u
  have := Int.mul_comm r v
  have := Int.mul_comm s u
  have := Int.mul_comm p s
  have := Int.mul_comm r q
  have := Int.mul_comm p q
  have := Int.mul_comm r s
  omega
theorem sgnI_lt {n : Int} : sgnI n < 0 ↔ n < 0 := by unfold sgnI; split <;> (try split) <;> omega
theorem sgnI_gt {n : Int} : 0 < sgnI n ↔ 0 < n := by unfold sgnI; split <;> (try split) <;> omega
theorem crR_eq {a b c : Xy} (ha : plX a = true) (hb : plX b = true) (hc : plX c = true) : crR a.x a.y b.x b.y c.x c.y = crV a.x a.y b.x b.y c.x c.y := by
  have hs := turnN_swap ha hb hc
  have e1 : decide (0 < tnV a.x a.y b.x b.y c.x c.y) = decide (0 < turnN a.x a.y b.x b.y c.x c.y) := decide_eq_decide.2 sgnI_gt
  have e2 : decide (tnV a.x a.y b.x b.y c.x c.y < 0) = decide (turnN a.x a.y b.x b.y c.x c.y < 0) := decide_eq_decide.2 sgnI_lt
  have e3 : decide (0 < tnV b.x b.y a.x a.y c.x c.y) = decide (turnN a.x a.y b.x b.y c.x c.y < 0) := decide_eq_decide.2 (by unfold tnV; rw [sgnI_gt, hs]; omega)
  unfold crR crV
  rw [e1, e2, e3]
  by_cases h1 : c.y < a.y <;> by_cases h2 : c.y < b.y
  · rw [decide_eq_true h1, decide_eq_true h2, decide_eq_false (show ¬ a.y ≤ c.y by omega), decide_eq_false (show ¬ b.y ≤ c.y by omega)]; simp
  · rw [decide_eq_true h1, decide_eq_false h2, decide_eq_false (show ¬ a.y ≤ c.y by omega), decide_eq_true (show b.y ≤ c.y by omega), if_neg (by decide), if_neg (by omega)]; simp
  · rw [decide_eq_false h1, decide_eq_true h2, decide_eq_true (show a.y ≤ c.y by omega), decide_eq_false (show ¬ b.y ≤ c.y by omega), if_neg (by decide), if_pos (by omega)]; simp
  · rw [decide_eq_false h1, decide_eq_false h2, decide_eq_true (show a.y ≤ c.y by omega), decide_eq_true (show b.y ≤ c.y by omega)]; simp
end Go.Proofs.Ytpablkmdpoombaa
