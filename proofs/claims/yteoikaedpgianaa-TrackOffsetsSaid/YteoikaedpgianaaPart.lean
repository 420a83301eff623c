/- Storing an aggregate into the midst of a block; rows of rational numbers. -/
import Derived.Test.YteoikaedpgianaaRAdd
import Derived.Deep.MidRow
namespace Go.Proofs.Yteoikaedpgianaa
open Go.RowKit Limb

theorem pt_there {W : World} {b o n t : Nat} {C : Array Value} (h : W.heap[b]? = some (.cells C t)) (hn : o + n ≤ C.size) : W.there b o n := by
  intro j hj
  constructor
  · simp [World.cell?, h]; omega
  · simp [World.frozen?, h]
/-- values put into a row, one behind the other -/
def ptL (C : Array Value) : Nat → List Value → Array Value
  | _, [] => C
  | o, v :: vs => ptL (C.setIfInBounds o v) (o + 1) vs
theorem ptL_size : ∀ (vs : List Value) (C : Array Value) (o : Nat), (ptL C o vs).size = C.size
  | [], _, _ => rfl
  | v :: vs, C, o => (ptL_size vs _ _).trans (by simp)
theorem ptL_out : ∀ (vs : List Value) (C : Array Value) (o j : Nat), (j < o ∨ o + vs.length ≤ j) → (ptL C o vs)[j]? = C[j]?
  | [], _, _, _, _ => rfl
  | v :: vs, C, o, j, h => by
    rw [ptL, ptL_out vs _ (o + 1) j (by simp at h; omega), Array.getElem?_setIfInBounds_ne (by simp at h; omega)]
theorem ptL_in : ∀ (vs : List Value) (C : Array Value) (o j : Nat), o + vs.length ≤ C.size → j < vs.length → (ptL C o vs)[o + j]? = vs[j]?
  | [], _, _, _, _, h => by simp at h
  | v :: vs, C, o, 0, h, _ => by
    simp at h
    rw [ptL, ptL_out vs _ (o + 1) (o + 0) (by omega), Nat.add_zero, Array.getElem?_setIfInBounds_self, if_pos (by omega)]
    rfl
  | v :: vs, C, o, j + 1, h, hj => by
    simp at h hj
    rw [ptL, show o + (j + 1) = (o + 1) + j by omega, ptL_in vs _ (o + 1) j (by simp; omega) hj]
    simp
theorem pt_set {W : World} {g o t : Nat} {fr : Nat × Nat} {C : Array Value} {v : Value} (h : W.heap[g]? = some (.cells C t fr)) : W.setCell ⟨g, o, none⟩ v = W.setRow g (C.setIfInBounds o v) := by
  unfold World.setCell World.setRow
  congr 1
  apply Array.ext
  · simp
  · intro i h1 h2
    rw [Array.getElem_modify, Array.getElem_modify]
    by_cases hi : g = i
    · subst hi
      obtain ⟨hlt, hv⟩ := Array.getElem?_eq_some_iff.1 h
      simp [hv]
    · simp [hi]
theorem pt_twice {W : World} {g : Nat} {A B : Array Value} : (W.setRow g A).setRow g B = W.setRow g B := by
  unfold World.setRow
  congr 1
  apply Array.ext
  · simp
  · intro i h1 h2
    rw [Array.getElem_modify, Array.getElem_modify, Array.getElem_modify]
    by_cases hi : g = i
    · simp only [hi, if_true]
      cases W.heap[i]'(by simpa using h1) <;> rfl
    · simp [hi]
theorem pt_self {W : World} {g t : Nat} {fr : Nat × Nat} {C : Array Value} (h : W.heap[g]? = some (.cells C t fr)) : W.setRow g C = W := by
  have e : W.heap.modify g (fun | .cells _ elem frozen => .cells C elem frozen | o => o) = W.heap := by
    apply Array.ext
    · simp
    · intro i h1 h2
      rw [Array.getElem_modify]
      by_cases hi : g = i
      · subst hi
        obtain ⟨hlt, hv⟩ := Array.getElem?_eq_some_iff.1 h
        simp [hv]
      · simp [hi]
  exact congrArg (fun x => { W with heap := x }) e
theorem pt_row : ∀ (vs : List Value) {W : World} {g o t : Nat} {fr : Nat × Nat} {C : Array Value}, W.heap[g]? = some (.cells C t fr) → W.setCells g o vs = W.setRow g (ptL C o vs)
  | [], _, _, _, _, _, _, h => (pt_self h).symm
  | v :: vs, W, g, o, t, fr, C, h => by
    rw [World.setCells, pt_set h, pt_row vs (setRow_heap _ _ _ _ _ _ h), pt_twice]
    rfl
theorem pt_store {P : Program} {ops : Array Oper} {rest : List Oper} {op : Oper} {a : Act} {w : World} {Q : Exit → Act → World → Prop} (hgd : op.guard = none) (ty : TypeId) (x y : Operand) (ho : op.op = .store ty x y)
    (b o : Nat) (cells : Array Value) (hx : a.eval x = .pointer (some ⟨b, o, none⟩)) (hy : a.eval y = .agg cells)
    {C : Array Value} {t n : Nat} (hC : w.heap[b]? = some (.cells C t)) (hi : (P.info? ty).map (·.size) = some n) (hs : cells.size = n) (hn : o + n ≤ C.size) (h1 : cells.toList.all (·.oneCell') = true)
    (h : wpList P ops Q rest (a.put op.dst undef) (w.setRow b (ptL C o cells.toList))) : wpList P ops Q (op :: rest) a w :=
  wpList_store_mid hgd ty x y ho b o cells hx hy (pt_there hC (by omega)) (by rw [hs]; exact hi) (by rw [← Array.all_toList]; exact h1) (by rw [pt_row _ hC]; exact h)

/-- three cells of a row that hold a rational number -/
def QCells (C : Array Value) (o : Nat) (W : World) (q : Rat) (k : Nat) : Prop :=
  ∃ s a p c b r d, C[o]? = some (.bool s) ∧ C[o + 1]? = some (.slice a p c) ∧ C[o + 2]? = some (.slice b r d) ∧ QAt W (.agg #[.bool s, .slice a p c, .slice b r d]) q k
theorem QCells.grow {C : Array Value} {o k : Nat} {W W' : World} {q : Rat} (h : QCells C o W q k) (hB : Below W.heap.size W W') : QCells C o W' q k := by
  obtain ⟨s, a, p, c, b, r, d, h1, h2, h3, h4⟩ := h
  exact ⟨s, a, p, c, b, r, d, h1, h2, h3, h4.grow hB⟩
theorem QCells.wide {C : Array Value} {o k k' : Nat} {W : World} {q : Rat} (h : QCells C o W q k) (hk : k ≤ k') : QCells C o W q k' := by
  obtain ⟨s, a, p, c, b, r, d, h1, h2, h3, h4⟩ := h
  exact ⟨s, a, p, c, b, r, d, h1, h2, h3, h4.wide hk⟩
theorem QCells.other {C old : Array Value} {o o' k g t : Nat} {fr : Nat × Nat} {W : World} {q : Rat} {vs : List Value} (h : QCells C o W q k) (hg : W.heap[g]? = some (.cells old t fr)) (ht : t ≠ 3) (hv : vs.length = 3) (ho : o + 3 ≤ o' ∨ o' + 3 ≤ o) :
    QCells (ptL C o' vs) o (W.setRow g (ptL C o' vs)) q k := by
  obtain ⟨s, a, p, c, b, r, d, h1, h2, h3, h4⟩ := h
  exact ⟨s, a, p, c, b, r, d, by rw [ptL_out vs C o' o (by omega)]; exact h1, by rw [ptL_out vs C o' (o + 1) (by omega)]; exact h2, by rw [ptL_out vs C o' (o + 2) (by omega)]; exact h3, h4.row hg ht⟩
theorem QCells.put {C cs old : Array Value} {o k g t : Nat} {fr : Nat × Nat} {W : World} {q : Rat} (h : QAt W (.agg cs) q k) (hg : W.heap[g]? = some (.cells old t fr)) (ht : t ≠ 3) (ho : o + 3 ≤ C.size) :
    QCells (ptL C o cs.toList) o (W.setRow g (ptL C o cs.toList)) q k := by
  have h0 := h
  obtain ⟨ln, ld, e, hn, hd, _, _⟩ := h
  cases e
  obtain ⟨a, ca, rfl, _, _⟩ := hn.open
  obtain ⟨b, cb, rfl, _, _⟩ := hd.open
  exact ⟨_, _, _, _, _, _, _, ptL_in [_, _, _] C o 0 ho (by simp), ptL_in [_, _, _] C o 1 ho (by simp), ptL_in [_, _, _] C o 2 ho (by simp), h0.row hg ht⟩
theorem nine {C : Array Value} {c0 c1 c2 c3 c4 c5 c6 c7 c8 : Value} (h : C.size = 9) (h0 : C[0]? = some c0) (h1 : C[1]? = some c1) (h2 : C[2]? = some c2) (h3 : C[3]? = some c3) (h4 : C[4]? = some c4) (h5 : C[5]? = some c5) (h6 : C[6]? = some c6) (h7 : C[7]? = some c7) (h8 : C[8]? = some c8) :
    C = #[c0, c1, c2, c3, c4, c5, c6, c7, c8] := by
  apply Array.ext_getElem?
  intro i
  match i with
  | 0 => exact h0
  | 1 => exact h1
  | 2 => exact h2
  | 3 => exact h3
  | 4 => exact h4
  | 5 => exact h5
  | 6 => exact h6
  | 7 => exact h7
  | 8 => exact h8
  | n + 9 => rw [Array.getElem?_eq_none (by omega), Array.getElem?_eq_none (by simp)]
end Go.Proofs.Yteoikaedpgianaa
