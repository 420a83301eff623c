/- Storing an aggregate into the midst of a block; rows of rational numbers. Storing one plain value into the midst of a block, and reading a range of a block, by the block's whole row. -/
import Derived.Test.YteoikaedpgianaaRFixR
import Derived.Test.YteoikaedpgianaaRReg
import Derived.Deep.MidRow
namespace Go.Proofs.Yteoikaedpgianaa
open Go.RowKit Limb

theorem pt_there {W : World} {b o n t : Nat} {C : Array Value} (h : W.heap[b]? = some (.cells C t)) (hn : o + n ≤ C.size) : W.there b o n := by
  intro j hj
  constructor
  · simp [World.cell?, h]; omega
  · simp [World.frozen?, h]
/-- values put into a row, one behind the other -/
def ptL (C : Array Value) : Nat → List Value → Array Value
  | _, [] => C
  | o, v :: vs => ptL (C.setIfInBounds o v) (o + 1) vs
theorem ptL_size : ∀ (vs : List Value) (C : Array Value) (o : Nat), (ptL C o vs).size = C.size
  | [], _, _ => rfl
  | v :: vs, C, o => (ptL_size vs _ _).trans (by simp)
theorem ptL_out : ∀ (vs : List Value) (C : Array Value) (o j : Nat), (j < o ∨ o + vs.length ≤ j) → (ptL C o vs)[j]? = C[j]?
  | [], _, _, _, _ => rfl
  | v :: vs, C, o, j, h => by
    rw [ptL, ptL_out vs _ (o + 1) j (by simp at h; omega), Array.getElem?_setIfInBounds_ne (by simp at h; omega)]
theorem ptL_in : ∀ (vs : List Value) (C : Array Value) (o j : Nat), o + vs.length ≤ C.size → j < vs.length → (ptL C o vs)[o + j]? = vs[j]?
  | [], _, _, _, _, h => by simp at h
  | v :: vs, C, o, 0, h, _ => by
    simp at h
    rw [ptL, ptL_out vs _ (o + 1) (o + 0) (by omega), Nat.add_zero, Array.getElem?_setIfInBounds_self, if_pos (by omega)]
    rfl
  | v :: vs, C, o, j + 1, h, hj => by
    simp at h hj
    rw [ptL, show o + (j + 1) = (o + 1) + j by omega, ptL_in vs _ (o + 1) j (by simp; omega) hj]
    simp
theorem pt_set {W : World} {g o t : Nat} {fr : Nat × Nat} {C : Array Value} {v : Value} (h : W.heap[g]? = some (.cells C t fr)) : W.setCell ⟨g, o, none⟩ v = W.setRow g (C.setIfInBounds o v) := by
  unfold World.setCell World.setRow
  congr 1
  apply Array.ext
  · simp
  · intro i h1 h2
    rw [Array.getElem_modify, Array.getElem_modify]
    by_cases hi : g = i
    · subst hi
      obtain ⟨hlt, hv⟩ := Array.getElem?_eq_some_iff.1 h
      simp [hv]
    · simp [hi]
theorem pt_twice {W : World} {g : Nat} {A B : Array Value} : (W.setRow g A).setRow g B = W.setRow g B := by
  unfold World.setRow
  congr 1
  apply Array.ext
  · simp
  · intro i h1 h2
    rw [Array.getElem_modify, Array.getElem_modify, Array.getElem_modify]
    by_cases hi : g = i
    · simp only [hi, if_true]
      cases W.heap[i]'(by simpa using h1) <;> rfl
    · simp [hi]
theorem pt_self {W : World} {g t : Nat} {fr : Nat × Nat} {C : Array Value} (h : W.heap[g]? = some (.cells C t fr)) : W.setRow g C = W := by
  have e : W.heap.modify g (fun | .cells _ elem frozen => .cells C elem frozen | o => o) = W.heap := by
    apply Array.ext
    · simp
    · intro i h1 h2
      rw [Array.getElem_modify]
      by_cases hi : g = i
      · subst hi
        obtain ⟨hlt, hv⟩ := Array.getElem?_eq_some_iff.1 h
        simp [hv]
      · simp [hi]
  exact congrArg (fun x => { W with heap := x }) e
theorem pt_row : ∀ (vs : List Value) {W : World} {g o t : Nat} {fr : Nat × Nat} {C : Array Value}, W.heap[g]? = some (.cells C t fr) → W.setCells g o vs = W.setRow g (ptL C o vs)
  | [], _, _, _, _, _, _, h => (pt_self h).symm
  | v :: vs, W, g, o, t, fr, C, h => by
    rw [World.setCells, pt_set h, pt_row vs (setRow_heap _ _ _ _ _ _ h), pt_twice]
    rfl
theorem pt_store {P : Program} {ops : Array Oper} {rest : List Oper} {op : Oper} {a : Act} {w : World} {Q : Exit → Act → World → Prop} (hgd : op.guard = none) (ty : TypeId) (x y : Operand) (ho : op.op = .store ty x y)
    (b o : Nat) (cells : Array Value) (hx : a.eval x = .pointer (some ⟨b, o, none⟩)) (hy : a.eval y = .agg cells)
    {C : Array Value} {t n : Nat} (hC : w.heap[b]? = some (.cells C t)) (hi : (P.info? ty).map (·.size) = some n) (hs : cells.size = n) (hn : o + n ≤ C.size) (h1 : cells.toList.all (·.oneCell') = true)
    (h : wpList P ops Q rest (a.put op.dst undef) (w.setRow b (ptL C o cells.toList))) : wpList P ops Q (op :: rest) a w :=
  wpList_store_mid hgd ty x y ho b o cells hx hy (pt_there hC (by omega)) (by rw [hs]; exact hi) (by rw [← Array.all_toList]; exact h1) (by rw [pt_row _ hC]; exact h)

end Go.Proofs.Yteoikaedpgianaa
namespace Go.Proofs.Yteoikaedpgianaa
open Go.RowKit Go.Deep

theorem run_storeVar_one {P : Program} (w : World) (b o : Nat) (ty : TypeId) (v : Value) (hv : v.cells = #[v]) (h1 : v.oneCell' = true) (ht : w.there b o 1) (hi : (P.info? ty).map (·.size) = some 1) :
    (storeVar ty ⟨b, o, none⟩ v).run P w = .ok () (w.setCells b o [v]) := by
  have := run_storeCells_cells (P := P) b o [v] 0 w (fun j hj => by simpa using (ht j (by simpa using hj)).1) (fun j hj => by simpa using (ht j (by simpa using hj)).2)
    (fun u hu => by simp at hu; subst hu; exact h1)
  cases hq : P.info? ty with
  | none => simp [hq] at hi
  | some i =>
    have hs : i.size = 1 := by simp [hq] at hi; omega
    simp only [Nat.add_zero] at this
    simp [storeVar, sizeOf, typeInfo, hq, hv, hs, this]
/-- a plain value into the midst of a block -/
theorem pt_store1 {P : Program} {ops : Array Oper} {rest : List Oper} {op : Oper} {a : Act} {w : World} {Q : Exit → Act → World → Prop} (hgd : op.guard = none) (ty : TypeId) (x y : Operand) (ho : op.op = .store ty x y)
    (b o : Nat) (v : Value) (hx : a.eval x = .pointer (some ⟨b, o, none⟩)) (hy : a.eval y = v) (hv : v.cells = #[v]) (h1 : v.oneCell' = true)
    {C : Array Value} {t : Nat} (hC : w.heap[b]? = some (.cells C t)) (hi : (P.info? ty).map (·.size) = some 1) (hn : o + 1 ≤ C.size)
    (h : wpList P ops Q rest (a.put op.dst undef) (w.setRow b (ptL C o [v]))) : wpList P ops Q (op :: rest) a w := by
  refine wpList_plain hgd fun K hK => ?_
  unfold Oper.wp execOp
  simp only [ho, hx, hy, Instr.storeAt, Instr.sureAddr, Sem.run_bind, Sem.run_pure, Result.andThen_ok, run_storeVar_one w b o ty v hv h1 (pt_there hC hn) hi]
  rw [pt_row _ hC]
  exact hK _ _ h
end Go.Proofs.Yteoikaedpgianaa
