/- Storing one plain value into the midst of a block, and reading a range of a block, by the block's whole row. -/
import Derived.Test.YteoikaedpgianaaPart
namespace Go.Proofs.Yteoikaedpgianaa
open Go.RowKit Go.Deep

theorem run_storeVar_one {P : Program} (w : World) (b o : Nat) (ty : TypeId) (v : Value) (hv : v.cells = #[v]) (h1 : v.oneCell' = true) (ht : w.there b o 1) (hi : (P.info? ty).map (·.size) = some 1) :
    (storeVar ty ⟨b, o, none⟩ v).run P w = .ok () (w.setCells b o [v]) := by
  have := run_storeCells_cells (P := P) b o [v] 0 w (fun j hj => by simpa using (ht j (by simpa using hj)).1) (fun j hj => by simpa using (ht j (by simpa using hj)).2)
    (fun u hu => by simp at hu; subst hu; exact h1)
  cases hq : P.info? ty with
  | none => simp [hq] at hi
  | some i =>
    have hs : i.size = 1 := by simp [hq] at hi; omega
    simp only [Nat.add_zero] at this
    simp [storeVar, sizeOf, typeInfo, hq, hv, hs, this]
/-- a plain value into the midst of a block -/
theorem pt_store1 {P : Program} {ops : Array Oper} {rest : List Oper} {op : Oper} {a : Act} {w : World} {Q : Exit → Act → World → Prop} (hgd : op.guard = none) (ty : TypeId) (x y : Operand) (ho : op.op = .store ty x y)
    (b o : Nat) (v : Value) (hx : a.eval x = .pointer (some ⟨b, o, none⟩)) (hy : a.eval y = v) (hv : v.cells = #[v]) (h1 : v.oneCell' = true)
    {C : Array Value} {t : Nat} (hC : w.heap[b]? = some (.cells C t)) (hi : (P.info? ty).map (·.size) = some 1) (hn : o + 1 ≤ C.size)
    (h : wpList P ops Q rest (a.put op.dst undef) (w.setRow b (ptL C o [v]))) : wpList P ops Q (op :: rest) a w := by
  refine wpList_plain hgd fun K hK => ?_
  unfold Oper.wp execOp
  simp only [ho, hx, hy, Instr.storeAt, Instr.sureAddr, Sem.run_bind, Sem.run_pure, Result.andThen_ok, run_storeVar_one w b o ty v hv h1 (pt_there hC hn) hi]
  rw [pt_row _ hC]
  exact hK _ _ h
theorem size3 : (Try.prog.info? 3).map (·.size) = some 1 := by kernel_rfl
/-- a range of a block, by its row -/
theorem range_row {w : World} {b o t : Nat} {fr : Nat × Nat} {C : Array Value} {cs : List Value} (h : w.heap[b]? = some (.cells C t fr)) (hC : ∀ j v, cs[j]? = some v → C[o + j]? = some v) : w.rangeAt b o cs := fun j v hv => by
  have := cell_row (j := o + j) h
  rw [this]
  exact hC j v hv
/-- the load of a part of a block -/
theorem pt_load {P : Program} {ops : Array Oper} {rest : List Oper} {op : Oper} {a : Act} {w : World} {Q : Exit → Act → World → Prop} (hgd : op.guard = none) (ty : TypeId) (x : Operand) (ho : op.op = .load ty x)
    (b o : Nat) (hx : a.eval x = .pointer (some ⟨b, o, none⟩)) (cs : List Value) {d : TypeDesc} {C : Array Value} {t : Nat} {fr : Nat × Nat} (hC : w.heap[b]? = some (.cells C t fr)) (hcs : (C.toList.drop o).take cs.length = cs)
    (hu : P.underlying ty = some d) (hd : d.isRow = true) (hi : (P.info? ty).map (·.size) = some cs.length)
    (h : wpList P ops Q rest (a.put op.dst (.agg cs.toArray)) w) : wpList P ops Q (op :: rest) a w :=
  wpList_load_mid hgd ty x ho b o hx cs d (range_row hC (fun j v hv => by
    have hj : j < cs.length := (List.getElem?_eq_some_iff.1 hv).1
    rw [← hcs, List.getElem?_take_of_lt hj, List.getElem?_drop, Array.getElem?_toList] at hv
    exact hv)) hu hd hi h
end Go.Proofs.Yteoikaedpgianaa
