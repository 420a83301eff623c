/- Texts of the seat Yteanlcefdoigcaa, turned to this one by wip/port.py: Base Args LawKit LayX Reader. -/
import Derived.Test.YtpablkmdpoombaaFund
import Derived.Test.YtpablkmdpoombaaVal
import Derived.Test.YtpablkmdpoombaaPts
import Derived.Test.YtpablkmdpoombaaSrt
import Derived.Test.YtpablkmdpoombaaNum
import Derived.Test.YtpablkmdpoombaaCrc
import Derived.Test.YtpablkmdpoombaaEnc
import Derived.Test.YtpablkmdpoombaaRp
import Derived.WalkKit
import Derived.ProofKit
import Derived.Handy
import Derived.WalkSpells
import Derived.Deep.QuietTactic
import Derived.BigQuiet
import Derived.BigRegion
import Derived.Laws.CopyOwn
import Derived.Lib.SmallJoins
import Derived.Orders
import Derived.Laws.Tables
import Derived.Deep.MidRow
import Derived.OpenShut
import Derived.Deep.Slices
import GoSem.Claim
import GoSem.ClaimJoined
import Derived.SizedLaws
import Derived.Carry
/- Base -/
namespace Go.Proofs.Ytpablkmdpoombaa
open Go.RowKit

theorem wpList_store_new {P : Program} {ops : Array Oper} {rest : List Oper} {o : Oper} {a : Act} {W : World} {Q : Exit → Act → World → Prop} (hgd : o.guard = none) (ty : TypeId) (x y : Operand) (ho : o.op = .store ty x y)
    {g : Nat} {cells old : Array Value} {t : TypeId} (hx : a.eval x = .pointer (some ⟨g, 0, none⟩)) (hy : a.eval y = .agg cells)
    (hg : g = W.heap.size) {n : Nat} (hi : (P.info? ty).map (·.size) = some n) (hs : cells.size = n)
    (hold : old.size = n) (h1 : cells.toList.all (·.oneCell') = true)
    (h : wpList P ops Q rest (a.put o.dst undef) (W.alloc (.cells cells t))) : wpList P ops Q (o :: rest) a (W.alloc (.cells old t)) :=
  wpList_store_row hgd ty x y ho g cells hx hy t old (heap_alloc_at _ _ _ hg) (by rw [hs]; exact hi) (by rw [hs]; exact hold) (by rw [← Array.all_toList]; exact h1) (by rw [setRow_new _ _ _ _ _ _ hg]; exact h)
theorem wpList_built {P : Program} {ops : Array Oper} {rest : List Oper} {o : Oper} {a : Act} {w : World} {Q : Exit → Act → World → Prop} (hg : o.guard = none) (t : TypeId) (parts : Array (Nat × Operand)) (ho : o.op = .build t parts)
    (cells : Array Value) (hf : P.built t (parts.map fun (i, x) => (i, a.eval x)).toList = some cells)
    (h : wpList P ops Q rest (a.put o.dst (.agg cells)) w) : wpList P ops Q (o :: rest) a w :=
  wpList_build hg t parts ho (by rw [hf]; rfl) (by rw [hf]; exact h)
theorem wpList_store_at {P : Program} {ops : Array Oper} {rest : List Oper} {o : Oper} {a : Act} {w : World} {Q : Exit → Act → World → Prop} (hgd : o.guard = none) (ty : TypeId) (x y : Operand) (ho : o.op = .store ty x y)
    {g : Nat} {cells old : Array Value} {t : TypeId} (hx : a.eval x = .pointer (some ⟨g, 0, none⟩)) (hy : a.eval y = .agg cells)
    (hg : w.heap[g]? = some (.cells old t (0, 0))) {n : Nat} (hi : (P.info? ty).map (·.size) = some n) (hs : cells.size = n)
    (hold : old.size = n) (h1 : cells.toList.all (·.oneCell') = true)
    (h : wpList P ops Q rest (a.put o.dst undef) (w.setRow g cells)) : wpList P ops Q (o :: rest) a w :=
  wpList_store_row hgd ty x y ho g cells hx hy t old hg (by rw [hs]; exact hi) (by rw [hs]; exact hold) (by rw [← Array.all_toList]; exact h1) h
theorem wpList_load_at {P : Program} {ops : Array Oper} {rest : List Oper} {o : Oper} {a : Act} {w : World} {Q : Exit → Act → World → Prop} (hw : Region.wanted o (yielded ops a.tmps) = true) (ty : TypeId) (x : Operand) (ho : o.op = .load ty x)
    {g : Nat} (hx : a.eval x = .pointer (some ⟨g, 0, none⟩)) {t : TypeId} {cs : Array Value} {fr : Nat × Nat} {d : TypeDesc} (hg : w.heap[g]? = some (.cells cs t fr))
    (hu : P.underlying ty = some d) (hd : (match d with | .struct _ | .array _ _ => true | _ => false) = true) {n : Nat} (hi : (P.info? ty).map (·.size) = some n) (hs : cs.size = n)
    (h : wpList P ops Q rest (a.put o.dst (.agg cs)) w) : wpList P ops Q (o :: rest) a w :=
  BigFrame.wpList_want hw fun _ hK => wp_load_row ty x ho g hx t cs fr d hg hu hd (by rw [hs]; exact hi) (hK _ _ h)
section
variable {P : Program} {fn : Func} {p u v : Tmp} {ty : TypeId} {tmps : Array Value} {w : World} {g : Nat} {t : TypeId} {cs : Array Value} {fr : Nat × Nat} {d : TypeDesc} {n : Nat}
theorem results_at2 (h : fn.results = #[.cell p ty, .tmp u]) (hp : tmps.getD p undef = .pointer (some ⟨g, 0, none⟩)) (hg : w.heap[g]? = some (.cells cs t fr))
    (hu : P.underlying ty = some d) (hd : (match d with | .struct _ | .array _ _ => true | _ => false) = true) (hi : (P.info? ty).map (·.size) = some n) (hs : cs.size = n) :
    (results fn tmps).run P w = .ok (.tuple #[.agg cs, tmps.getD u undef]) w := by
  have hp' : tmps[p]?.getD undef = .pointer (some ⟨g, 0, none⟩) := by simpa using hp
  simp [results, h, hp', asAddr, run_loadVar_row w g t ty cs fr d hg hu hd (by rw [hs]; exact hi)]
theorem results_at3 (h : fn.results = #[.cell p ty, .tmp u, .tmp v]) (hp : tmps.getD p undef = .pointer (some ⟨g, 0, none⟩)) (hg : w.heap[g]? = some (.cells cs t fr))
    (hu : P.underlying ty = some d) (hd : (match d with | .struct _ | .array _ _ => true | _ => false) = true) (hi : (P.info? ty).map (·.size) = some n) (hs : cs.size = n) :
    (results fn tmps).run P w = .ok (.tuple #[.agg cs, tmps.getD u undef, tmps.getD v undef]) w := by
  have hp' : tmps[p]?.getD undef = .pointer (some ⟨g, 0, none⟩) := by simpa using hp
  simp [results, h, hp', asAddr, run_loadVar_row w g t ty cs fr d hg hu hd (by rw [hs]; exact hi)]
end
end Go.Proofs.Ytpablkmdpoombaa
namespace Go.Proofs.Ytpablkmdpoombaa
open Go.RowKit

section
variable {P : Program} {Q : Exit → Act → World → Prop} {J : (Nat → Bool) → Act → World → Prop}

end
end Go.Proofs.Ytpablkmdpoombaa
namespace Go.Proofs.Ytpablkmdpoombaa
open Go.RowKit

section
variable {P : Program} {Q : Exit → Act → World → Prop}
end
end Go.Proofs.Ytpablkmdpoombaa
namespace Go.Proofs.Ytpablkmdpoombaa
open Go.RowKit

section
variable {P : Program} {Q : Exit → Act → World → Prop}
end
end Go.Proofs.Ytpablkmdpoombaa
namespace Go.Proofs.Ytpablkmdpoombaa
open Go.RowKit

section
variable {P : Program} {Q : Exit → Act → World → Prop}
end
end Go.Proofs.Ytpablkmdpoombaa
namespace Go.Proofs.Ytpablkmdpoombaa
open Go.RowKit
section
variable {P : Program} {Q : Exit → Act → World → Prop}
end
end Go.Proofs.Ytpablkmdpoombaa
namespace Go.Proofs.Ytpablkmdpoombaa
open Go.RowKit

section
variable {P : Program} {Q : Exit → Act → World → Prop}
end
end Go.Proofs.Ytpablkmdpoombaa
namespace Go.Proofs.Ytpablkmdpoombaa
open Go.RowKit

section
variable {P : Program} {Q : Exit → Act → World → Prop}
end
end Go.Proofs.Ytpablkmdpoombaa
namespace Go.Proofs.Ytpablkmdpoombaa
open Go.RowKit

section
variable {W0 W W' : World} {c m : Nat} {V : Nat → Value} {Z C : Nat → Array Value} {T : Nat → TypeId} {L : Nat → Bool} {us : Nat → Value}
end
end Go.Proofs.Ytpablkmdpoombaa
namespace Go.Proofs.Ytpablkmdpoombaa
open Go.RowKit Go.Deep

theorem run_storeVar_one {P : Program} (w : World) (b o : Nat) (ty : TypeId) (v : Value) (hv : v.cells = #[v]) (h1 : v.oneCell' = true) (ht : w.there b o 1) (hi : (P.info? ty).map (·.size) = some 1) :
    (storeVar ty ⟨b, o, none⟩ v).run P w = .ok () (w.setCells b o [v]) := by
  have := run_storeCells_cells (P := P) b o [v] 0 w (fun j hj => by simpa using (ht j (by simpa using hj)).1) (fun j hj => by simpa using (ht j (by simpa using hj)).2)
    (fun u hu => by simp at hu; subst hu; exact h1)
  cases hq : P.info? ty with
  | none => simp [hq] at hi
  | some i =>
    have hs : i.size = 1 := by simp [hq] at hi; omega
    simp only [Nat.add_zero] at this
    simp [storeVar, sizeOf, typeInfo, hq, hv, hs, this]
/-- a plain value into the midst of a block -/
theorem pt_store1 {P : Program} {ops : Array Oper} {rest : List Oper} {op : Oper} {a : Act} {w : World} {Q : Exit → Act → World → Prop} (hgd : op.guard = none) (ty : TypeId) (x y : Operand) (ho : op.op = .store ty x y)
    (b o : Nat) (v : Value) (hx : a.eval x = .pointer (some ⟨b, o, none⟩)) (hy : a.eval y = v) (hv : v.cells = #[v]) (h1 : v.oneCell' = true)
    {C : Array Value} {t : Nat} (hC : w.heap[b]? = some (.cells C t)) (hi : (P.info? ty).map (·.size) = some 1) (hn : o + 1 ≤ C.size)
    (h : wpList P ops Q rest (a.put op.dst undef) (w.setRow b (ptL C o [v]))) : wpList P ops Q (op :: rest) a w := by
  refine wpList_plain hgd fun K hK => ?_
  unfold Oper.wp execOp
  simp only [ho, hx, hy, Instr.storeAt, Instr.sureAddr, Sem.run_bind, Sem.run_pure, Result.andThen_ok, run_storeVar_one w b o ty v hv h1 (pt_there hC hn) hi]
  rw [pt_row _ hC]
  exact hK _ _ h
/-- a range of a block, by its row -/
theorem range_row {w : World} {b o t : Nat} {fr : Nat × Nat} {C : Array Value} {cs : List Value} (h : w.heap[b]? = some (.cells C t fr)) (hC : ∀ j v, cs[j]? = some v → C[o + j]? = some v) : w.rangeAt b o cs := fun j v hv => by
  have := cell_row (j := o + j) h
  rw [this]
  exact hC j v hv
/-- the load of a part of a block -/
theorem pt_load {P : Program} {ops : Array Oper} {rest : List Oper} {op : Oper} {a : Act} {w : World} {Q : Exit → Act → World → Prop} (hgd : op.guard = none) (ty : TypeId) (x : Operand) (ho : op.op = .load ty x)
    (b o : Nat) (hx : a.eval x = .pointer (some ⟨b, o, none⟩)) (cs : List Value) {d : TypeDesc} {C : Array Value} {t : Nat} {fr : Nat × Nat} (hC : w.heap[b]? = some (.cells C t fr)) (hcs : (C.toList.drop o).take cs.length = cs)
    (hu : P.underlying ty = some d) (hd : d.isRow = true) (hi : (P.info? ty).map (·.size) = some cs.length)
    (h : wpList P ops Q rest (a.put op.dst (.agg cs.toArray)) w) : wpList P ops Q (op :: rest) a w :=
  wpList_load_mid hgd ty x ho b o hx cs d (range_row hC (fun j v hv => by
    have hj : j < cs.length := (List.getElem?_eq_some_iff.1 hv).1
    rw [← hcs, List.getElem?_take_of_lt hj, List.getElem?_drop, Array.getElem?_toList] at hv
    exact hv)) hu hd hi h
end Go.Proofs.Ytpablkmdpoombaa

/- LayX -/
namespace Go.Proofs.Ytpablkmdpoombaa
open Go.RowKit Go.Maps

def kLit (k : Ky) : Lit := .string (keyBytes [.int .i64 k.L, .int .i64 k.x, .int .i64 k.y, .int .i64 k.z])
end Go.Proofs.Ytpablkmdpoombaa
namespace Go.Proofs.Ytpablkmdpoombaa
open Go.RowKit Go.Maps

section
variable {W W' : World} {base t sz : Nat} {v : Value} {l : List (List Value)}
end
end Go.Proofs.Ytpablkmdpoombaa
namespace Go.Proofs.Ytpablkmdpoombaa
open Go.RowKit Go.Maps

end Go.Proofs.Ytpablkmdpoombaa
namespace Go.Proofs.Ytpablkmdpoombaa
open Go.RowKit Go.Maps

/-- what has been laid above a level, and of the level all but what is still to come -/
def aboveL (S : List Pt) (c : Nat) (l : Nat) (left : Lit → Bool) : Pt → Ky → Prop := fun p k => p ∈ S ∧ isAt S c p k ∧ (k.L < l ∨ (k.L = l ∧ left (kLit k) = false))
structure RngAt (W : World) (base bl mb r n : Nat) (get : Lit → Option Value) (left : Lit → Bool) (cnt : Nat) (S : List Pt) (c l : Nat) (Lf : List Pt) (E : List Te) (ov rv : Value) : Prop where
  rng : RangeAt Try.prog W 109 mb r n get left cnt
  has : ∀ kl, left kl = true → (get kl).isSome = true
  own : ∀ k : Ky, k.small → ∀ v, get (kLit k) = some v → left (kLit k) = true → OwnP W bl v (grp S c l Lf Lf.length k)
  tin : TilesIn W base ov E
  til : Tiles (aboveL S c l left) (E.map Te.tl)
  old : ∀ e ∈ E, ∀ g, e.v.ownBlock = some g → g < bl ∨ ∃ k : Ky, k.small ∧ get (kLit k) = some e.v ∧ left (kLit k) = false
  rest : OwnP W bl rv (rst S c l Lf Lf.length)
  keys : ∀ e ∈ E, e.ok
theorem RngAt.done {W : World} {base bl mb r n cnt c l : Nat} {get : Lit → Option Value} {left : Lit → Bool} {S Lf : List Pt} {E : List Te} {ov rv : Value} (h : RngAt W base bl mb r n get left cnt S c l Lf E ov rv) (hd : ∀ kl, left kl = false) : Tiles (above S c (l + 1)) (E.map Te.tl) :=
  h.til.congr (fun p k => by
    constructor
    · rintro ⟨h1, h2, h3⟩
      refine ⟨h1, h2, ?_⟩
      rcases h3 with h3 | ⟨h3, _⟩
      · omega
      · omega
    · rintro ⟨h1, h2, h3⟩
      refine ⟨h1, h2, ?_⟩
      obtain ⟨m, _, hm⟩ := isAt_bd h2
      by_cases he : k.L = l
      · exact Or.inr ⟨he, hd _⟩
      · left; omega)
end Go.Proofs.Ytpablkmdpoombaa
namespace Go.Proofs.Ytpablkmdpoombaa
open Go.RowKit Go.Maps

/-- the clone of a slice of points -/
theorem clone_pts (b off c : Nat) (l : List Pt) (w : World) (hn : l.length ≤ 4096) (hbw : b < w.heap.size) (hr : RowsAt w b off 9 (l.map Pt.row)) :
    Calls Try.prog 30 #[.slice (some ⟨b, off, none⟩) l.length c] w fun r w' => (∃ v, r = .returned v ∧ OwnP w' w.heap.size v l) ∧ Below w.heap.size w w' := by
  have h9 : recs9 w b off l.length (fun i j => (l[i]!).f j) := fun i hi j hj => by
    have := hr i (l[i]!).row (by rw [List.getElem?_map, List.getElem?_eq_getElem hi, getElem!_pos l i hi]; rfl) j hj
    rw [Pt.row_at _ j hj] at this
    exact this
  have e : ptRows (ptList (fun i j => (l[i]!).f j) l.length) = l.map Pt.row := by
    refine List.ext_getElem? fun i => ?_
    by_cases hi : i < l.length
    · simp [ptRows, ptList, hi]
      rfl
    · simp [ptRows, ptList, hi]
  refine (clone_any b off l.length c _ w (by omega) hbw h9).mono ?_
  rintro r w' ⟨⟨v, rfl, hv⟩, hb⟩
  rw [e] at hv
  exact ⟨⟨v, rfl, hv⟩, hb⟩
set_option maxRecDepth 100000 in
theorem clone_empty (a : Option Addr) (c : Nat) (w : World) :
    Calls Try.prog 30 #[.slice a 0 c] w fun r w' => (∃ v, r = .returned v ∧ OwnP w' w.heap.size v []) ∧ Below w.heap.size w w' := by
  obtain ⟨i0, hi, hz0, hz1, hz2⟩ := info_parts info36
  have HI := hid hi
  have HZ0 := hid hz0
  have HZ1 := hid hz1
  have HZ2 := hid hz2
  clear hi hz0 hz1 hz2
  cases a with
  | none =>
    have heq := fun w => Lib.run_eql_slice_nil (P := Try.prog) w 22 78 none 0 c 0 0 Try.underlying22
    go_enter Try.func30, Try.ntmps30
    go_wp2_with fail
    go_ret
    exact ⟨⟨_, rfl, OwnR.nil _ _ _ _⟩, Below.refl _ _⟩
  | some ad =>
    have heq := fun w => Lib.run_eql_slice_nil (P := Try.prog) w 22 78 (some ad) 0 c 0 0 Try.underlying22
    have hown0 : OwnR (w.alloc (.cells #[] 78)) w.heap.size 78 9 (.slice (some ⟨w.heap.size, 0, none⟩) 0 0) [] := ⟨Wide.nil 9, rfl, Or.inr ⟨_, 0, #[], rfl, Nat.le_refl _, (by repeat' (first | (refine heap_alloc_at _ _ _ ?_; (first | rfl | (simp; done) | (simp; omega))) | (refine heap_alloc_past _ _ _ _ ?_))), Nat.le_refl _, by unfold maxLen; omega, rfl, rfl⟩⟩
    have HOWN := hid hown0
    clear hown0
    go_enter Try.func30, Try.ntmps30
    go_wp2_with (first
      | (at_builtin
         refine wpList_append_own_at _ rfl (.tmp 5) (.tmp 6) 22 rfl w.heap.size 78 i0 _ 9 72 Try.underlying22 HI.out HZ0.out HZ1.out HZ2.out rfl (by decide) _ 0 [] rfl HOWN.out.2 ad 0 c [] rfl rfl (fun j u h => by simp at h) (fun u h => by simp at h) (by unfold maxLen; omega) (by omega) (by simp) ?_
         intro v' w1 hown hgrow _ halt
         have HO := hid (show OwnR w1 w.heap.size 78 9 v' [] from ⟨Wide.nil 9, by simpa using hown⟩)
         have HB := hid (show Below w.heap.size w w1 from ((Below.refl _ _).alloc (Nat.le_refl _) _).grown hgrow (by simp) (fun k hk => by have e : some w.heap.size = some k := hk; injection e with e; omega))
         clear hown hgrow halt))
    go_ret
    exact ⟨⟨v', rfl, HO.out⟩, HB.out⟩
end Go.Proofs.Ytpablkmdpoombaa
namespace Go.Proofs.Ytpablkmdpoombaa
open Go.RowKit Go.Maps Go.Sort

end Go.Proofs.Ytpablkmdpoombaa
namespace Go.Proofs.Ytpablkmdpoombaa
open Go.RowKit Go.Maps

end Go.Proofs.Ytpablkmdpoombaa

/- Reader -/
namespace Go.Proofs.Ytpablkmdpoombaa
open Go.RowKit

theorem Only.below {rb B : Nat} {w w' : World} (h : Only rb w.heap.size w w') (hB : B ≤ rb) (hs : B ≤ w.heap.size) : Below B w w' :=
  ⟨h.os, h.tape, h.output, h.size, fun k hk => h.block k (by omega) (by omega)⟩
end Go.Proofs.Ytpablkmdpoombaa

