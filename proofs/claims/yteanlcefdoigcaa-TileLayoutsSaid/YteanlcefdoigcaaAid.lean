/- Small aids for all walks of this seat: facts kept from the walk, blocks of a world that is written out, arrays of integers in a block. -/
import Derived.WalkKit
import Derived.ProofKit
import Derived.Handy
import Derived.WalkSpells
import Derived.Deep.QuietTactic
import Derived.BigQuiet
import Derived.BigRegion
import Derived.Laws.CopyOwn
import Derived.Lib.SmallJoins
namespace Go.Proofs.Yteanlcefdoigcaa
open Go.RowKit

theorem hid {p : Prop} (h : p) : RowKit.Hid p := h

theorem heap_alloc_at (w : World) (o : Obj) (n : Nat) (h : n = w.heap.size) : (w.alloc o).heap[n]? = some o := by
  subst h; show (w.heap.push o)[_]? = _; simp
theorem heap_alloc_past (w : World) (o : Obj) (n : Nat) (x : Obj) (h : w.heap[n]? = some x) : (w.alloc o).heap[n]? = some x := by
  show (w.heap.push o)[_]? = _
  rw [Array.getElem?_push]
  have : n < w.heap.size := (Array.getElem?_eq_some_iff.1 h).1
  rw [if_neg (by omega)]; exact h
theorem heap_below {B : Nat} {w w' : World} {n : Nat} {x : Obj} (hb : Below B w w') (hn : n < B) (h : w.heap[n]? = some x) : w'.heap[n]? = some x := by
  rw [hb.block n hn]; exact h

/-- the cells of a block that holds integers -/
theorem cells_ints {w : World} {b t : Nat} {fr : Nat × Nat} {C : Array Value} (zs : List Int) (h : w.heap[b]? = some (.cells C t fr))
    (hC : C = (zs.map (Value.int .i64)).toArray) (i : Nat) (hi : i < zs.length) : w.cell? ⟨b, 0 + i, none⟩ = some (.int .i64 (zs.getD i 0)) := by
  subst hC
  simp [World.cell?, h, List.getD_eq_getElem?_getD, List.getElem?_eq_getElem hi]
theorem below_drewN {B : Nat} {a w : World} (h : Below B a w) (n : Nat) : Below B a (w.drewN n) := ⟨h.os, h.tape, h.output, h.size, h.block⟩
theorem setRow_new (W : World) (n : Nat) (t : TypeId) (fr : Nat × Nat) (old cells : Array Value) (hn : n = W.heap.size) : (W.alloc (.cells old t fr)).setRow n cells = W.alloc (.cells cells t fr) := by
  subst hn
  cases W with
  | mk heap tape drawn os output =>
    show World.mk ((heap.push (.cells old t fr)).modify heap.size _) tape drawn os output = World.mk (heap.push (.cells cells t fr)) tape drawn os output
    congr 1
    apply Array.ext
    · simp
    · intro i h1 h2
      simp only [Array.getElem_modify, Array.getElem_push]
      by_cases h : i = heap.size
      · subst h; simp
      · have : i < heap.size := by simp at h2; omega
        simp [this]; intro h'; omega
theorem wpList_store_new {P : Program} {ops : Array Oper} {rest : List Oper} {o : Oper} {a : Act} {W : World} {Q : Exit → Act → World → Prop} (hgd : o.guard = none) (ty : TypeId) (x y : Operand) (ho : o.op = .store ty x y)
    {g : Nat} {cells old : Array Value} {t : TypeId} (hx : a.eval x = .pointer (some ⟨g, 0, none⟩)) (hy : a.eval y = .agg cells)
    (hg : g = W.heap.size) {n : Nat} (hi : (P.info? ty).map (·.size) = some n) (hs : cells.size = n)
    (hold : old.size = n) (h1 : cells.toList.all (·.oneCell') = true)
    (h : wpList P ops Q rest (a.put o.dst undef) (W.alloc (.cells cells t))) : wpList P ops Q (o :: rest) a (W.alloc (.cells old t)) :=
  wpList_store_row hgd ty x y ho g cells hx hy t old (heap_alloc_at _ _ _ hg) (by rw [hs]; exact hi) (by rw [hs]; exact hold) (by rw [← Array.all_toList]; exact h1) (by rw [setRow_new _ _ _ _ _ _ hg]; exact h)
theorem wpList_built {P : Program} {ops : Array Oper} {rest : List Oper} {o : Oper} {a : Act} {w : World} {Q : Exit → Act → World → Prop} (hg : o.guard = none) (t : TypeId) (parts : Array (Nat × Operand)) (ho : o.op = .build t parts)
    (cells : Array Value) (hf : P.built t (parts.map fun (i, x) => (i, a.eval x)).toList = some cells)
    (h : wpList P ops Q rest (a.put o.dst (.agg cells)) w) : wpList P ops Q (o :: rest) a w :=
  wpList_build hg t parts ho (by rw [hf]; rfl) (by rw [hf]; exact h)
/-- the world of a goal under a name of its own -/
theorem gen_world {P : Program} {c : Code} {Q : Exit → Act → World → Prop} {a : Act} {w : World} (h : ∀ W, W = w → c.wp P Q a W) : c.wp P Q a w := h w rfl

theorem wpList_store_at {P : Program} {ops : Array Oper} {rest : List Oper} {o : Oper} {a : Act} {w : World} {Q : Exit → Act → World → Prop} (hgd : o.guard = none) (ty : TypeId) (x y : Operand) (ho : o.op = .store ty x y)
    {g : Nat} {cells old : Array Value} {t : TypeId} (hx : a.eval x = .pointer (some ⟨g, 0, none⟩)) (hy : a.eval y = .agg cells)
    (hg : w.heap[g]? = some (.cells old t (0, 0))) {n : Nat} (hi : (P.info? ty).map (·.size) = some n) (hs : cells.size = n)
    (hold : old.size = n) (h1 : cells.toList.all (·.oneCell') = true)
    (h : wpList P ops Q rest (a.put o.dst undef) (w.setRow g cells)) : wpList P ops Q (o :: rest) a w :=
  wpList_store_row hgd ty x y ho g cells hx hy t old hg (by rw [hs]; exact hi) (by rw [hs]; exact hold) (by rw [← Array.all_toList]; exact h1) h
theorem wpList_load_at {P : Program} {ops : Array Oper} {rest : List Oper} {o : Oper} {a : Act} {w : World} {Q : Exit → Act → World → Prop} (hw : Region.wanted o (yielded ops a.tmps) = true) (ty : TypeId) (x : Operand) (ho : o.op = .load ty x)
    {g : Nat} (hx : a.eval x = .pointer (some ⟨g, 0, none⟩)) {t : TypeId} {cs : Array Value} {fr : Nat × Nat} {d : TypeDesc} (hg : w.heap[g]? = some (.cells cs t fr))
    (hu : P.underlying ty = some d) (hd : (match d with | .struct _ | .array _ _ => true | _ => false) = true) {n : Nat} (hi : (P.info? ty).map (·.size) = some n) (hs : cs.size = n)
    (h : wpList P ops Q rest (a.put o.dst (.agg cs)) w) : wpList P ops Q (o :: rest) a w :=
  BigFrame.wpList_want hw fun _ hK => wp_load_row ty x ho g hx t cs fr d hg hu hd (by rw [hs]; exact hi) (hK _ _ h)
section
variable {P : Program} {fn : Func} {p u v : Tmp} {ty : TypeId} {tmps : Array Value} {w : World} {g : Nat} {t : TypeId} {cs : Array Value} {fr : Nat × Nat} {d : TypeDesc} {n : Nat}
theorem results_at1 (h : fn.results = #[.cell p ty]) (hp : tmps.getD p undef = .pointer (some ⟨g, 0, none⟩)) (hg : w.heap[g]? = some (.cells cs t fr))
    (hu : P.underlying ty = some d) (hd : (match d with | .struct _ | .array _ _ => true | _ => false) = true) (hi : (P.info? ty).map (·.size) = some n) (hs : cs.size = n) :
    (results fn tmps).run P w = .ok (.agg cs) w := results_cell_row h tmps w g t cs fr d hp hg hu hd (by rw [hs]; exact hi)
theorem results_at2 (h : fn.results = #[.cell p ty, .tmp u]) (hp : tmps.getD p undef = .pointer (some ⟨g, 0, none⟩)) (hg : w.heap[g]? = some (.cells cs t fr))
    (hu : P.underlying ty = some d) (hd : (match d with | .struct _ | .array _ _ => true | _ => false) = true) (hi : (P.info? ty).map (·.size) = some n) (hs : cs.size = n) :
    (results fn tmps).run P w = .ok (.tuple #[.agg cs, tmps.getD u undef]) w := by
  have hp' : tmps[p]?.getD undef = .pointer (some ⟨g, 0, none⟩) := by simpa using hp
  simp [results, h, hp', asAddr, run_loadVar_row w g t ty cs fr d hg hu hd (by rw [hs]; exact hi)]
theorem results_at3 (h : fn.results = #[.cell p ty, .tmp u, .tmp v]) (hp : tmps.getD p undef = .pointer (some ⟨g, 0, none⟩)) (hg : w.heap[g]? = some (.cells cs t fr))
    (hu : P.underlying ty = some d) (hd : (match d with | .struct _ | .array _ _ => true | _ => false) = true) (hi : (P.info? ty).map (·.size) = some n) (hs : cs.size = n) :
    (results fn tmps).run P w = .ok (.tuple #[.agg cs, tmps.getD u undef, tmps.getD v undef]) w := by
  have hp' : tmps[p]?.getD undef = .pointer (some ⟨g, 0, none⟩) := by simpa using hp
  simp [results, h, hp', asAddr, run_loadVar_row w g t ty cs fr d hg hu hd (by rw [hs]; exact hi)]
end
theorem heap_still {w w' : World} {n : Nat} {x : Obj} (hb : Below w.heap.size w w') (h : w.heap[n]? = some x) : w'.heap[n]? = some x :=
  heap_below hb (Array.getElem?_eq_some_iff.1 h).1 h
/-- the frame of a goal under a name of its own -/
theorem gen_act {P : Program} {c : Code} {Q : Exit → Act → World → Prop} {a : Act} {w : World} (h : ∀ A, A = a → c.wp P Q A w) : c.wp P Q a w := h a rfl
end Go.Proofs.Yteanlcefdoigcaa
