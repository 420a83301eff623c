/- Disks as they lie in memory: a block, two own rows of bytes; what a call leaves alone. -/
import Derived.Test.YteanlcefdoigcaaWrite
import Derived.Test.YteanlcefdoigcaaMaps
import Derived.Test.YteanlcefdoigcaaReader
namespace Go.Proofs.Yteanlcefdoigcaa
open Go.RowKit

/-- old blocks are as they were, but for some -/
structure Fr (F : Nat → Prop) (W W' : World) : Prop where
  os : W'.os = W.os
  tape : W'.tape = W.tape
  output : W'.output = W.output
  size : W.heap.size ≤ W'.heap.size
  block : ∀ k, k < W.heap.size → ¬ F k → W'.heap[k]? = W.heap[k]?
theorem Fr.refl (F : Nat → Prop) (W : World) : Fr F W W := ⟨rfl, rfl, rfl, Nat.le_refl _, fun _ _ _ => rfl⟩
theorem Fr.trans {F G : Nat → Prop} {W W' W'' : World} (h : Fr F W W') (h2 : Fr G W' W'') (hG : ∀ k, k < W.heap.size → G k → F k) : Fr F W W'' :=
  ⟨h2.os.trans h.os, h2.tape.trans h.tape, h2.output.trans h.output, Nat.le_trans h.size h2.size, fun k hk hF => (h2.block k (Nat.lt_of_lt_of_le hk h.size) (fun g => hF (hG k hk g))).trans (h.block k hk hF)⟩
theorem Fr.mono {F G : Nat → Prop} {W W' : World} (h : Fr F W W') (hF : ∀ k, k < W.heap.size → F k → G k) : Fr G W W' :=
  ⟨h.os, h.tape, h.output, h.size, fun k hk hn => h.block k hk (fun g => hn (hF k hk g))⟩
theorem Fr.of_below {F : Nat → Prop} {W W' : World} (h : Below W.heap.size W W') : Fr F W W' := ⟨h.os, h.tape, h.output, h.size, fun k hk _ => h.block k hk⟩
theorem Fr.below {F : Nat → Prop} {B : Nat} {W W' : World} (h : Fr F W W') (hF : ∀ k, F k → B ≤ k) (hB : B ≤ W.heap.size) : Below B W W' :=
  ⟨h.os, h.tape, h.output, h.size, fun k hk => h.block k (by omega) (fun g => by have := hF k g; omega)⟩
theorem Fr.grown {F : Nat → Prop} {W W' : World} {row : Option Nat} (h : W.grownBy W' row) (hr : ∀ k, row = some k → F k) : Fr F W W' :=
  ⟨h.os, h.tape, h.output, h.size, fun k hk hn => h.block k hk (fun e => hn (hr k e.symm))⟩
theorem Fr.set {F : Nat → Prop} {W : World} {g j : Nat} {v : Value} (hF : F g) : Fr F W (W.setCell ⟨g, j, none⟩ v) := by
  have hb := (Below.refl 0 W).setCell (p := ⟨g, j, none⟩) (Nat.zero_le _) v
  exact ⟨hb.os, hb.tape, hb.output, hb.size, fun k _ hn => Below.heap_setCell W ⟨g, j, none⟩ v k (fun e => hn (by have h1 : k = g := e; rw [h1]; exact hF))⟩
theorem Fr.alloc {F : Nat → Prop} {W W' : World} (h : Fr F W W') (o : Obj) : Fr F W (W'.alloc o) :=
  h.trans (G := fun _ => False) (Fr.of_below ((Below.refl _ _).alloc (Nat.le_refl _) _)) (fun _ _ h => h.elim)
theorem Fr.step {F : Nat → Prop} {W W' W'' : World} (h : Fr F W W') (h2 : Below W'.heap.size W' W'') : Fr F W W'' :=
  h.trans (G := fun _ => False) (Fr.of_below h2) (fun _ _ h => h.elim)
/-- a file: its slice, its bytes, how many are safe -/
structure Fl where
  v : Value
  b : List Nat
  s : Nat
structure Dsk (W : World) (B g t : Nat) (C : Array Value) (f0 f1 : Fl) : Prop where
  hg : W.heap[g]? = some (.cells C t)
  hB : B ≤ g
  o0 : W.ownsRow B 5 1 f0.v f0.b.length (u8s f0.b)
  o1 : W.ownsRow B 5 1 f1.v f1.b.length (u8s f1.b)
  n0 : f0.v.ownBlock ≠ some g
  n1 : f1.v.ownBlock ≠ some g
  n01 : ∀ k, f0.v.ownBlock = some k → f1.v.ownBlock ≠ some k
def foot (g : Nat) (f0 f1 : Fl) (k : Nat) : Prop := k = g ∨ f0.v.ownBlock = some k ∨ f1.v.ownBlock = some k
section
variable {W W' : World} {B g t : Nat} {C : Array Value} {f0 f1 : Fl}
theorem Dsk.lt (h : Dsk W B g t C f0 f1) : g < W.heap.size := (Array.getElem?_eq_some_iff.1 h.hg).1
theorem Dsk.foot_ge (h : Dsk W B g t C f0 f1) : ∀ k, foot g f0 f1 k → B ≤ k := by
  rintro k (rfl | hk | hk)
  · exact h.hB
  · exact (h.o0.lt k hk).1
  · exact (h.o1.lt k hk).1
theorem Dsk.foot_lt (h : Dsk W B g t C f0 f1) : ∀ k, foot g f0 f1 k → k < W.heap.size := by
  rintro k (rfl | hk | hk)
  · exact h.lt
  · exact (h.o0.lt k hk).2
  · exact (h.o1.lt k hk).2
theorem own_same {v : Value} {n : Nat} {xs : List Value} (h : W.ownsRow B 5 1 v n xs) (hb : ∀ k, v.ownBlock = some k → W'.heap[k]? = W.heap[k]?) : W'.ownsRow B 5 1 v n xs := by
  obtain ⟨h1, h2⟩ := h
  refine ⟨h1, h2.imp id ?_⟩
  rintro ⟨k, cap, cur, rfl, h3, h4, h5⟩
  exact ⟨k, cap, cur, rfl, h3, by rw [hb k rfl]; exact h4, h5⟩
/-- a disk that a call does not touch -/
theorem Dsk.frame {F : Nat → Prop} (h : Dsk W B g t C f0 f1) (hf : Fr F W W') (hF : ∀ k, foot g f0 f1 k → ¬ F k) : Dsk W' B g t C f0 f1 :=
  ⟨(hf.block g h.lt (hF g (.inl rfl))).trans h.hg, h.hB, own_same h.o0 (fun k hk => hf.block k (h.o0.lt k hk).2 (hF k (.inr (.inl hk)))), own_same h.o1 (fun k hk => hf.block k (h.o1.lt k hk).2 (hF k (.inr (.inr hk)))), h.n0, h.n1, h.n01⟩
theorem Dsk.still (h : Dsk W B g t C f0 f1) (hb : Below W.heap.size W W') : Dsk W' B g t C f0 f1 := h.frame (Fr.of_below (F := fun _ => False) hb) (fun _ _ h => h)
theorem Dsk.mono {B' : Nat} (h : Dsk W B g t C f0 f1) (hB : B' ≤ B) : Dsk W B' g t C f0 f1 := by
  have ho : ∀ {v : Value} {n : Nat} {xs : List Value}, W.ownsRow B 5 1 v n xs → W.ownsRow B' 5 1 v n xs := fun ⟨h1, h2⟩ => ⟨h1, h2.imp id (fun ⟨k, cap, cur, e, h3, h4⟩ => ⟨k, cap, cur, e, Nat.le_trans hB h3, h4⟩)⟩
  exact ⟨h.hg, Nat.le_trans hB h.hB, ho h.o0, ho h.o1, h.n0, h.n1, h.n01⟩
theorem Dsk.set (h : Dsk W B g t C f0 f1) (j : Nat) (u : Value) : Dsk (W.setCell ⟨g, j, none⟩ u) B g t (C.setIfInBounds j u) f0 f1 := by
  have hn : ∀ k, k ≠ g → (W.setCell ⟨g, j, none⟩ u).heap[k]? = W.heap[k]? := fun k hk => Below.heap_setCell W ⟨g, j, none⟩ u k hk
  exact ⟨heap_setCell h.hg u, h.hB, own_same h.o0 (fun k hk => hn k (fun e => h.n0 (by rw [hk, e]))), own_same h.o1 (fun k hk => hn k (fun e => h.n1 (by rw [hk, e]))), h.n0, h.n1, h.n01⟩
end
/-- the rows of the two disks' blocks -/
def rowX (dn : Bool) (lf : Int) (f0 f1 : Fl) : Array Value := #[.bool true, .bool dn, .int .i64 lf, f0.v, .int .i64 (f0.s : Int), f1.v, .int .i64 (f1.s : Int)]
def rowR (dn : Bool) (lf : Int) (f0 f1 : Fl) : Array Value := #[f0.v, f1.v, .int .i64 (f0.s : Int), .int .i64 (f1.s : Int), .bool dn, .int .i64 lf]
def DX (W : World) (B g : Nat) (dn : Bool) (lf : Int) (f0 f1 : Fl) : Prop := Dsk W B g 107 (rowX dn lf f0 f1) f0 f1
def DR (W : World) (B g : Nat) (dn : Bool) (lf : Int) (f0 f1 : Fl) : Prop := Dsk W B g 74 (rowR dn lf f0 f1) f0 f1
end Go.Proofs.Yteanlcefdoigcaa
