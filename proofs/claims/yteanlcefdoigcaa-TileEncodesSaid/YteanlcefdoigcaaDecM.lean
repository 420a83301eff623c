/- Points and tiles read from bytes, in plain Lean: what the readers of the program and of the reference return. -/
import Derived.Test.YteanlcefdoigcaaEncR
import Derived.Test.YteanlcefdoigcaaNext
namespace Go.Proofs.Yteanlcefdoigcaa
open Go.RowKit

theorem nextU_range (s : St) : 0 ≤ (nextS false s).1 ∧ (nextS false s).1 ≤ 4611686018427387903 := by
  have h := readV_bd s.g s.m
  unfold nextS
  simp only [Bool.false_eq_true, if_false]
  split
  · exact h
  · exact ⟨Int.le_refl _, show (0 : Int) ≤ _ by decide⟩
theorem nextI_range (s : St) : -2305843009213693952 ≤ (nextS true s).1 ∧ (nextS true s).1 ≤ 2305843009213693951 := by
  have h := readV_bd s.g s.m
  unfold nextS
  simp only [if_true]
  split
  · unfold signV
    split
    · split <;> simp only <;> omega
    · simp only; omega
  · show -2305843009213693952 ≤ (0 : Int) ∧ (0 : Int) ≤ 2305843009213693951
    omega
def St.mark (s : St) : St := ⟨s.g, s.m, true⟩
/-- one point read by the program -/
def ptX (l : Int) (s : St) : Pt × St :=
  let r0 := nextS false s
  let r1 := nextS true r0.2
  let r2 := nextS true r1.2
  let r3 := nextS true r2.2
  let r4 := nextS false r3.2
  let r5 := nextS false r4.2
  let r6 := nextS false r5.2
  let r7 := nextS false r6.2
  let r8 := nextS false r7.2
  (⟨l + r0.1, r1.1, r2.1, r3.1, r3.1 + r4.1, r5.1, r6.1, r7.1, r8.1⟩, if 1152921504606846976 < l + r0.1 then r8.2.mark else r8.2)
def ptsX : Nat → Int → St → List Pt × St
  | 0, _, s => ([], s)
  | f + 1, l, s => if s.bad = true then ([], s) else ((ptX l s).1 :: (ptsX f (ptX l s).1.id (ptX l s).2).1, (ptsX f (ptX l s).1.id (ptX l s).2).2)
theorem ptsX_bad (f : Nat) (l : Int) (s : St) (h : s.bad = true) : ptsX f l s = ([], s) := by
  cases f with
  | zero => rfl
  | succ f => unfold ptsX; rw [if_pos h]
theorem ptsX_next {f : Nat} {l : Int} {s : St} {p : Pt} {s' : St} (h : s.bad = false) (hp : ptX l s = (p, s')) : ptsX (f + 1) l s = (p :: (ptsX f p.id s').1, (ptsX f p.id s').2) := by
  show (if s.bad = true then _ else _) = _
  rw [if_neg (by simp [h]), hp]
def pointsX (s : St) : List Pt × St := ptsX (nextS false s).1.toNat 0 (if 1024 < (nextS false s).1 then (nextS false s).2.mark else (nextS false s).2)
/-- one point read by the reference -/
def ptR (l : Int) (s : St) : Pt × St :=
  let r0 := nextS false s
  let s1 := if 1152921504606846976 < r0.1 then r0.2.mark else r0.2
  let r1 := nextS true s1
  let r2 := nextS true r1.2
  let r3 := nextS true r2.2
  let r4 := nextS false r3.2
  let s5 := if r3.1 < -268435456 ∨ 268435456 < r3.1 ∨ 536870912 < r4.1 ∨ 1152921504606846976 < l + r0.1 then r4.2.mark else r4.2
  let r5 := nextS false s5
  let r6 := nextS false r5.2
  let r7 := nextS false r6.2
  let r8 := nextS false r7.2
  (⟨l + r0.1, r1.1, r2.1, r3.1, r3.1 + r4.1, r5.1, r6.1, r7.1, r8.1⟩, r8.2)
def ptsR : Nat → Int → St → List Pt × St
  | 0, _, s => ([], s)
  | f + 1, l, s => if s.bad = true then ([], s) else ((ptR l s).1 :: (ptsR f (ptR l s).1.id (ptR l s).2).1, (ptsR f (ptR l s).1.id (ptR l s).2).2)
theorem ptsR_bad (f : Nat) (l : Int) (s : St) (h : s.bad = true) : ptsR f l s = ([], s) := by
  cases f with
  | zero => rfl
  | succ f => unfold ptsR; rw [if_pos h]
theorem ptsR_next {f : Nat} {l : Int} {s : St} {p : Pt} {s' : St} (h : s.bad = false) (hp : ptR l s = (p, s')) : ptsR (f + 1) l s = (p :: (ptsR f p.id s').1, (ptsR f p.id s').2) := by
  show (if s.bad = true then _ else _) = _
  rw [if_neg (by simp [h]), hp]
theorem nextS_keeps (sg : Bool) (s : St) (h : s.bad = true) : (nextS sg s).2.bad = true := by
  rw [nextS_bad (by simp [h])]

/- the reader in memory -/
theorem number_at {rb b : Nat} {s s' : St} {v : Int} (w : World) (hn : nextS false s = (v, s')) (h : RdAt w rb 118 b s) :
    Calls Try.prog 84 #[.pointer (some ⟨rb, 0, none⟩)] w fun r w' => r = .returned (.int .i64 v) ∧ RdAt w' rb 118 b s' ∧ Only rb w.heap.size w w' := by
  have := number_any rb b s w h
  rw [hn] at this; exact this
theorem signed_at {rb b : Nat} {s s' : St} {v : Int} (w : World) (hn : nextS true s = (v, s')) (h : RdAt w rb 118 b s) :
    Calls Try.prog 113 #[.pointer (some ⟨rb, 0, none⟩)] w fun r w' => r = .returned (.int .i64 v) ∧ RdAt w' rb 118 b s' ∧ Only rb w.heap.size w w' := by
  have := signed_any rb b s w h
  rw [hn] at this; exact this
theorem rnum_at {rb b : Nat} {s s' : St} {v : Int} (w : World) (hn : nextS false s = (v, s')) (h : RdAt w rb 123 b s) :
    Calls Try.prog 87 #[.pointer (some ⟨rb, 0, none⟩), .bool false] w fun r w' => r = .returned (.int .i64 v) ∧ RdAt w' rb 123 b s' ∧ Only rb w.heap.size w w' := by
  have := next_number rb b s w h
  rw [hn] at this; exact this
theorem rsig_at {rb b : Nat} {s s' : St} {v : Int} (w : World) (hn : nextS true s = (v, s')) (h : RdAt w rb 123 b s) :
    Calls Try.prog 87 #[.pointer (some ⟨rb, 0, none⟩), .bool true] w fun r w' => r = .returned (.int .i64 v) ∧ RdAt w' rb 123 b s' ∧ Only rb w.heap.size w w' := by
  have := next_signed rb b s w h
  rw [hn] at this; exact this
theorem Only.alloc {rb B : Nat} {w W : World} (h : Only rb B w W) (hB : B ≤ W.heap.size) (o : Obj) : Only rb B w (W.alloc o) := by
  refine ⟨h.os, h.tape, h.output, by have := h.size; simp; omega, fun k hk hne => ?_⟩
  rw [Below.heap_alloc W o k (by omega)]
  exact h.block k hk hne
theorem Only.set {rb B g j : Nat} {w W : World} (h : Only rb B w W) (hB : B ≤ g) (v : Value) : Only rb B w (W.setCell ⟨g, j, none⟩ v) := by
  refine ⟨h.os, h.tape, h.output, by simpa using h.size, fun k hk hne => ?_⟩
  rw [Below.heap_setCell W ⟨g, j, none⟩ v k (by show k ≠ g; omega)]
  exact h.block k hk hne
theorem RdAt.same {w w' : World} {rb ty b : Nat} {s : St} (h : RdAt w rb ty b s) (h1 : w'.heap[rb]? = w.heap[rb]?) (h2 : w'.heap[b]? = w.heap[b]?) (h3 : w.heap.size ≤ w'.heap.size) : RdAt w' rb ty b s := by
  obtain ⟨o, c, hr, hm, hc, hb, hne, hg, hbw⟩ := h
  refine ⟨o, c, h1.trans hr, hm, hc, fun i hi => ?_, hne, hg, by omega⟩
  rw [World.cell?_of_block (w := w) (w' := w') (a := ⟨b, o + i, none⟩) h2]
  exact hb i hi
theorem RdAt.rb_lt {w : World} {rb ty b : Nat} {s : St} (h : RdAt w rb ty b s) : rb < w.heap.size := by
  obtain ⟨o, c, hr, _⟩ := h
  exact (Array.getElem?_eq_some_iff.1 hr).1
theorem RdAt.b_lt {w : World} {rb ty b : Nat} {s : St} (h : RdAt w rb ty b s) : b < w.heap.size := by
  obtain ⟨o, c, hr, hm, hc, hb, hne, hg, hbw⟩ := h
  exact hbw
theorem RdAt.apart {w : World} {rb ty b : Nat} {s : St} (h : RdAt w rb ty b s) : rb ≠ b := by
  obtain ⟨o, c, hr, hm, hc, hb, hne, hg, hbw⟩ := h
  exact hne
theorem RdAt.alloc {w : World} {rb ty b : Nat} {s : St} (h : RdAt w rb ty b s) (o : Obj) : RdAt (w.alloc o) rb ty b s :=
  h.same (Below.heap_alloc w o rb h.rb_lt) (Below.heap_alloc w o b h.b_lt) (by simp)
theorem RdAt.grow {w w' : World} {rb ty b : Nat} {s : St} (h : RdAt w rb ty b s) (hb : Below w.heap.size w w') : RdAt w' rb ty b s :=
  h.same (hb.block rb h.rb_lt) (hb.block b h.b_lt) hb.size
theorem RdAt.set {w : World} {rb ty b g j : Nat} {s : St} (h : RdAt w rb ty b s) (h1 : rb ≠ g) (h2 : b ≠ g) (v : Value) : RdAt (w.setCell ⟨g, j, none⟩ v) rb ty b s :=
  h.same (Below.heap_setCell w ⟨g, j, none⟩ v rb h1) (Below.heap_setCell w ⟨g, j, none⟩ v b h2) (by simp)
theorem heap_set_other {w : World} {g j n : Nat} {x : Obj} (h : w.heap[n]? = some x) (hne : n ≠ g) (v : Value) : (w.setCell ⟨g, j, none⟩ v).heap[n]? = some x := by
  rw [Below.heap_setCell w ⟨g, j, none⟩ v n hne]; exact h
theorem RdAt.flag {w : World} {rb ty b : Nat} {s : St} (h : RdAt w rb ty b s) : w.cell? ⟨rb, 1, none⟩ = some (.bool s.bad) ∧ w.frozen? ⟨rb, 1, none⟩ = false := by
  obtain ⟨o, c, hr, _⟩ := h
  exact ⟨(cell_row (j := 1) hr).trans rfl, by simp [World.frozen?, hr]⟩
theorem RdAt.mark {w : World} {rb ty b : Nat} {s : St} (h : RdAt w rb ty b s) : RdAt (w.setCell ⟨rb, 1, none⟩ (.bool true)) rb ty b s.mark := by
  obtain ⟨o, c, hr, hm, hc, hb, hne, hg, hbw⟩ := h
  refine ⟨o, c, heap_setCell hr _, hm, hc, fun i hi => ?_, hne, hg, by simpa using hbw⟩
  rw [World.cell?_of_block (w := w) (w' := w.setCell ⟨rb, 1, none⟩ (.bool true)) (a := ⟨b, o + i, none⟩) (Below.heap_setCell w ⟨rb, 1, none⟩ _ b (fun e => hne e.symm))]
  exact hb i hi
theorem OwnP.only {w w' : World} {rb B base : Nat} {v : Value} {l : List Pt} (h : OwnP w base v l) (ho : Only rb B w w') (hB : w.heap.size ≤ B) (hb : rb < base) : OwnP w' base v l := by
  refine OwnR.heap h fun g x hx hg => ?_
  rw [ho.block g (by have := (Array.getElem?_eq_some_iff.1 hx).1; omega) (by omega)]
  exact hx

/-- a region that reads a number and stores the sum of a field and of it: what holds of it, in any order -/
structure AddR (w : World) (rb b pb B : Nat) (s s' : St) (ws : List Value) (C C' : Array Value) (L : Nat → Bool) (us : Nat → Value) (W : World) : Prop where
  only : Only rb B w W
  vals : ∀ j, j < 8 → L j = true → us j = ws.getD j undef
  rd : RdAt W rb 118 b (if L 4 = true then s' else s)
  row : W.heap[pb]? = some (.cells (if L 8 = true then C' else C) 36)
theorem AddR.pure {w W : World} {rb b pb B k : Nat} {s s' : St} {ws : List Value} {C C' : Array Value} {L : Nat → Bool} {us : Nat → Value} {v : Value} (h : AddR w rb b pb B s s' ws C C' L us W) (hk : k < 8) (h4 : k ≠ 4) (hv : v = ws.getD k undef) :
    AddR w rb b pb B s s' ws C C' (fun j => j == k || L j) (updF us k v) W := by
  refine ⟨h.only, fun j hj hl => ?_, ?_, ?_⟩
  · by_cases e : j = k
    · subst e; simp [updF, hv]
    · simp only [updF, if_neg e]
      exact h.vals j hj (by simpa [e] using hl)
  · have : ((4 == k) || L 4) = L 4 := by rw [show ((4 : Nat) == k) = false from beq_false_of_ne (fun e => h4 e.symm), Bool.false_or]
    rw [this]
    exact h.rd
  · have : ((8 == k) || L 8) = L 8 := by rw [show ((8 : Nat) == k) = false from beq_false_of_ne (by omega), Bool.false_or]
    rw [this]
    exact h.row
theorem AddR.call {w W W' : World} {rb b pb B : Nat} {s s' : St} {ws : List Value} {C C' : Array Value} {L : Nat → Bool} {us : Nat → Value} {v : Value} (h : AddR w rb b pb B s s' ws C C' L us W) (hpb : pb ≠ rb) (hB : B ≤ W.heap.size) (hv : v = ws.getD 4 undef)
    (hR : RdAt W' rb 118 b s') (ho : Only rb W.heap.size W W') : AddR w rb b pb B s s' ws C C' (fun j => j == 4 || L j) (updF us 4 v) W' := by
  refine ⟨h.only.trans ho hB, fun j hj hl => ?_, ?_, ?_⟩
  · by_cases e : j = 4
    · subst e; simp [updF, hv]
    · simp only [updF, if_neg e]
      exact h.vals j hj (by simpa [e] using hl)
  · simpa using hR
  · exact ho.heap hpb h.row
theorem AddR.store {w W : World} {rb b pb B : Nat} {s s' : St} {ws : List Value} {C C' : Array Value} {L : Nat → Bool} {us : Nat → Value} {u v : Value} (h : AddR w rb b pb B s s' ws C C' L us W) (h1 : rb ≠ pb) (h2 : b ≠ pb) (hB : B ≤ pb) (h8 : L 8 = false)
    (hC : C' = C.setIfInBounds 4 u) : AddR w rb b pb B s s' ws C C' (fun j => j == 8 || L j) (updF us 8 v) (W.setCell ⟨pb, 4, none⟩ u) := by
  refine ⟨h.only.set hB _, fun j hj hl => ?_, ?_, ?_⟩
  · have e : j ≠ 8 := by omega
    simp only [updF, if_neg e]
    exact h.vals j hj (by simpa [e] using hl)
  · exact h.rd.set h1 h2 _
  · have := h.row
    rw [h8] at this
    have h3 := heap_setCell (j := 4) this u
    simpa [hC] using h3
end Go.Proofs.Yteanlcefdoigcaa
