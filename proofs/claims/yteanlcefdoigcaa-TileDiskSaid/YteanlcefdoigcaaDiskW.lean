/- The two disks beside each other: a call of both (call 38). (Printed by wip/gen_diskw.py.) -/
import Derived.Test.YteanlcefdoigcaaDiskV
import Derived.Test.YteanlcefdoigcaaDiskF
namespace Go.Proofs.Yteanlcefdoigcaa
open Go.RowKit

/-- what an operation of one disk makes of it: the bytes of its files, how many are safe -/
structure Chg where
  dn : Bool
  lf : Int
  b0 : List Nat
  b1 : List Nat
  s0 : Nat
  s1 : Nat
def OpX (w w' : World) (B g : Nat) (x0 x1 : Fl) (c : Chg) : Prop :=
  ∃ x0' x1' : Fl, x0'.b = c.b0 ∧ x0'.s = c.s0 ∧ x1'.b = c.b1 ∧ x1'.s = c.s1 ∧ DX w' B g c.dn c.lf x0' x1' ∧ Fr (foot g x0 x1) w w' ∧ ∀ k, k < w.heap.size → foot g x0' x1' k → foot g x0 x1 k
def OpR (w w' : World) (B g : Nat) (x0 x1 : Fl) (c : Chg) : Prop :=
  ∃ x0' x1' : Fl, x0'.b = c.b0 ∧ x0'.s = c.s0 ∧ x1'.b = c.b1 ∧ x1'.s = c.s1 ∧ DR w' B g c.dn c.lf x0' x1' ∧ Fr (foot g x0 x1) w w' ∧ ∀ k, k < w.heap.size → foot g x0' x1' k → foot g x0 x1 k
structure Pair (W : World) (B ga gb : Nat) (dn : Bool) (lf am : Int) (x0 x1 y0 y1 : Fl) : Prop where
  x : DX W B ga dn lf x0 x1
  y : DR W B gb dn am y0 y1
  b0 : y0.b = x0.b
  b1 : y1.b = x1.b
  s0 : y0.s = x0.s
  s1 : y1.s = x1.s
  la : dn = false → lf = am
  l0 : 0 ≤ lf
  l1 : lf ≤ 9223372036854775807
  a0 : 0 ≤ am
  a1 : am ≤ 9223372036854775807
  f0 : x0.s ≤ x0.b.length
  f1 : x1.s ≤ x1.b.length
  ap : ∀ k, foot ga x0 x1 k → ¬ foot gb y0 y1 k
def PairN (W : World) (B n ga gb : Nat) : Prop := ∃ dn lf am x0 x1 y0 y1, Pair W B ga gb dn lf am x0 x1 y0 y1 ∧ x0.b.length ≤ n ∧ x1.b.length ≤ n
section
variable {w w1 w2 : World} {B ga gb : Nat} {dn : Bool} {lf am : Int} {x0 x1 y0 y1 : Fl}
theorem Pair.still (h : Pair w B ga gb dn lf am x0 x1 y0 y1) (hb : Below w.heap.size w w1) : Pair w1 B ga gb dn lf am x0 x1 y0 y1 :=
  ⟨h.x.still hb, h.y.still hb, h.b0, h.b1, h.s0, h.s1, h.la, h.l0, h.l1, h.a0, h.a1, h.f0, h.f1, h.ap⟩
theorem PairN.still {n : Nat} (h : PairN w B n ga gb) (hb : Below w.heap.size w w1) : PairN w1 B n ga gb := by
  obtain ⟨dn, lf, am, x0, x1, y0, y1, h, h1, h2⟩ := h
  exact ⟨dn, lf, am, x0, x1, y0, y1, h.still hb, h1, h2⟩
theorem PairN.mono {n m : Nat} (h : PairN w B n ga gb) (hm : n ≤ m) : PairN w B m ga gb := by
  obtain ⟨dn, lf, am, x0, x1, y0, y1, h, h1, h2⟩ := h
  exact ⟨dn, lf, am, x0, x1, y0, y1, h, by omega, by omega⟩
theorem PairN.base {n B' : Nat} (h : PairN w B n ga gb) (hB : B' ≤ B) : PairN w B' n ga gb := by
  obtain ⟨dn, lf, am, x0, x1, y0, y1, h, h1, h2⟩ := h
  exact ⟨dn, lf, am, x0, x1, y0, y1, ⟨Dsk.mono h.x hB, Dsk.mono h.y hB, h.b0, h.b1, h.s0, h.s1, h.la, h.l0, h.l1, h.a0, h.a1, h.f0, h.f1, h.ap⟩, h1, h2⟩
theorem Pair.mid (h : Pair w B ga gb dn lf am x0 x1 y0 y1) {c : Chg} (hx : OpX w w1 B ga x0 x1 c) : DR w1 B gb dn am y0 y1 := by
  obtain ⟨x0', x1', _, _, _, _, _, hf, _⟩ := hx
  exact h.y.frame hf (fun k hk hF => h.ap k hF hk)
theorem Pair.step (h : Pair w B ga gb dn lf am x0 x1 y0 y1) {c c' : Chg} (hx : OpX w w1 B ga x0 x1 c) (hy : OpR w1 w2 B gb y0 y1 c') (e0 : c'.b0 = c.b0) (e1 : c'.b1 = c.b1) (e2 : c'.s0 = c.s0) (e3 : c'.s1 = c.s1) (e4 : c'.dn = c.dn)
    (la : c.dn = false → c.lf = c'.lf) (l0 : 0 ≤ c.lf) (l1 : c.lf ≤ 9223372036854775807) (a0 : 0 ≤ c'.lf) (a1 : c'.lf ≤ 9223372036854775807) (q0 : c.s0 ≤ c.b0.length) (q1 : c.s1 ≤ c.b1.length) {n : Nat} (hn0 : c.b0.length ≤ n) (hn1 : c.b1.length ≤ n) :
    PairN w2 B n ga gb ∧ Below B w w2 := by
  have hm := h.mid hx
  have hlt := Dsk.foot_lt h.y
  have hge0 := Dsk.foot_ge h.x
  have hge1 := Dsk.foot_ge h.y
  have hBw : B ≤ w.heap.size := by have h1 := hge0 ga (.inl rfl); have h2 := Dsk.foot_lt h.x ga (.inl rfl); omega
  obtain ⟨x0', x1', rb0, rs0, rb1, rs1, hd, hf, hnw⟩ := hx
  obtain ⟨y0', y1', tb0, ts0, tb1, ts1, gd, gf, gnw⟩ := hy
  have hsep : ∀ k, foot ga x0' x1' k → ¬ foot gb y0 y1 k := fun k hk hy => by
    have := hlt k hy
    exact h.ap k (hnw k this hk) hy
  have hx2 : DX w2 B ga c.dn c.lf x0' x1' := hd.frame gf hsep
  refine ⟨⟨c.dn, c.lf, c'.lf, x0', x1', y0', y1', ⟨hx2, e4 ▸ gd, by rw [tb0, rb0, e0], by rw [tb1, rb1, e1], by rw [ts0, rs0, e2], by rw [ts1, rs1, e3], la, l0, l1, a0, a1, by rw [rs0, rb0]; exact q0, by rw [rs1, rb1]; exact q1, fun k hk hy => ?_⟩, by rw [rb0]; exact hn0, by rw [rb1]; exact hn1⟩, ?_⟩
  · exact hsep k hk (gnw k (Dsk.foot_lt hd k hk) hy)
  · exact (hf.below hge0 hBw).trans (gf.below hge1 (Nat.le_trans hBw hf.size))
end
/- the operations of both, in one form -/
def chgA (i : Int) (dn : Bool) (lf : Int) (x0 x1 : Fl) (bs : List Nat) : Chg := ⟨dnV i dn lf, lfV i dn lf, if okB i dn lf = true ∧ i = 0 then x0.b ++ bs else x0.b, if okB i dn lf = true ∧ i = 1 then x1.b ++ bs else x1.b, x0.s, x1.s⟩
def chgS (i : Int) (dn : Bool) (lf : Int) (x0 x1 : Fl) : Chg := ⟨dnV i dn lf, lfV i dn lf, x0.b, x1.b, if okB i dn lf = true ∧ i = 0 then x0.b.length else x0.s, if okB i dn lf = true ∧ i = 1 then x1.b.length else x1.s⟩
def chgC (i : Int) (dn : Bool) (lf : Int) (x0 x1 : Fl) : Chg := ⟨dnV i dn lf, lfV i dn lf, if okB i dn lf = true ∧ i = 0 then [] else x0.b, if okB i dn lf = true ∧ i = 1 then [] else x1.b, if okB i dn lf = true ∧ i = 0 then 0 else x0.s, if okB i dn lf = true ∧ i = 1 then 0 else x1.s⟩
def chgL (dn : Bool) (k0 k1 : Int) (x0 x1 : Fl) : Chg := ⟨dn, 0, x0.b.take (x0.s + keepN k0 x0), x1.b.take (x1.s + keepN k1 x1), x0.s + keepN k0 x0, x1.s + keepN k1 x1⟩
def chgN (dn : Bool) (lf : Int) (x0 x1 : Fl) : Chg := ⟨dn, lf, x0.b, x1.b, x0.s, x1.s⟩
section
variable {w w' : World} {B g : Nat} {i lf lf2 : Int} {dn dn2 : Bool} {x0 x1 x0' x1' : Fl} {bs : List Nat} {v0 v1 : Value} {k0 k1 : Int}
theorem fr_one (h : Fr (fun k => k = g) w w') : Fr (foot g x0 x1) w w' := h.mono (fun _ _ e => .inl e)
theorem opX_A (h : ApOk w w' B g dn lf i x0 x1 bs) : OpX w w' B g x0 x1 (chgA i dn lf x0 x1 bs) := by
  obtain ⟨f0, f1, h1, h2, h3, h4, h5, h6, h7⟩ := h
  exact ⟨f0, f1, h1, h2, h3, h4, h5, h6, h7⟩
theorem opR_A (h : ApOkR w w' B g dn lf i x0 x1 bs) : OpR w w' B g x0 x1 (chgA i dn lf x0 x1 bs) := by
  obtain ⟨f0, f1, h1, h2, h3, h4, h5, h6, h7⟩ := h
  exact ⟨f0, f1, h1, h2, h3, h4, h5, fr_one h6, h7⟩
theorem foot_of (h0 : ∀ k, x0'.v.ownBlock = some k → x0.v.ownBlock = some k) (h1 : ∀ k, x1'.v.ownBlock = some k → x1.v.ownBlock = some k) : ∀ k, k < w.heap.size → foot g x0' x1' k → foot g x0 x1 k := by
  rintro k _ (h | h | h)
  · exact .inl h
  · exact .inr (.inl (h0 k h))
  · exact .inr (.inr (h1 k h))
theorem foot_old (h0 : ∀ k, x0'.v.ownBlock = some k → w.heap.size ≤ k) (h1 : ∀ k, x1'.v.ownBlock = some k → w.heap.size ≤ k) : ∀ k, k < w.heap.size → foot g x0' x1' k → foot g x0 x1 k := by
  rintro k hk (h | h | h)
  · exact .inl h
  · exact absurd (h0 k h) (by omega)
  · exact absurd (h1 k h) (by omega)
theorem fl0_cases (f f' : Fl) : (fl0 i dn lf f f' = f' ∧ okB i dn lf = true ∧ i = 0) ∨ (fl0 i dn lf f f' = f ∧ ¬ (okB i dn lf = true ∧ i = 0)) := by
  unfold fl0; split
  · rename_i h; exact .inl ⟨rfl, h⟩
  · rename_i h; exact .inr ⟨rfl, h⟩
theorem fl1_cases (f f' : Fl) : (fl1 i dn lf f f' = f' ∧ okB i dn lf = true ∧ i = 1) ∨ (fl1 i dn lf f f' = f ∧ ¬ (okB i dn lf = true ∧ i = 1)) := by
  unfold fl1; split
  · rename_i h; exact .inl ⟨rfl, h⟩
  · rename_i h; exact .inr ⟨rfl, h⟩
theorem opX_S (h : DX w' B g (dnV i dn lf) (lfV i dn lf) (fl0 i dn lf x0 ⟨x0.v, x0.b, x0.b.length⟩) (fl1 i dn lf x1 ⟨x1.v, x1.b, x1.b.length⟩) ∧ Fr (fun k => k = g) w w') : OpX w w' B g x0 x1 (chgS i dn lf x0 x1) := by
  refine ⟨_, _, ?_, ?_, ?_, ?_, h.1, fr_one h.2, foot_of ?_ ?_⟩
  · show (fl0 i dn lf x0 ⟨x0.v, x0.b, x0.b.length⟩).b = (chgS i dn lf x0 x1).b0
    rcases fl0_cases (i := i) (dn := dn) (lf := lf) x0 ⟨x0.v, x0.b, x0.b.length⟩ with ⟨e, h1⟩ | ⟨e, h1⟩ <;> rw [e] <;> first | rfl | exact (if_pos h1).symm | exact (if_neg h1).symm
  · show (fl0 i dn lf x0 ⟨x0.v, x0.b, x0.b.length⟩).s = (chgS i dn lf x0 x1).s0
    rcases fl0_cases (i := i) (dn := dn) (lf := lf) x0 ⟨x0.v, x0.b, x0.b.length⟩ with ⟨e, h1⟩ | ⟨e, h1⟩ <;> rw [e] <;> first | rfl | exact (if_pos h1).symm | exact (if_neg h1).symm
  · show (fl1 i dn lf x1 ⟨x1.v, x1.b, x1.b.length⟩).b = (chgS i dn lf x0 x1).b1
    rcases fl1_cases (i := i) (dn := dn) (lf := lf) x1 ⟨x1.v, x1.b, x1.b.length⟩ with ⟨e, h1⟩ | ⟨e, h1⟩ <;> rw [e] <;> first | rfl | exact (if_pos h1).symm | exact (if_neg h1).symm
  · show (fl1 i dn lf x1 ⟨x1.v, x1.b, x1.b.length⟩).s = (chgS i dn lf x0 x1).s1
    rcases fl1_cases (i := i) (dn := dn) (lf := lf) x1 ⟨x1.v, x1.b, x1.b.length⟩ with ⟨e, h1⟩ | ⟨e, h1⟩ <;> rw [e] <;> first | rfl | exact (if_pos h1).symm | exact (if_neg h1).symm
  · intro k hk
    rcases fl0_cases (i := i) (dn := dn) (lf := lf) x0 ⟨x0.v, x0.b, x0.b.length⟩ with ⟨e, h1⟩ | ⟨e, h1⟩ <;> rw [e] at hk <;> simp_all [Value.ownBlock]
  · intro k hk
    rcases fl1_cases (i := i) (dn := dn) (lf := lf) x1 ⟨x1.v, x1.b, x1.b.length⟩ with ⟨e, h1⟩ | ⟨e, h1⟩ <;> rw [e] at hk <;> simp_all [Value.ownBlock]
theorem opR_S (h : DR w' B g (dnV i dn lf) (lfV i dn lf) (fl0 i dn lf x0 ⟨x0.v, x0.b, x0.b.length⟩) (fl1 i dn lf x1 ⟨x1.v, x1.b, x1.b.length⟩) ∧ Fr (fun k => k = g) w w') : OpR w w' B g x0 x1 (chgS i dn lf x0 x1) := by
  refine ⟨_, _, ?_, ?_, ?_, ?_, h.1, fr_one h.2, foot_of ?_ ?_⟩
  · show (fl0 i dn lf x0 ⟨x0.v, x0.b, x0.b.length⟩).b = (chgS i dn lf x0 x1).b0
    rcases fl0_cases (i := i) (dn := dn) (lf := lf) x0 ⟨x0.v, x0.b, x0.b.length⟩ with ⟨e, h1⟩ | ⟨e, h1⟩ <;> rw [e] <;> first | rfl | exact (if_pos h1).symm | exact (if_neg h1).symm
  · show (fl0 i dn lf x0 ⟨x0.v, x0.b, x0.b.length⟩).s = (chgS i dn lf x0 x1).s0
    rcases fl0_cases (i := i) (dn := dn) (lf := lf) x0 ⟨x0.v, x0.b, x0.b.length⟩ with ⟨e, h1⟩ | ⟨e, h1⟩ <;> rw [e] <;> first | rfl | exact (if_pos h1).symm | exact (if_neg h1).symm
  · show (fl1 i dn lf x1 ⟨x1.v, x1.b, x1.b.length⟩).b = (chgS i dn lf x0 x1).b1
    rcases fl1_cases (i := i) (dn := dn) (lf := lf) x1 ⟨x1.v, x1.b, x1.b.length⟩ with ⟨e, h1⟩ | ⟨e, h1⟩ <;> rw [e] <;> first | rfl | exact (if_pos h1).symm | exact (if_neg h1).symm
  · show (fl1 i dn lf x1 ⟨x1.v, x1.b, x1.b.length⟩).s = (chgS i dn lf x0 x1).s1
    rcases fl1_cases (i := i) (dn := dn) (lf := lf) x1 ⟨x1.v, x1.b, x1.b.length⟩ with ⟨e, h1⟩ | ⟨e, h1⟩ <;> rw [e] <;> first | rfl | exact (if_pos h1).symm | exact (if_neg h1).symm
  · intro k hk
    rcases fl0_cases (i := i) (dn := dn) (lf := lf) x0 ⟨x0.v, x0.b, x0.b.length⟩ with ⟨e, h1⟩ | ⟨e, h1⟩ <;> rw [e] at hk <;> simp_all [Value.ownBlock]
  · intro k hk
    rcases fl1_cases (i := i) (dn := dn) (lf := lf) x1 ⟨x1.v, x1.b, x1.b.length⟩ with ⟨e, h1⟩ | ⟨e, h1⟩ <;> rw [e] at hk <;> simp_all [Value.ownBlock]
theorem opX_C (h : DX w' B g (dnV i dn lf) (lfV i dn lf) (fl0 i dn lf x0 ⟨.slice none 0 0, [], 0⟩) (fl1 i dn lf x1 ⟨.slice none 0 0, [], 0⟩) ∧ Fr (fun k => k = g) w w') : OpX w w' B g x0 x1 (chgC i dn lf x0 x1) := by
  refine ⟨_, _, ?_, ?_, ?_, ?_, h.1, fr_one h.2, foot_of ?_ ?_⟩
  · show (fl0 i dn lf x0 ⟨.slice none 0 0, [], 0⟩).b = (chgC i dn lf x0 x1).b0
    rcases fl0_cases (i := i) (dn := dn) (lf := lf) x0 ⟨.slice none 0 0, [], 0⟩ with ⟨e, h1⟩ | ⟨e, h1⟩ <;> rw [e] <;> first | rfl | exact (if_pos h1).symm | exact (if_neg h1).symm
  · show (fl0 i dn lf x0 ⟨.slice none 0 0, [], 0⟩).s = (chgC i dn lf x0 x1).s0
    rcases fl0_cases (i := i) (dn := dn) (lf := lf) x0 ⟨.slice none 0 0, [], 0⟩ with ⟨e, h1⟩ | ⟨e, h1⟩ <;> rw [e] <;> first | rfl | exact (if_pos h1).symm | exact (if_neg h1).symm
  · show (fl1 i dn lf x1 ⟨.slice none 0 0, [], 0⟩).b = (chgC i dn lf x0 x1).b1
    rcases fl1_cases (i := i) (dn := dn) (lf := lf) x1 ⟨.slice none 0 0, [], 0⟩ with ⟨e, h1⟩ | ⟨e, h1⟩ <;> rw [e] <;> first | rfl | exact (if_pos h1).symm | exact (if_neg h1).symm
  · show (fl1 i dn lf x1 ⟨.slice none 0 0, [], 0⟩).s = (chgC i dn lf x0 x1).s1
    rcases fl1_cases (i := i) (dn := dn) (lf := lf) x1 ⟨.slice none 0 0, [], 0⟩ with ⟨e, h1⟩ | ⟨e, h1⟩ <;> rw [e] <;> first | rfl | exact (if_pos h1).symm | exact (if_neg h1).symm
  · intro k hk
    rcases fl0_cases (i := i) (dn := dn) (lf := lf) x0 ⟨.slice none 0 0, [], 0⟩ with ⟨e, h1⟩ | ⟨e, h1⟩ <;> rw [e] at hk <;> simp_all [Value.ownBlock]
  · intro k hk
    rcases fl1_cases (i := i) (dn := dn) (lf := lf) x1 ⟨.slice none 0 0, [], 0⟩ with ⟨e, h1⟩ | ⟨e, h1⟩ <;> rw [e] at hk <;> simp_all [Value.ownBlock]
theorem opR_C (h : DR w' B g (dnV i dn lf) (lfV i dn lf) (fl0 i dn lf x0 ⟨.slice none 0 0, [], 0⟩) (fl1 i dn lf x1 ⟨.slice none 0 0, [], 0⟩) ∧ Fr (fun k => k = g) w w') : OpR w w' B g x0 x1 (chgC i dn lf x0 x1) := by
  refine ⟨_, _, ?_, ?_, ?_, ?_, h.1, fr_one h.2, foot_of ?_ ?_⟩
  · show (fl0 i dn lf x0 ⟨.slice none 0 0, [], 0⟩).b = (chgC i dn lf x0 x1).b0
    rcases fl0_cases (i := i) (dn := dn) (lf := lf) x0 ⟨.slice none 0 0, [], 0⟩ with ⟨e, h1⟩ | ⟨e, h1⟩ <;> rw [e] <;> first | rfl | exact (if_pos h1).symm | exact (if_neg h1).symm
  · show (fl0 i dn lf x0 ⟨.slice none 0 0, [], 0⟩).s = (chgC i dn lf x0 x1).s0
    rcases fl0_cases (i := i) (dn := dn) (lf := lf) x0 ⟨.slice none 0 0, [], 0⟩ with ⟨e, h1⟩ | ⟨e, h1⟩ <;> rw [e] <;> first | rfl | exact (if_pos h1).symm | exact (if_neg h1).symm
  · show (fl1 i dn lf x1 ⟨.slice none 0 0, [], 0⟩).b = (chgC i dn lf x0 x1).b1
    rcases fl1_cases (i := i) (dn := dn) (lf := lf) x1 ⟨.slice none 0 0, [], 0⟩ with ⟨e, h1⟩ | ⟨e, h1⟩ <;> rw [e] <;> first | rfl | exact (if_pos h1).symm | exact (if_neg h1).symm
  · show (fl1 i dn lf x1 ⟨.slice none 0 0, [], 0⟩).s = (chgC i dn lf x0 x1).s1
    rcases fl1_cases (i := i) (dn := dn) (lf := lf) x1 ⟨.slice none 0 0, [], 0⟩ with ⟨e, h1⟩ | ⟨e, h1⟩ <;> rw [e] <;> first | rfl | exact (if_pos h1).symm | exact (if_neg h1).symm
  · intro k hk
    rcases fl0_cases (i := i) (dn := dn) (lf := lf) x0 ⟨.slice none 0 0, [], 0⟩ with ⟨e, h1⟩ | ⟨e, h1⟩ <;> rw [e] at hk <;> simp_all [Value.ownBlock]
  · intro k hk
    rcases fl1_cases (i := i) (dn := dn) (lf := lf) x1 ⟨.slice none 0 0, [], 0⟩ with ⟨e, h1⟩ | ⟨e, h1⟩ <;> rw [e] at hk <;> simp_all [Value.ownBlock]
theorem opX_L (h : DX w' B g dn2 0 (lostF k0 x0 v0) (lostF k1 x1 v1) ∧ Fr (fun k => k = g) w w' ∧ (∀ k, v0.ownBlock = some k → w.heap.size ≤ k) ∧ ∀ k, v1.ownBlock = some k → w.heap.size ≤ k) : OpX w w' B g x0 x1 (chgL dn2 k0 k1 x0 x1) :=
  ⟨_, _, rfl, rfl, rfl, rfl, h.1, fr_one h.2.1, foot_old h.2.2.1 h.2.2.2⟩
theorem opR_L (h : DR w' B g dn2 0 (lostF k0 x0 v0) (lostF k1 x1 v1) ∧ Fr (fun k => k = g) w w' ∧ v0.ownBlock = x0.v.ownBlock ∧ v1.ownBlock = x1.v.ownBlock) : OpR w w' B g x0 x1 (chgL dn2 k0 k1 x0 x1) :=
  ⟨_, _, rfl, rfl, rfl, rfl, h.1, fr_one h.2.1, foot_of (fun _ hk => h.2.2.1 ▸ hk) (fun _ hk => h.2.2.2 ▸ hk)⟩
theorem opX_N (h : DX w' B g dn2 lf2 x0 x1) (hf : Fr (fun k => k = g) w w') : OpX w w' B g x0 x1 (chgN dn2 lf2 x0 x1) :=
  ⟨_, _, rfl, rfl, rfl, rfl, h, fr_one hf, fun _ _ h => h⟩
theorem opR_N (h : DR w' B g dn2 lf2 x0 x1) (hf : Fr (fun k => k = g) w w') : OpR w w' B g x0 x1 (chgN dn2 lf2 x0 x1) :=
  ⟨_, _, rfl, rfl, rfl, rfl, h, fr_one hf, fun _ _ h => h⟩
end
section
variable {i lf am : Int} {dn : Bool}
theorem ref_down (i : Int) : refV i true ≠ 0 := by
  unfold refV
  split <;> simp
theorem ev_same (h : dn = false → lf = am) : errV i dn lf = errV i dn am := by
  cases dn
  · rw [h rfl]
  · simp [errV, ref_down]
theorem dv_same (h : dn = false → lf = am) : dnV i dn lf = dnV i dn am := by
  cases dn
  · rw [h rfl]
  · simp [dnV, ref_down]
theorem ok_same (h : dn = false → lf = am) : okB i dn lf = okB i dn am := by
  cases dn
  · rw [h rfl]
  · simp [okB, ref_down]
theorem lv_same (h : dn = false → lf = am) : dnV i dn lf = false → lfV i dn lf = lfV i dn am := by
  cases dn
  · rw [h rfl]; exact fun _ => rfl
  · intro hd; simp [dnV, ref_down] at hd
theorem lv_range (h0 : 0 ≤ lf) (h1 : lf ≤ 9223372036854775807) : 0 ≤ lfV i dn lf ∧ lfV i dn lf ≤ 9223372036854775807 := by
  unfold lfV spL
  split
  · exact ⟨h0, h1⟩
  · split <;> omega
end
theorem keepN_le (k : Int) (f : Fl) (h : f.s ≤ f.b.length) : f.s + keepN k f ≤ f.b.length := by unfold keepN; omega
theorem keepN_same (k : Int) {f g : Fl} (hb : g.b = f.b) (hs : g.s = f.s) : keepN k g = keepN k f := by unfold keepN; rw [hb, hs]
section
variable {w w1 w2 : World} {B ga gb : Nat} {dn : Bool} {lf am : Int} {x0 x1 y0 y1 : Fl} {n : Nat}
theorem Pair.stepA (h : Pair w B ga gb dn lf am x0 x1 y0 y1) (i : Int) (bs : List Nat) (hx : OpX w w1 B ga x0 x1 (chgA i dn lf x0 x1 bs)) (hy : OpR w1 w2 B gb y0 y1 (chgA i dn am y0 y1 bs)) (h0 : x0.b.length ≤ n) (h1 : x1.b.length ≤ n) (hb : bs.length ≤ 64) :
    PairN w2 B (n + 64) ga gb ∧ Below B w w2 := by
  have ho := ok_same (i := i) h.la
  refine h.step hx hy ?_ ?_ h.s0 h.s1 (dv_same h.la).symm (lv_same h.la) (lv_range h.l0 h.l1).1 (lv_range h.l0 h.l1).2 (lv_range h.a0 h.a1).1 (lv_range h.a0 h.a1).2 ?_ ?_ ?_ ?_
  · show (if okB i dn am = true ∧ i = 0 then y0.b ++ bs else y0.b) = _
    rw [← ho, h.b0]; rfl
  · show (if okB i dn am = true ∧ i = 1 then y1.b ++ bs else y1.b) = _
    rw [← ho, h.b1]; rfl
  · show x0.s ≤ (if okB i dn lf = true ∧ i = 0 then x0.b ++ bs else x0.b).length
    have := h.f0
    split <;> first | omega | (simp; omega) | simp
  · show x1.s ≤ (if okB i dn lf = true ∧ i = 1 then x1.b ++ bs else x1.b).length
    have := h.f1
    split <;> first | omega | (simp; omega) | simp
  · show (if okB i dn lf = true ∧ i = 0 then x0.b ++ bs else x0.b).length ≤ n + 64
    split <;> first | omega | (simp; omega) | simp
  · show (if okB i dn lf = true ∧ i = 1 then x1.b ++ bs else x1.b).length ≤ n + 64
    split <;> first | omega | (simp; omega) | simp
theorem Pair.stepS (h : Pair w B ga gb dn lf am x0 x1 y0 y1) (i : Int) (hx : OpX w w1 B ga x0 x1 (chgS i dn lf x0 x1)) (hy : OpR w1 w2 B gb y0 y1 (chgS i dn am y0 y1)) (h0 : x0.b.length ≤ n) (h1 : x1.b.length ≤ n) :
    PairN w2 B (n + 64) ga gb ∧ Below B w w2 := by
  have ho := ok_same (i := i) h.la
  have f0 := h.f0
  have f1 := h.f1
  refine h.step hx hy h.b0 h.b1 ?_ ?_ (dv_same h.la).symm (lv_same h.la) (lv_range h.l0 h.l1).1 (lv_range h.l0 h.l1).2 (lv_range h.a0 h.a1).1 (lv_range h.a0 h.a1).2 ?_ ?_ (Nat.le_trans h0 (Nat.le_add_right _ _)) (Nat.le_trans h1 (Nat.le_add_right _ _))
  · show (if okB i dn am = true ∧ i = 0 then y0.b.length else y0.s) = _
    rw [← ho, h.b0, h.s0]; rfl
  · show (if okB i dn am = true ∧ i = 1 then y1.b.length else y1.s) = _
    rw [← ho, h.b1, h.s1]; rfl
  · show (if okB i dn lf = true ∧ i = 0 then x0.b.length else x0.s) ≤ x0.b.length
    split <;> omega
  · show (if okB i dn lf = true ∧ i = 1 then x1.b.length else x1.s) ≤ x1.b.length
    split <;> omega
theorem Pair.stepC (h : Pair w B ga gb dn lf am x0 x1 y0 y1) (i : Int) (hx : OpX w w1 B ga x0 x1 (chgC i dn lf x0 x1)) (hy : OpR w1 w2 B gb y0 y1 (chgC i dn am y0 y1)) (h0 : x0.b.length ≤ n) (h1 : x1.b.length ≤ n) :
    PairN w2 B (n + 64) ga gb ∧ Below B w w2 := by
  have ho := ok_same (i := i) h.la
  have f0 := h.f0
  have f1 := h.f1
  refine h.step hx hy ?_ ?_ ?_ ?_ (dv_same h.la).symm (lv_same h.la) (lv_range h.l0 h.l1).1 (lv_range h.l0 h.l1).2 (lv_range h.a0 h.a1).1 (lv_range h.a0 h.a1).2 ?_ ?_ ?_ ?_
  · show (if okB i dn am = true ∧ i = 0 then [] else y0.b) = _
    rw [← ho, h.b0]; rfl
  · show (if okB i dn am = true ∧ i = 1 then [] else y1.b) = _
    rw [← ho, h.b1]; rfl
  · show (if okB i dn am = true ∧ i = 0 then 0 else y0.s) = _
    rw [← ho, h.s0]; rfl
  · show (if okB i dn am = true ∧ i = 1 then 0 else y1.s) = _
    rw [← ho, h.s1]; rfl
  · show (if okB i dn lf = true ∧ i = 0 then 0 else x0.s) ≤ (if okB i dn lf = true ∧ i = 0 then [] else x0.b).length
    split <;> first | omega | (simp; omega) | simp
  · show (if okB i dn lf = true ∧ i = 1 then 0 else x1.s) ≤ (if okB i dn lf = true ∧ i = 1 then [] else x1.b).length
    split <;> first | omega | (simp; omega) | simp
  · show (if okB i dn lf = true ∧ i = 0 then [] else x0.b).length ≤ n + 64
    split <;> first | omega | (simp; omega) | simp
  · show (if okB i dn lf = true ∧ i = 1 then [] else x1.b).length ≤ n + 64
    split <;> first | omega | (simp; omega) | simp
theorem Pair.stepL (h : Pair w B ga gb dn lf am x0 x1 y0 y1) (dn2 : Bool) (k0 k1 : Int) (hx : OpX w w1 B ga x0 x1 (chgL dn2 k0 k1 x0 x1)) (hy : OpR w1 w2 B gb y0 y1 (chgL dn2 k0 k1 y0 y1)) (h0 : x0.b.length ≤ n) (h1 : x1.b.length ≤ n) :
    PairN w2 B (n + 64) ga gb ∧ Below B w w2 := by
  have g0 := keepN_le k0 x0 h.f0
  have g1 := keepN_le k1 x1 h.f1
  refine h.step hx hy ?_ ?_ ?_ ?_ rfl (fun _ => rfl) (by show (0 : Int) ≤ 0; omega) (by show (0 : Int) ≤ _; omega) (by show (0 : Int) ≤ 0; omega) (by show (0 : Int) ≤ _; omega) ?_ ?_ ?_ ?_
  · show y0.b.take (y0.s + keepN k0 y0) = _
    rw [keepN_same k0 h.b0 h.s0, h.b0, h.s0]; rfl
  · show y1.b.take (y1.s + keepN k1 y1) = _
    rw [keepN_same k1 h.b1 h.s1, h.b1, h.s1]; rfl
  · show y0.s + keepN k0 y0 = _
    rw [keepN_same k0 h.b0 h.s0, h.s0]; rfl
  · show y1.s + keepN k1 y1 = _
    rw [keepN_same k1 h.b1 h.s1, h.s1]; rfl
  · show x0.s + keepN k0 x0 ≤ (x0.b.take (x0.s + keepN k0 x0)).length
    rw [List.length_take]; omega
  · show x1.s + keepN k1 x1 ≤ (x1.b.take (x1.s + keepN k1 x1)).length
    rw [List.length_take]; omega
  · show (x0.b.take (x0.s + keepN k0 x0)).length ≤ n + 64
    rw [List.length_take]; omega
  · show (x1.b.take (x1.s + keepN k1 x1)).length ≤ n + 64
    rw [List.length_take]; omega
end
end Go.Proofs.Yteanlcefdoigcaa
