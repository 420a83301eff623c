/- The reference's levels (99): the level of the tile of each point. -/
import Derived.Test.YteanlcefdoigcaaRSort
namespace Go.Proofs.Yteanlcefdoigcaa
open Go.RowKit Go.Sort

/-- the level of a point's tile, as far as levels below l tell -/
def lvOf (S : List Pt) (c : Nat) : Nat → Pt → Int
  | 0, _ => -1
  | l + 1, p => if (here S c l p && takes S c l p) = true then (l : Int) else lvOf S c l p
theorem lvOf_neg (S : List Pt) (c : Nat) (p : Pt) : ∀ l, lvOf S c l p < 0 ↔ here S c l p = true
  | 0 => by simp [lvOf, here]
  | l + 1 => by
    have ih := lvOf_neg S c p l
    unfold lvOf
    rw [here_succ]
    cases h1 : here S c l p <;> cases h2 : takes S c l p
    · simp only [h1] at ih; simpa using ih
    · simp only [h1] at ih; simpa using ih
    · simp only [h1] at ih; simpa using ih
    · simp
theorem lvOf_at (S : List Pt) (c : Nat) (p : Pt) : ∀ l, l ≤ 13 → here S c l p = false → ∃ m : Nat, lvOf S c l p = (m : Int) ∧ m ≤ 12 ∧ isAt S c p (cellK m p)
  | 0, _, h => by simp [here] at h
  | l + 1, hl, h => by
    unfold lvOf
    cases h1 : here S c l p
    · obtain ⟨m, h2, h3⟩ := lvOf_at S c p l (by omega) h1
      exact ⟨m, by simpa using h2, h3⟩
    · rw [here_succ, h1] at h
      have h2 : takes S c l p = true := by simpa using h
      exact ⟨l, by simp [h2], by omega, l, by omega, h1, h2, rfl⟩
theorem lvOf_13 (S : List Pt) (c : Nat) (p : Pt) : ∃ m : Nat, lvOf S c 13 p = (m : Int) ∧ m ≤ 12 ∧ isAt S c p (cellK m p) := lvOf_at S c p 13 (Nat.le_refl _) (here_13 S c p)
/-- one integer an element -/
def iRow (z : Int) : List Value := [.int .i64 z]
def OwnI (W : World) (base : Nat) (v : Value) (zs : List Int) : Prop := OwnR W base 3 1 v (zs.map iRow)
theorem iRow_one (z : Int) : ∀ u ∈ iRow z, u.oneCell' = true := fun u hu => by
  simp [iRow] at hu
  subst hu
  rfl
theorem OwnI.cells {W : World} {base g n cap : Nat} {zs : List Int} (h : OwnI W base (.slice (some ⟨g, 0, none⟩) n cap) zs) : base ≤ g ∧ g < W.heap.size ∧ n = zs.length ∧ ∀ (i : Nat) (z : Int), zs[i]? = some z → W.cell? ⟨g, i, none⟩ = some (.int .i64 z) := by
  obtain ⟨hn, cur, hB, hc, hle, hm, hcs, htk⟩ := own_parts h
  rw [List.length_map] at hn hle htk
  refine ⟨hB, (Array.getElem?_eq_some_iff.1 hc).1, hn, fun i z hi => ?_⟩
  have hil : i < zs.length := (List.getElem?_eq_some_iff.1 hi).1
  have h1 := h.1.at (i := i) (r := iRow z) (by rw [List.getElem?_map, hi]; rfl) 0 (by decide)
  rw [cell_row hc, ← Array.getElem?_toList]
  rw [← htk, List.getElem?_take_of_lt (by omega)] at h1
  simpa [iRow] using h1
theorem OwnI.set {W : World} {base g n cap i : Nat} {zs : List Int} {cur : Array Value} {z : Int} (h : OwnI W base (.slice (some ⟨g, 0, none⟩) n cap) zs) (hc : W.heap[g]? = some (.cells cur 3)) (hi : i < zs.length) :
    OwnI (W.setRow g (ptL cur i [.int .i64 z])) base (.slice (some ⟨g, 0, none⟩) n cap) (zs.set i z) := by
  have h1 := own_set h hc (i := i) (r := iRow z) (by simpa using hi) rfl (iRow_one z)
  rw [Nat.mul_one] at h1
  unfold OwnI
  rw [List.map_set]
  exact h1
theorem turned_row (W : World) (g : Nat) (X : Array Value) : Turned W (W.setRow g X) (fun k => k = g) := by
  have h := below_setRow (B := g) (Below.refl g W) (Nat.le_refl _) X
  refine ⟨h.os, h.tape, h.output, h.size, fun k _ hk => ?_⟩
  unfold World.setRow
  rw [Array.getElem?_modify]
  simp [Ne.symm hk]
theorem ints_wide (zs : List Int) : Wide 1 (zs.map iRow) := wide_map (enc := iRow) (k := 1) (fun _ => rfl) iRow_one zs
theorem info3 : (Try.prog.info? 3).map (fun i => (i.zero, i.size, i.bytes)) = some (some (.int .i64 0), 1, 8) := by kernel_rfl
theorem size3 : (Try.prog.info? 3).map (·.size) = some 1 := by kernel_rfl
/-- who belongs to a level -/
def sel (S : List Pt) (c l : Nat) (p : Pt) : Bool := here S c l p && takes S c l p
/-- the indices of those of the first i who belong to the level -/
def nowL (S : List Pt) (c l i : Nat) : List Nat := (List.range i).filter (fun j => sel S c l (S[j]!))
theorem nowL_yes {S : List Pt} {c l i : Nat} {p : Pt} (hp : S[i]? = some p) (h : sel S c l p = true) : nowL S c l (i + 1) = nowL S c l i ++ [i] := by
  simp [nowL, List.range_succ, List.filter_append, hp, h]
theorem nowL_no {S : List Pt} {c l i : Nat} {p : Pt} (hp : S[i]? = some p) (h : sel S c l p = false) : nowL S c l (i + 1) = nowL S c l i := by
  simp [nowL, List.range_succ, List.filter_append, hp, h]
theorem nowL_len (S : List Pt) (c l i : Nat) : (nowL S c l i).length ≤ i := by
  refine Nat.le_trans (List.length_filter_le _ _) ?_
  simp
theorem nowL_mem {S : List Pt} {c l n j : Nat} {p : Pt} (hn : n = S.length) (hp : S[j]? = some p) : j ∈ nowL S c l n ↔ sel S c l p = true := by
  have hj : j < S.length := (List.getElem?_eq_some_iff.1 hp).1
  simp [nowL, List.mem_filter, hp]
  omega
/-- the levels, of which t of the level l have been written -/
def LvAt (S : List Pt) (c l t : Nat) (zs : List Int) : Prop := zs.length = S.length ∧ ∀ j p, S[j]? = some p → zs[j]? = some (if j ∈ (nowL S c l S.length).take t then (l : Int) else lvOf S c l p)
theorem LvAt.start {S : List Pt} {c l : Nat} {zs : List Int} (h : zs = S.map (lvOf S c l)) : LvAt S c l 0 zs := by
  subst h
  exact ⟨by simp, fun j p hp => by simp [List.getElem?_map, hp]⟩
theorem LvAt.step {S : List Pt} {c l t j : Nat} {zs : List Int} (h : LvAt S c l t zs) (hj : (nowL S c l S.length)[t]? = some j) : LvAt S c l (t + 1) (zs.set j l) := by
  refine ⟨by rw [List.length_set]; exact h.1, fun i p hp => ?_⟩
  have e : (nowL S c l S.length).take (t + 1) = (nowL S c l S.length).take t ++ [j] := by rw [List.take_add_one, hj]; rfl
  have hil : i < zs.length := by rw [h.1]; exact (List.getElem?_eq_some_iff.1 hp).1
  rw [e]
  by_cases hij : i = j
  · subst hij
    rw [List.getElem?_set_self hil]
    simp
  · rw [List.getElem?_set_ne (Ne.symm hij), h.2 i p hp]
    simp [hij]
theorem LvAt.done {S : List Pt} {c l t : Nat} {zs : List Int} (h : LvAt S c l t zs) (ht : (nowL S c l S.length).length ≤ t) : zs = S.map (lvOf S c (l + 1)) := by
  refine List.ext_getElem? fun j => ?_
  by_cases hj : j < S.length
  · rw [List.getElem?_map, List.getElem?_eq_getElem hj, h.2 j _ (List.getElem?_eq_getElem hj), List.take_of_length_le ht]
    have := nowL_mem (c := c) (l := l) (n := S.length) rfl (List.getElem?_eq_getElem hj)
    simp only [Option.map_some, lvOf]
    by_cases hs : sel S c l S[j] = true
    · rw [if_pos (this.2 hs), if_pos (show (here S c l S[j] && takes S c l S[j]) = true from hs)]
    · rw [if_neg (fun e => hs (this.1 e)), if_neg (show ¬ (here S c l S[j] && takes S c l S[j]) = true from hs)]
  · rw [List.getElem?_eq_none (by rw [h.1]; omega), List.getElem?_eq_none (by rw [List.length_map]; omega)]
end Go.Proofs.Yteanlcefdoigcaa
