/- Arguments that are slices of points, of integers, of tiles: the lists that they hold. -/
import Derived.Test.YteanlcefdoigcaaSameT
import Derived.Test.YteanlcefdoigcaaLawKit
import Derived.Test.YteanlcefdoigcaaRec
namespace Go.Proofs.Yteanlcefdoigcaa
open Go.ChangeShapes Go.WideShapes Go.ChangeAt Go.RowKit Go.Deep

/-- a slice of numbers, as it lies in memory -/
def IntsV (W : World) (v : Value) (l : List Int) : Prop := ∃ a cap, v = .slice a l.length cap ∧ (l = [] ∨ ∃ b off, a = some ⟨b, off, none⟩ ∧ b < W.heap.size ∧ ∀ (i : Nat) (z : Int), l[i]? = some z → W.cell? ⟨b, off + i, none⟩ = some (.int .i64 z))
theorem IntsV.still {W W' : World} {v : Value} {l : List Int} (h : IntsV W v l) (hb : Below W.heap.size W W') : IntsV W' v l := by
  obtain ⟨a, cap, h1, h2⟩ := h
  refine ⟨a, cap, h1, ?_⟩
  rcases h2 with h2 | ⟨b, off, h3, h4, h5⟩
  · exact Or.inl h2
  · exact Or.inr ⟨b, off, h3, Nat.lt_of_lt_of_le h4 hb.size, fun i z hi => by rw [hb.cell h4]; exact h5 i z hi⟩
/-- a nil slice has no capacity -/
def NilV (v : Value) : Prop := ∀ c, v = .slice none 0 c → c = 0
theorem nilV_some (a : Addr) (n c : Nat) : NilV (.slice (some a) n c) := fun c h => by
  injection h with h
  cases h
theorem nilV_zero : NilV (.slice none 0 0) := fun c h => by
  injection h with _ _ h
  exact h.symm
theorem list_of {α : Type} {R : Nat → α → Prop} : ∀ n, (∀ i, i < n → ∃ x, R i x) → ∃ l : List α, l.length = n ∧ ∀ i x, l[i]? = some x → R i x
  | 0, _ => ⟨[], rfl, fun i x h => by simp at h⟩
  | n + 1, h => by
    obtain ⟨l, h1, h2⟩ := list_of n (fun i hi => h i (by omega))
    obtain ⟨x, hx⟩ := h n (by omega)
    refine ⟨l ++ [x], by simp [h1], fun i y hy => ?_⟩
    by_cases hi : i < n
    · exact h2 i y (by rw [List.getElem?_append_left (by omega)] at hy; exact hy)
    · have hil : i < (l ++ [x]).length := (List.getElem?_eq_some_iff.1 hy).1
      simp [h1] at hil
      obtain rfl : i = n := by omega
      rw [List.getElem?_append_right (by omega)] at hy
      simp [h1] at hy
      subst hy
      exact hx
theorem rows_pts {w : World} {b off n : Nat} (h : rows w b off 9 n (List.replicate 9 (some .i64))) : ∃ S : List Pt, S.length = n ∧ RowsAt w b off 9 (S.map Pt.row) := by
  obtain ⟨S, h1, h2⟩ := list_of (R := fun i (p : Pt) => ∀ j, j < 9 → w.cell? ⟨b, off + i * 9 + j, none⟩ = p.row[j]?) n (fun i hi => by
    obtain ⟨cs, hf, hc⟩ := h i hi
    obtain ⟨zs, hl, rfl⟩ := lawCells hf
    match zs, hl with
    | [z0, z1, z2, z3, z4, z5, z6, z7, z8], _ => exact ⟨⟨z0, z1, z2, z3, z4, z5, z6, z7, z8⟩, fun j hj => by
        match j, hj with
        | 0, _ | 1, _ | 2, _ | 3, _ | 4, _ | 5, _ | 6, _ | 7, _ | 8, _ => exact hc _ _ rfl⟩)
  refine ⟨S, h1, fun i r hi j hj => ?_⟩
  rw [List.getElem?_map] at hi
  obtain ⟨p, hp, rfl⟩ := Option.map_eq_some_iff.1 hi
  exact h2 i p hp j hj
theorem rows_ints {w : World} {b off n : Nat} (h : rows w b off 1 n (List.replicate 1 (some .i64))) : ∃ l : List Int, l.length = n ∧ ∀ (i : Nat) (z : Int), l[i]? = some z → w.cell? ⟨b, off + i, none⟩ = some (.int .i64 z) ∧ (Lit.int .i64 z).wf = true := by
  obtain ⟨S, h1, h2⟩ := list_of (R := fun i (z : Int) => w.cell? ⟨b, off + i, none⟩ = some (.int .i64 z) ∧ (Lit.int .i64 z).wf = true) n (fun i hi => by
    obtain ⟨cs, hf, hc⟩ := h i hi
    obtain ⟨z, vs, rfl, hw, h3⟩ := fits_int (show fitsW (some .i64 :: []) cs from hf)
    have := hc 0 _ rfl
    rw [Nat.mul_one] at this
    exact ⟨z, this, hw⟩)
  exact ⟨S, h1, h2⟩
theorem lawSize3 : (Try.prog.info? 3).map (·.size) = some 1 := by kernel_rfl
theorem lawSize49 : (Try.prog.info? 49).map (·.size) = some 5 := by kernel_rfl
section
variable {H : Type} {enc : TypeId × Value → H} {P : Program} {w : World} {base : Nat} {spare : Nat → Bool} {held : Bool}

set_option maxRecDepth 100000 in
theorem open_pts {r : Reach} {b0 : Nat} {v : Value} {d : DataW H} {p : List MemPlace} (hv : Value.okWide Try.prog w r b0 22 v) (h : DataW.Trod enc Try.prog w base spare held 22 v d p) :
    ∃ S : List Pt, PtsV w v S ∧ NilV v ∧ S.length ≤ maxLen := by
  rcases open_rows Try.underlying22 lawFlat36 lawSize36 (by decide) hv h with rfl | ⟨a, c, rfl⟩ | ⟨b, off, n, c, rfl, hn, hc, hm, hr⟩
  · exact ⟨[], ⟨none, 0, rfl, Or.inl rfl⟩, nilV_zero, by simp⟩
  · exact ⟨[], ⟨some a, c, rfl, Or.inl rfl⟩, nilV_some _ _ _, by simp⟩
  · obtain ⟨cs, hf0, hc0⟩ := hr 0 hn
    obtain ⟨S, h1, h2⟩ := rows_pts hr
    subst h1
    obtain ⟨zs, hl, rfl⟩ := lawCells (n := 9) hf0
    have hb : b < w.heap.size := by
      match zs, hl with
      | z0 :: _, _ => exact cell_lt (hc0 0 _ rfl)
    exact ⟨S, ⟨_, c, rfl, Or.inr ⟨b, off, rfl, hb, h2⟩⟩, nilV_some _ _ _, by omega⟩
set_option maxRecDepth 100000 in
theorem open_ints {r : Reach} {b0 : Nat} {v : Value} {d : DataW H} {p : List MemPlace} (hv : Value.okWide Try.prog w r b0 30 v) (h : DataW.Trod enc Try.prog w base spare held 30 v d p) :
    ∃ l : List Int, IntsV w v l ∧ NilV v ∧ l.length ≤ maxLen ∧ ∀ z ∈ l, (Lit.int .i64 z).wf = true := by
  rcases open_rows Try.underlying30 lawFlat3 lawSize3 (by decide) hv h with rfl | ⟨a, c, rfl⟩ | ⟨b, off, n, c, rfl, hn, hc, hm, hr⟩
  · exact ⟨[], ⟨none, 0, rfl, Or.inl rfl⟩, nilV_zero, by simp, fun z h => by simp at h⟩
  · exact ⟨[], ⟨some a, c, rfl, Or.inl rfl⟩, nilV_some _ _ _, by simp, fun z h => by simp at h⟩
  · obtain ⟨S, h1, h2⟩ := rows_ints hr
    subst h1
    have hb : b < w.heap.size := cell_lt (h2 0 _ (List.getElem?_eq_getElem hn)).1
    exact ⟨S, ⟨_, c, rfl, Or.inr ⟨b, off, rfl, hb, fun i z hi => (h2 i z hi).1⟩⟩, nilV_some _ _ _, by omega, fun z hz => by
      obtain ⟨i, hi, rfl⟩ := List.mem_iff_getElem.1 hz
      exact (h2 i _ (List.getElem?_eq_getElem hi)).2⟩
/-- A slice of flat structs, arrays or integers, in a cell. -/
theorem open_cell_rows {f fuel : Nat} {t e : TypeId} {ks : List (Option IntKind)} {v : Value} {x : DataW H × List MemPlace} (ht : P.underlying t = some (.slice e)) (hf : flatOf P f e = some ks) (hs : (P.info? e).map (·.size) = some ks.length) (hz : 0 < ks.length)
    (hx : DataW.trod enc P w base spare held fuel t [v] = some x) :
    ∃ a len cap, v = .slice a len cap ∧ len ≤ maxLen ∧ (a = none → len = 0 ∧ cap = 0) ∧ (0 < len → ∃ (b off : Nat), a = some ⟨b, off, none⟩ ∧ b < w.heap.size ∧ rows w b off ks.length len ks) := by
  rcases open_slice ht hx with ⟨h0, _⟩ | ⟨a, len, cap, m, n, D, Pl, h1, hb, hl, hm, hmm, _, hall⟩
  · exact ⟨none, 0, 0, by simpa using h0, by omega, fun _ => ⟨rfl, rfl⟩, fun h => by omega⟩
  · refine ⟨some a, len, cap, by simpa using h1, by omega, (fun h => by cases h), fun hpos => ?_⟩
    have hle : len ≤ m := by rw [hmm]; split <;> omega
    rw [cellsOf_of hs] at hall
    have key : ∀ i, i < len → ∃ cs : List Value, fitsW ks cs ∧ cs.length = ks.length ∧ ∀ j, j < ks.length → w.cell? ((a.add (i * ks.length)).add j) = cs[j]? := by
      intro i hi
      obtain ⟨cs, hc, ht⟩ := hall i (by omega)
      obtain ⟨_, hlen, hcell⟩ := World.cells?_some hc
      exact ⟨cs, trod_flat f e ks n cs _ hf hlen ht, hlen, hcell⟩
    obtain ⟨b, off, spot⟩ := a
    have hspot : spot = none := by
      obtain ⟨cs, _, hlen, hcell⟩ := key 0 (by omega)
      have h0 := hcell 0 (by omega)
      rw [List.getElem?_eq_getElem (by omega)] at h0
      simpa [Addr.add] using World.cell?_spot h0
    subst hspot
    have hr : rows w b off ks.length len ks := by
      intro i hi
      obtain ⟨cs, hfit, hlen, hcell⟩ := key i hi
      refine ⟨cs, hfit, fun j v hj => ?_⟩
      have hj' : j < ks.length := by rw [← hlen]; exact (List.getElem?_eq_some_iff.1 hj).1
      rw [← hj, ← hcell j hj', ← Go.WideShapes.add_plain, ← Go.WideShapes.add_plain]
    refine ⟨b, off, rfl, ?_, hr⟩
    obtain ⟨cs, _, hlen, hcell⟩ := key 0 hpos
    have h0 := hcell 0 hz
    rw [List.getElem?_eq_getElem (by omega), Go.WideShapes.add_plain, Go.WideShapes.add_plain] at h0
    exact cell_lt h0
set_option maxRecDepth 100000 in
theorem pts_cell {fuel : Nat} {v : Value} {x : DataW H × List MemPlace} (hx : DataW.trod enc Try.prog w base spare held fuel 22 [v] = some x) : ∃ S : List Pt, PtsV w v S ∧ NilV v ∧ S.length ≤ maxLen := by
  obtain ⟨a, len, cap, rfl, hl, hn, hr⟩ := open_cell_rows Try.underlying22 lawFlat36 lawSize36 (by decide) hx
  have hnv : NilV (.slice a len cap) := fun c h => by
    injection h with h1 h2 h3
    subst h3
    exact (hn h1).2
  by_cases h0 : len = 0
  · subst h0
    exact ⟨[], ⟨a, cap, rfl, Or.inl rfl⟩, hnv, by simp⟩
  · obtain ⟨b, off, rfl, hb, hrows⟩ := hr (by omega)
    obtain ⟨S, h1, h2⟩ := rows_pts hrows
    subst h1
    exact ⟨S, ⟨_, cap, rfl, Or.inr ⟨b, off, rfl, hb, h2⟩⟩, hnv, hl⟩
theorem cells22 : Try.prog.cellsOf 22 = 1 := by kernel_rfl
theorem cells49 : Try.prog.cellsOf 49 = 5 := by kernel_rfl
theorem lawCells39 : Try.prog.cellsOf 39 = 4 := by kernel_rfl
set_option maxRecDepth 100000 in
/-- the cells of a tile -/
theorem tile_cells {fuel : Nat} {cs : List Value} {x : DataW H × List MemPlace} (hl : cs.length = 5) (hx : DataW.trod enc Try.prog w base spare held fuel 49 cs = some x) :
    ∃ e : Te, cs = e.row ∧ PtsV w e.v e.pts ∧ NilV e.v ∧ e.pts.length ≤ maxLen ∧ ((Lit.int .i64 e.key.L).wf = true ∧ (Lit.int .i64 e.key.x).wf = true ∧ (Lit.int .i64 e.key.y).wf = true ∧ (Lit.int .i64 e.key.z).wf = true) := by
  obtain ⟨xs, m, _, _, _, hxl, hf⟩ := DataW.trod_struct Try.underlying49 hx
  match cs, hl with
  | [c0, c1, c2, c3, c4], _ =>
    have h0 := hf 0 _ rfl
    rw [List.getElem?_eq_getElem (by rw [hxl]; decide)] at h0
    have h1 := hf 1 _ rfl
    rw [List.getElem?_eq_getElem (by rw [hxl]; decide)] at h1
    have hk := trod_flat 10 39 _ _ _ _ lawFlat39 (by simp [lawCells39]) h0
    obtain ⟨a, b, c, d, e, hw⟩ := fits4 (show fitsW [some .i64, some .i64, some .i64, some .i64] _ from hk)
    simp [lawCells39] at e
    obtain ⟨rfl, rfl, rfl, rfl⟩ := e
    obtain ⟨S, h2, h3, h4⟩ := pts_cell (v := c4) (by simpa [cells22] using h1)
    exact ⟨⟨⟨a, b, c, d⟩, c4, S⟩, rfl, h2, h3, h4, hw⟩
/-- a tile that an argument holds -/
structure TeIn (w : World) (e : Te) : Prop where
  pts : PtsV w e.v e.pts
  nil : NilV e.v
  len : e.pts.length ≤ maxLen
  key : (Lit.int .i64 e.key.L).wf = true ∧ (Lit.int .i64 e.key.x).wf = true ∧ (Lit.int .i64 e.key.y).wf = true ∧ (Lit.int .i64 e.key.z).wf = true
set_option maxRecDepth 100000 in
theorem open_tiles {r : Reach} {b0 : Nat} {v : Value} {d : DataW H} {p : List MemPlace} (hv : Value.okWide Try.prog w r b0 24 v) (h : DataW.Trod enc Try.prog w base spare held 24 v d p) :
    ∃ E : List Te, TilesV w v E ∧ NilV v ∧ E.length ≤ maxLen ∧ ∀ e ∈ E, TeIn w e := by
  obtain ⟨a0, len, cap, rfl⟩ := Go.WideShapes.okWide_slice Try.underlying24 hv
  obtain ⟨fuel, hx⟩ := h
  rcases open_slice Try.underlying24 hx with ⟨h0, _⟩ | ⟨a, len', cap', m, n, D, Pl, h1, hb, hl, hm, hmm, _, hall⟩
  · simp [Value.cells] at h0
    obtain ⟨rfl, rfl, rfl⟩ := h0
    exact ⟨[], ⟨⟨none, 0, rfl, Or.inl rfl⟩, fun e he => by simp at he⟩, nilV_zero, by simp, fun e he => by simp at he⟩
  · simp [Value.cells] at h1
    obtain ⟨rfl, rfl, rfl⟩ := h1
    have hnv : NilV (.slice (some a) len cap) := nilV_some _ _ _
    by_cases h0 : len = 0
    · subst h0
      exact ⟨[], ⟨⟨_, _, rfl, Or.inl rfl⟩, fun e he => by simp at he⟩, hnv, by simp, fun e he => by simp at he⟩
    have hle : len ≤ m := by rw [hmm]; split <;> omega
    rw [cells49] at hall
    obtain ⟨E, h1, h2⟩ := list_of (R := fun i (e : Te) => TeIn w e ∧ ∀ j, j < 5 → w.cell? ((a.add (i * 5)).add j) = e.row[j]?) len (fun i hi => by
      obtain ⟨cs, hc, ht⟩ := hall i (by omega)
      obtain ⟨_, hlen, hcell⟩ := World.cells?_some hc
      obtain ⟨e, rfl, h5, h6, h7, h8⟩ := tile_cells hlen ht
      exact ⟨e, ⟨h5, h6, h7, h8⟩, hcell⟩)
    subst h1
    obtain ⟨b, off, spot⟩ := a
    have hpos : 0 < E.length := by omega
    have hspot : spot = none := by
      have h0 := (h2 0 _ (List.getElem?_eq_getElem hpos)).2 0 (by omega)
      exact (by simpa [Addr.add] using World.cell?_spot (v := .int .i64 (E[0]).key.L) (h0.trans rfl))
    subst hspot
    have hr : RowsAt w b off 5 (E.map Te.row) := fun i r hi j hj => by
      rw [List.getElem?_map] at hi
      obtain ⟨e, he, rfl⟩ := Option.map_eq_some_iff.1 hi
      rw [← (h2 i e he).2 j hj, ← Go.WideShapes.add_plain, ← Go.WideShapes.add_plain]
    have hb : b < w.heap.size := by
      have h0 := hr 0 (E[0]).row (by simp [List.getElem?_map, List.getElem?_eq_getElem hpos]) 0 (by omega)
      exact cell_lt (h0.trans rfl)
    have hall' : ∀ e ∈ E, TeIn w e := fun e he => by
      obtain ⟨i, hi, rfl⟩ := List.mem_iff_getElem.1 he
      exact (h2 i _ (List.getElem?_eq_getElem hi)).1
    exact ⟨E, ⟨⟨_, _, rfl, Or.inr ⟨b, off, rfl, hb, hr⟩⟩, fun e he => (hall' e he).pts⟩, hnv, by omega, hall'⟩
end
end Go.Proofs.Yteanlcefdoigcaa
