/- Rows of three integers an element that a call owns: read, written, appended to. The clone of a slice of syncs. -/
import Derived.Test.YteoikaedpgianaaSwapR
import Derived.Test.YteoikaedpgianaaNav
import Derived.Test.YteoikaedpgianaaLimb
import Derived.Lib.SliceRun
namespace Go.Proofs.Yteoikaedpgianaa
open Go.RowKit

/-- the cells of a list of syncs or clocks -/
def rowsOf (l : List Syn) : List Value := l.flatMap row3
theorem rowsOf_length : ∀ l : List Syn, (rowsOf l).length = l.length * 3
  | [] => rfl
  | x :: l => by
    show (row3 x ++ rowsOf l).length = _
    rw [List.length_append, rowsOf_length l]
    simp [row3]
    omega
theorem rowsOf_append (l m : List Syn) : rowsOf (l ++ m) = rowsOf l ++ rowsOf m := List.flatMap_append
theorem rowsOf_at : ∀ (l : List Syn) (i : Nat) (x : Syn), l[i]? = some x → ∀ j, j < 3 → (rowsOf l)[i * 3 + j]? = (row3 x)[j]?
  | y :: l, 0, x, h, j, hj => by
    simp at h
    subst h
    show (row3 y ++ rowsOf l)[0 * 3 + j]? = _
    rw [Nat.zero_mul, Nat.zero_add, List.getElem?_append_left (by simpa [row3] using hj)]
  | y :: l, i + 1, x, h, j, hj => by
    simp at h
    show (row3 y ++ rowsOf l)[(i + 1) * 3 + j]? = _
    rw [List.getElem?_append_right (by simp [row3]; omega), show (i + 1) * 3 + j - (row3 y).length = i * 3 + j by simp [row3]; omega]
    exact rowsOf_at l i x h j hj
theorem rowsOf_one (l : List Syn) : ∀ u ∈ rowsOf l, u.oneCell' = true := by
  intro u hu
  obtain ⟨x, _, hx⟩ := List.mem_flatMap.1 hu
  simp [row3] at hx
  rcases hx with rfl | rfl | rfl <;> rfl
theorem RowsC.of_take {C : Array Value} {l : List Syn} (hs : l.length * 3 ≤ C.size) (h : C.toList.take (l.length * 3) = rowsOf l) : RowsC C l := by
  have key : ∀ i x, l[i]? = some x → ∀ j, j < 3 → C[i * 3 + j]? = (row3 x)[j]? := fun i x hx j hj => by
    have hi : i < l.length := (List.getElem?_eq_some_iff.1 hx).1
    rw [← rowsOf_at l i x hx j hj, ← h, List.getElem?_take_of_lt (by omega), Array.getElem?_toList]
  exact ⟨hs, fun i x hx => key i x hx 0 (by decide), fun i x hx => key i x hx 1 (by decide), fun i x hx => key i x hx 2 (by decide)⟩
theorem RowsC.take {C : Array Value} {l : List Syn} (h : RowsC C l) : C.toList.take (l.length * 3) = rowsOf l := by
  refine List.ext_getElem? fun k => ?_
  rcases Nat.lt_or_ge k (l.length * 3) with hk | hk
  · obtain ⟨x, hx⟩ : ∃ x, l[k / 3]? = some x := ⟨_, List.getElem?_eq_getElem (by omega)⟩
    have e := rowsOf_at l (k / 3) x hx (k % 3) (Nat.mod_lt _ (by decide))
    rw [show k / 3 * 3 + k % 3 = k by omega] at e
    rw [e, List.getElem?_take_of_lt hk, Array.getElem?_toList]
    have hm : k % 3 < 3 := Nat.mod_lt _ (by decide)
    have h0 := h.at0 _ _ hx
    have h1 := h.at1 _ _ hx
    have h2 := h.at2 _ _ hx
    rcases (by omega : k % 3 = 0 ∨ k % 3 = 1 ∨ k % 3 = 2) with g | g | g
    · rw [show k / 3 * 3 = k by omega] at h0; rw [h0, g]; rfl
    · rw [show k / 3 * 3 + 1 = k by omega] at h1; rw [h1, g]; rfl
    · rw [show k / 3 * 3 + 2 = k by omega] at h2; rw [h2, g]; rfl
  · rw [List.getElem?_eq_none (by rw [List.length_take]; omega), List.getElem?_eq_none (by rw [rowsOf_length]; omega)]
/-- v is a slice of the call's own (from block base on) that holds the list l -/
def OwnL (W : World) (base t : Nat) (v : Value) (l : List Syn) : Prop := W.ownsRow base t 3 v l.length (rowsOf l)
theorem OwnL.rows {W : World} {base t : Nat} {v : Value} {l : List Syn} (h : OwnL W base t v l) (hn : 0 < l.length) :
    ∃ g cap cur, v = .slice (some ⟨g, 0, none⟩) l.length cap ∧ base ≤ g ∧ W.heap[g]? = some (.cells cur t) ∧ RowsC cur l ∧ l.length ≤ cap ∧ cap ≤ maxLen ∧ cur.size = cap * 3 := by
  rcases h.2 with ⟨_, h2⟩ | ⟨g, cap, cur, h1, hB, h2, h3, h4, h5, h6⟩
  · omega
  · exact ⟨g, cap, cur, h1, hB, h2, RowsC.of_take (by omega) h6, h3, h4, h5⟩
theorem OwnL.mk {W : World} {base t g cap : Nat} {cur : Array Value} {l : List Syn} (hB : base ≤ g) (h : W.heap[g]? = some (.cells cur t)) (hr : RowsC cur l) (h3 : l.length ≤ cap) (h4 : cap ≤ maxLen) (h5 : cur.size = cap * 3) :
    OwnL W base t (.slice (some ⟨g, 0, none⟩) l.length cap) l := ⟨rowsOf_length l, Or.inr ⟨g, cap, cur, rfl, hB, h, h3, h4, h5, hr.take⟩⟩
theorem OwnL.nil (W : World) (base t : Nat) : OwnL W base t (.slice none 0 0) [] := ⟨rfl, Or.inl ⟨rfl, rfl⟩⟩
theorem OwnL.away {W : World} {base t k : Nat} {v : Value} {l : List Syn} (h : OwnL W base t v l) (hk : k < base) : some k ≠ v.ownBlock := by
  rcases h.2 with ⟨h1, _⟩ | ⟨g, cap, cur, h1, hB, _⟩
  · subst h1; intro h; cases h
  · subst h1; intro h; injection h with h; subst h; exact absurd hk (Nat.not_lt.2 hB)
theorem OwnL.slice {W : World} {base t : Nat} {v : Value} {l : List Syn} (h : OwnL W base t v l) : ∃ a cap, v = .slice a l.length cap := by
  rcases h.2 with ⟨h1, h2⟩ | ⟨g, cap, cur, h1, _⟩
  · exact ⟨none, 0, by rw [h1, h2]⟩
  · exact ⟨_, cap, h1⟩
theorem OwnL.heap {W W' : World} {base t : Nat} {v : Value} {l : List Syn} (h : OwnL W base t v l) (hB : ∀ g x, W.heap[g]? = some x → base ≤ g → W'.heap[g]? = some x) : OwnL W' base t v l := by
  refine ⟨h.1, ?_⟩
  rcases h.2 with h1 | ⟨g, cap, cur, h1, hb, h2, h3⟩
  · exact Or.inl h1
  · exact Or.inr ⟨g, cap, cur, h1, hb, hB _ _ h2 hb, h3⟩
theorem OwnL.grow {W W' : World} {base t : Nat} {v : Value} {l : List Syn} (h : OwnL W base t v l) (hB : Below W.heap.size W W') : OwnL W' base t v l := h.heap fun _ _ hx _ => heap_still hB hx
theorem OwnL.mono {W : World} {base base' t : Nat} {v : Value} {l : List Syn} (h : OwnL W base t v l) (hb : base' ≤ base) : OwnL W base' t v l := by
  refine ⟨h.1, ?_⟩
  rcases h.2 with h1 | ⟨g, cap, cur, h1, hb', h2⟩
  · exact Or.inl h1
  · exact Or.inr ⟨g, cap, cur, h1, by omega, h2⟩
theorem OwnL.length {W : World} {base t : Nat} {v : Value} {l : List Syn} (h : OwnL W base t v l) : l.length ≤ maxLen := by
  rcases h.2 with ⟨_, h2⟩ | ⟨_, _, _, _, _, _, h3, h4, _⟩
  · rw [h2]; exact Nat.zero_le _
  · omega
/-- two cells of an element are stored -/
theorem ptL_two {C : Array Value} {o : Nat} {a b c : Value} (h : C[o]? = some a) : ptL C (o + 1) [b, c] = ptL C o [a, b, c] := by
  show ptL C (o + 1) [b, c] = ptL (C.setIfInBounds o a) (o + 1) [b, c]
  congr 1
  obtain ⟨ho, hv⟩ := Array.getElem?_eq_some_iff.1 h
  rw [Array.setIfInBounds, dif_pos ho, ← hv, Array.set_getElem_self]
theorem OwnL.set {W : World} {base t g cap : Nat} {l : List Syn} {cur : Array Value} (hB : base ≤ g) (h : W.heap[g]? = some (.cells cur t)) (hr : RowsC cur l) (h3 : l.length ≤ cap) (h4 : cap ≤ maxLen) (h5 : cur.size = cap * 3) {i : Nat} (hi : i < l.length) (x : Syn) :
    OwnL (W.setRow g (ptL cur (i * 3) (row3 x))) base t (.slice (some ⟨g, 0, none⟩) l.length cap) (l.set i x) := by
  have := OwnL.mk (l := l.set i x) (cap := cap) hB (setRow_heap W g cur (ptL cur (i * 3) (row3 x)) t (0, 0) h) (hr.set hi x) (by rw [List.length_set]; exact h3) h4 (by rw [ptL_size]; exact h5)
  rwa [List.length_set] at this
theorem OwnL.ownBlock {W : World} {base t : Nat} {v : Value} {l : List Syn} (h : OwnL W base t v l) : ∀ k, v.ownBlock = some k → base ≤ k := by
  intro k hk
  rcases h.2 with ⟨h1, _⟩ | ⟨g, cap, cur, h1, hB, _⟩
  · subst h1; cases hk
  · subst h1; injection hk with hk; subst hk; exact hB
theorem info57 : (Try.prog.info? 57).map (fun i => (i.zero, i.size, i.bytes)) = some (some (.agg #[.int .i64 0, .int .i64 0, .int .i64 0]), 3, 24) := by kernel_rfl
theorem info99 : (Try.prog.info? 99).map (fun i => (i.zero, i.size, i.bytes)) = some (some (.agg #[.int .i64 0, .int .i64 0, .int .i64 0]), 3, 24) := by kernel_rfl
/-- the records behind an address as a list -/
def recL (f lo hi : Nat → Int) (n : Nat) : List Syn := (List.range n).map fun i => (f i, lo i, hi i)
theorem recL_length (f lo hi : Nat → Int) (n : Nat) : (recL f lo hi n).length = n := by simp [recL]
theorem recL_at {f lo hi : Nat → Int} {n i : Nat} (h : i < n) : (recL f lo hi n)[i]? = some (f i, lo i, hi i) := by simp [recL, h]
theorem recs_cells {w : World} {b off n : Nat} {f lo hi : Nat → Int} (h : recs3 w b off n f lo hi) : ∀ j u, (rowsOf (recL f lo hi n))[j]? = some u → w.cell? ((⟨b, off, none⟩ : Addr).add j) = some u := by
  intro j u hu
  have hj : j < n * 3 := by have := (List.getElem?_eq_some_iff.1 hu).1; rwa [rowsOf_length, recL_length] at this
  have e := rowsOf_at (recL f lo hi n) (j / 3) _ (recL_at (by omega)) (j % 3) (Nat.mod_lt _ (by decide))
  rw [show j / 3 * 3 + j % 3 = j by omega, hu] at e
  rw [Go.WideShapes.add_plain]
  obtain ⟨h0, h1, h2⟩ := h (j / 3) (by omega)
  rcases (by omega : j % 3 = 0 ∨ j % 3 = 1 ∨ j % 3 = 2) with g | g | g <;> rw [g] at e
  · rw [show off + j = off + j / 3 * 3 by omega, h0]; exact e.symm
  · rw [show off + j = off + j / 3 * 3 + 1 by omega, h1]; exact e.symm
  · rw [show off + j = off + j / 3 * 3 + 2 by omega, h2]; exact e.symm
set_option maxRecDepth 100000 in
theorem cloneSync_any (b off n c : Nat) (f lo hi : Nat → Int) (w : World) (hn : n ≤ 1000000000000) (hr : recs3 w b off n f lo hi) :
    Calls Try.prog 106 #[.slice (some ⟨b, off, none⟩) n c] w fun r w' => (∃ v, r = .returned v ∧ OwnL w' w.heap.size 57 v (recL f lo hi n)) ∧ Below w.heap.size w w' := by
  have HC := hid (recs_cells hr)
  obtain ⟨i0, hi, hz0, hz1, hz2⟩ := info_parts info57
  have HI := hid hi
  have HZ0 := hid hz0
  have HZ1 := hid hz1
  have HZ2 := hid hz2
  clear hi hz0 hz1 hz2 hr
  have heq := fun w => Lib.run_eql_slice_nil (P := Try.prog) w 95 57 (some ⟨b, off, none⟩) n c 0 0 Try.underlying95
  go_enter Try.func106, Try.ntmps106
  have hown0 : (w.alloc (.cells #[] 57)).ownsRow w.heap.size 57 3 (.slice (some ⟨w.heap.size, 0, none⟩) 0 0) 0 [] := ⟨rfl, Or.inr ⟨_, 0, #[], rfl, Nat.le_refl _, (by repeat' (first | (refine heap_alloc_at _ _ _ ?_; (first | rfl | (simp; done) | (simp; omega))) | (refine heap_alloc_past _ _ _ _ ?_))), Nat.le_refl _, by unfold maxLen; omega, rfl, rfl⟩⟩
  have HOWN := hid hown0
  clear hown0
  go_wp2_with (at_builtin; refine wpList_append_own _ rfl (.tmp 5) (.tmp 6) 95 rfl w.heap.size 57 i0 _ 3 24 Try.underlying95 HI.out HZ0.out HZ1.out HZ2.out rfl (by decide) _ 0 [] rfl HOWN.out ⟨b, off, none⟩ n c (rowsOf (recL f lo hi n)) rfl (by rw [rowsOf_length, recL_length]) (fun j u hu => by have h := HC.out j u hu; rw [Go.WideShapes.add_plain] at h ⊢; exact (Below.cell ((Below.refl _ _).alloc (Nat.le_refl _) _) (cell_lt h)).trans h) (rowsOf_one _) (by unfold maxLen; omega) (by omega) (by simp) ?_; intro v' w1 hown hgrow hnil)
  go_ret
  refine ⟨⟨v', rfl, ?_⟩, ?_⟩
  · have h := hown
    rw [List.nil_append, Nat.zero_add] at h
    show w1.ownsRow w.heap.size 57 3 v' (recL f lo hi n).length (rowsOf (recL f lo hi n))
    rw [recL_length]
    exact h
  · exact ((Below.refl _ _).alloc (Nat.le_refl _) _).grown hgrow (by simp) (fun k hk => by injection hk with hk; subst hk; exact Nat.le_refl _)
theorem offset_any (x : Syn) (w : World) (h : ∀ y, y = x.1 ∨ y = x.2.1 ∨ y = x.2.2 → 0 ≤ y ∧ y ≤ 1125899906842624) :
    Calls Try.prog 109 #[.agg #[.int .i64 x.1, .int .i64 x.2.1, .int .i64 x.2.2]] w fun r w' => r = .returned (.agg #[.int .i64 (x.2.1 - x.1 - x.2.2), .int .i64 (x.2.1 - x.1 + x.2.2)]) ∧ Below w.heap.size w w' := by
  obtain ⟨a, b, c⟩ := x
  have h0 := h a (Or.inl rfl)
  have h1 := h b (Or.inr (Or.inl rfl))
  have h2 := h c (Or.inr (Or.inr rfl))
  clear h
  dsimp only
  go_enter Try.func109, Try.ntmps109
  go_wp2_with fail
  refine bodyPost_ret (results_at1 rfl rfl (heap_alloc_at _ _ _ (by simp)) Try.underlying44 rfl size44 rfl) rfl ⟨rfl, ?_⟩
  (repeat' (first | (with_reducible exact Below.refl _ _) | (with_reducible assumption) | (with_reducible refine Below.alloc ?_ ?_ _) | (with_reducible refine Below.drew ?_) | (with_reducible refine below_drewN ?_ _) | (with_reducible refine Below.setCell ?_ ?_ _) | (with_reducible refine below_setRow ?_ ?_ _) | go_size))
end Go.Proofs.Yteoikaedpgianaa
