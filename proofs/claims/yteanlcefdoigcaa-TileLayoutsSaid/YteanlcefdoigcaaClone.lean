/- The clone of a slice of points. -/
import Derived.Test.YteanlcefdoigcaaOwnR
import Derived.Test.YteanlcefdoigcaaValidP
import Derived.Lib.SliceRun
namespace Go.Proofs.Yteanlcefdoigcaa
open Go.RowKit

theorem info_parts {P : Program} {t : TypeId} {z : Option Value} {sz by' : Nat} (h : (P.info? t).map (fun i => (i.zero, i.size, i.bytes)) = some (z, sz, by')) : ∃ i, P.info? t = some i ∧ i.zero = z ∧ i.size = sz ∧ i.bytes = by' := by
  cases hi : P.info? t with
  | none => rw [hi] at h; simp at h
  | some i => rw [hi] at h; simp at h; exact ⟨i, rfl, h.1, h.2.1, h.2.2⟩
theorem info36 : (Try.prog.info? 36).map (fun i => (i.zero, i.size, i.bytes)) = some (some (.agg #[.int .i64 0, .int .i64 0, .int .i64 0, .int .i64 0, .int .i64 0, .int .i64 0, .int .i64 0, .int .i64 0, .int .i64 0]), 9, 72) := by kernel_rfl
/-- the cells of a point, and the points behind an address as a list of rows -/
def ptRow (p : Nat → Int) : List Value := [.int .i64 (p 0), .int .i64 (p 1), .int .i64 (p 2), .int .i64 (p 3), .int .i64 (p 4), .int .i64 (p 5), .int .i64 (p 6), .int .i64 (p 7), .int .i64 (p 8)]
theorem ptRow_at (p : Nat → Int) (j : Nat) (hj : j < 9) : (ptRow p)[j]? = some (.int .i64 (p j)) := by
  match j, hj with
  | 0, _ | 1, _ | 2, _ | 3, _ | 4, _ | 5, _ | 6, _ | 7, _ | 8, _ => rfl
theorem ptRow_wide (p : Nat → Int) : (ptRow p).length = 9 ∧ ∀ u ∈ ptRow p, u.oneCell' = true := by
  refine ⟨rfl, fun u hu => ?_⟩
  simp [ptRow] at hu
  rcases hu with rfl | rfl | rfl | rfl | rfl | rfl | rfl | rfl | rfl <;> rfl
/-- a list of points as rows -/
def ptRows (l : List (Nat → Int)) : List (List Value) := l.map ptRow
theorem ptRows_wide (l : List (Nat → Int)) : Wide 9 (ptRows l) := fun r hr => by
  obtain ⟨p, _, rfl⟩ := List.mem_map.1 hr
  exact ptRow_wide p
theorem ptRows_length (l : List (Nat → Int)) : (ptRows l).length = l.length := List.length_map ..
/-- the first n points of F as a list -/
def ptList (F : Nat → Nat → Int) (n : Nat) : List (Nat → Int) := (List.range n).map F
theorem ptList_length (F : Nat → Nat → Int) (n : Nat) : (ptList F n).length = n := by simp [ptList]
theorem recs9_rows {w : World} {b off n : Nat} {F : Nat → Nat → Int} (h : recs9 w b off n F) : RowsAt w b off 9 (ptRows (ptList F n)) := fun i r hi j hj => by
  have hil : i < n := by
    have := (List.getElem?_eq_some_iff.1 hi).1
    rwa [ptRows_length, ptList_length] at this
  simp [ptRows, ptList, hil] at hi
  subst hi
  rw [ptRow_at _ _ hj]
  exact h i hil j hj
set_option maxRecDepth 100000 in
theorem clone_any (b off n c : Nat) (F : Nat → Nat → Int) (w : World) (hn : n ≤ 1000000000000) (hbw : b < w.heap.size) (hr : recs9 w b off n F) :
    Calls Try.prog 94 #[.slice (some ⟨b, off, none⟩) n c] w fun r w' => (∃ v, r = .returned v ∧ OwnR w' w.heap.size 36 9 v (ptRows (ptList F n))) ∧ Below w.heap.size w w' := by
  have HC := hid (recs9_rows hr)
  obtain ⟨i0, hi, hz0, hz1, hz2⟩ := info_parts info36
  have HI := hid hi
  have HZ0 := hid hz0
  have HZ1 := hid hz1
  have HZ2 := hid hz2
  clear hi hz0 hz1 hz2 hr
  have HLEN := hid (show (ptRows (ptList F n)).length = n by rw [ptRows_length, ptList_length])
  have heq := fun w => Lib.run_eql_slice_nil (P := Try.prog) w 22 36 (some ⟨b, off, none⟩) n c 0 0 Try.underlying22
  go_enter Try.func94, Try.ntmps94
  have hown0 : OwnR (w.alloc (.cells #[] 36)) w.heap.size 36 9 (.slice (some ⟨w.heap.size, 0, none⟩) 0 0) [] := ⟨Wide.nil 9, rfl, Or.inr ⟨_, 0, #[], rfl, Nat.le_refl _, (by repeat' (first | (refine heap_alloc_at _ _ _ ?_; (first | rfl | (simp; done) | (simp; omega))) | (refine heap_alloc_past _ _ _ _ ?_))), Nat.le_refl _, by unfold maxLen; omega, rfl, rfl⟩⟩
  have HOWN := hid hown0
  clear hown0
  go_wp2_with (at_builtin; refine wpList_append_rows rfl (.tmp 5) (.tmp 6) 22 rfl w.heap.size 36 i0 _ 9 72 Try.underlying22 HI.out HZ0.out HZ1.out HZ2.out rfl (by decide) _ [] _ rfl HOWN.out b off n c HLEN.out.symm rfl (HC.out.still ((Below.refl _ _).alloc (Nat.le_refl _) _) hbw) (ptRows_wide _) (by rw [HLEN.out]; simp; unfold maxLen; omega) (by rw [HLEN.out]; simp; omega) (by simp) ?_; intro v' w1 hown hgrow halt)
  go_ret
  refine ⟨⟨v', rfl, hown⟩, ?_⟩
  exact ((Below.refl _ _).alloc (Nat.le_refl _) _).grown hgrow (by simp) (fun k hk => by injection hk with hk; subst hk; exact Nat.le_refl _)
end Go.Proofs.Yteanlcefdoigcaa
