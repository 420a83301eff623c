/- What nil and zero plants return. (Printed by wip/gen_plants.py.) -/
import Derived.Test.YtpfighhhemnhaaaGreatG
import Derived.Test.YtpfighhhemnhaaaGreatK
namespace Go.Proofs.YtpfighhhemnhaaaGreat
open Go.RowKit

/-- no plant: nil, or one without an archive -/
def NoP (W : World) (v : Value) : Prop := v = .pointer none ∨ ∃ g, v = .pointer (some ⟨g, 0, none⟩) ∧ W.cell? ⟨g, 23, none⟩ = some (.pointer none)
theorem NoP.still {W W' : World} {v : Value} (h : NoP W v) (hb : Below W.heap.size W W') : NoP W' v := by
  rcases h with h | ⟨g, h1, h2⟩
  · exact .inl h
  · exact .inr ⟨g, h1, by rw [hb.cell (cell_lt h2)]; exact h2⟩
theorem pnone_any (v : Value) (w : World) (h : NoP w v) : Calls Tryz.prog 34 #[v] w fun r w' => r = .returned (.bool true) ∧ Below w.heap.size w w' := by
  rcases h with rfl | ⟨g, rfl, h⟩
  · go_enter Tryz.func34, Tryz.ntmps34
    go_wp2_with fail
    go_ret
    exact ⟨rfl, Below.refl _ _⟩
  · go_enter Tryz.func34, Tryz.ntmps34
    go_wp2_with fail
    go_ret
    exact ⟨rfl, Below.refl _ _⟩
theorem ppublish_any (v : Value) (w : World) (h : NoP w v) : Calls Tryz.prog 10 #[v] w fun r w' => r = .returned (.tuple #[.int .i64 0, .int .i64 2]) ∧ Below w.heap.size w w' := by
  have H := hid h
  clear h
  go_enter Tryz.func10, Tryz.ntmps10
  go_wp2_with fail
  refine (pnone_any v _ H.out).mono ?_
  rintro r w1 ⟨rfl, hb⟩
  go_wp2_with fail
  go_ret2
  exact ⟨rfl, hb⟩
theorem ppoints_any (v : Value) (i : Int) (w : World) (h : NoP w v) : Calls Tryz.prog 11 #[v, .int .i64 i] w fun r w' => r = .returned (.tuple #[.slice none 0 0, .int .i64 2]) ∧ Below w.heap.size w w' := by
  have H := hid h
  clear h
  go_enter Tryz.func11, Tryz.ntmps11
  go_wp2_with fail
  refine (pnone_any v _ H.out).mono ?_
  rintro r w1 ⟨rfl, hb⟩
  go_wp2_with fail
  go_ret2
  exact ⟨rfl, hb⟩
theorem porder_any (v : Value) (i : Int) (x0 x1 x2 x3 : Value) (w : World) (h : NoP w v) : Calls Tryz.prog 12 #[v, .int .i64 i, .agg #[x0, x1, x2, x3]] w fun r w' => r = .returned (.tuple #[.slice none 0 0, .int .i64 2]) ∧ Below w.heap.size w w' := by
  have H := hid h
  clear h
  go_enter Tryz.func12, Tryz.ntmps12
  go_wp2_with fail
  refine (pnone_any v _ (H.out.still ((Below.refl _ _).alloc (by first | exact Nat.le_refl _ | (simp; done) | (simp; omega)) _))).mono ?_
  rintro r w1 ⟨rfl, hb⟩
  go_wp2_with fail
  go_ret2
  exact ⟨rfl, ((Below.refl _ _).alloc (by first | exact Nat.le_refl _ | (simp; done) | (simp; omega)) _).trans (hb.mono (by first | (simp; done) | (simp; omega)))⟩
theorem pprofile_any (v : Value) (i : Int) (x0 x1 y0 y1 : Value) (w : World) (h : NoP w v) : Calls Tryz.prog 13 #[v, .int .i64 i, .agg #[x0, x1], .agg #[y0, y1]] w fun r w' => r = .returned (.tuple #[.slice none 0 0, .int .i64 2]) ∧ Below w.heap.size w w' := by
  have H := hid h
  clear h
  go_enter Tryz.func13, Tryz.ntmps13
  go_wp2_with fail
  refine (pnone_any v _ (H.out.still (((Below.refl _ _).alloc (by first | exact Nat.le_refl _ | (simp; done) | (simp; omega)) _).alloc (by first | exact Nat.le_refl _ | (simp; done) | (simp; omega)) _))).mono ?_
  rintro r w1 ⟨rfl, hb⟩
  go_wp2_with fail
  go_ret2
  exact ⟨rfl, (((Below.refl _ _).alloc (by first | exact Nat.le_refl _ | (simp; done) | (simp; omega)) _).alloc (by first | exact Nat.le_refl _ | (simp; done) | (simp; omega)) _).trans (hb.mono (by first | (simp; done) | (simp; omega)))⟩
theorem pchanges_any (v : Value) (i j : Int) (w : World) (h : NoP w v) : Calls Tryz.prog 14 #[v, .int .i64 i, .int .i64 j] w fun r w' => r = .returned (.tuple #[.slice none 0 0, .int .i64 2]) ∧ Below w.heap.size w w' := by
  have H := hid h
  clear h
  go_enter Tryz.func14, Tryz.ntmps14
  go_wp2_with fail
  refine (pnone_any v _ H.out).mono ?_
  rintro r w1 ⟨rfl, hb⟩
  go_wp2_with fail
  go_ret2
  exact ⟨rfl, hb⟩
theorem pchange_any (v : Value) (i j : Int) (x0 x1 x2 x3 x4 : Value) (l k : Int) (w : World) (h : NoP w v) : Calls Tryz.prog 15 #[v, .int .i64 i, .int .i64 j, .agg #[x0, x1, x2, x3, x4], .int .i64 l, .int .i64 k] w fun r w' => r = .returned (.tuple #[.slice none 0 0, .int .i64 2]) ∧ Below w.heap.size w w' := by
  have H := hid h
  clear h
  go_enter Tryz.func15, Tryz.ntmps15
  go_wp2_with fail
  refine (pnone_any v _ (H.out.still ((Below.refl _ _).alloc (by first | exact Nat.le_refl _ | (simp; done) | (simp; omega)) _))).mono ?_
  rintro r w1 ⟨rfl, hb⟩
  go_wp2_with fail
  go_ret2
  exact ⟨rfl, ((Below.refl _ _).alloc (by first | exact Nat.le_refl _ | (simp; done) | (simp; omega)) _).trans (hb.mono (by first | (simp; done) | (simp; omega)))⟩
theorem pgiveup_any (v : Value) (i j : Int) (w : World) (h : NoP w v) : Calls Tryz.prog 16 #[v, .int .i64 i, .int .i64 j] w fun r w' => r = .returned (.int .i64 2) ∧ Below w.heap.size w w' := by
  have H := hid h
  clear h
  go_enter Tryz.func16, Tryz.ntmps16
  go_wp2_with fail
  refine (pnone_any v _ H.out).mono ?_
  rintro r w1 ⟨rfl, hb⟩
  go_wp2_with fail
  go_ret
  exact ⟨rfl, hb⟩
theorem ptie_any (v : Value) (x0 x1 x2 x3 x4 x5 x6 : Value) (w : World) (h : NoP w v) : Calls Tryz.prog 17 #[v, .agg #[x0, x1, x2, x3, x4, x5, x6]] w fun r w' => r = .returned (.int .i64 2) ∧ Below w.heap.size w w' := by
  have H := hid h
  clear h
  go_enter Tryz.func17, Tryz.ntmps17
  go_wp2_with fail
  refine (pnone_any v _ (H.out.still ((Below.refl _ _).alloc (by first | exact Nat.le_refl _ | (simp; done) | (simp; omega)) _))).mono ?_
  rintro r w1 ⟨rfl, hb⟩
  go_wp2_with fail
  go_ret
  exact ⟨rfl, ((Below.refl _ _).alloc (by first | exact Nat.le_refl _ | (simp; done) | (simp; omega)) _).trans (hb.mono (by first | (simp; done) | (simp; omega)))⟩
theorem pcorrect_any (v : Value) (x0 x1 x2 x3 : Value) (w : World) (h : NoP w v) : Calls Tryz.prog 18 #[v, .agg #[x0, x1, x2, x3]] w fun r w' => r = .returned (.int .i64 2) ∧ Below w.heap.size w w' := by
  have H := hid h
  clear h
  go_enter Tryz.func18, Tryz.ntmps18
  go_wp2_with fail
  refine (pnone_any v _ (H.out.still ((Below.refl _ _).alloc (by first | exact Nat.le_refl _ | (simp; done) | (simp; omega)) _))).mono ?_
  rintro r w1 ⟨rfl, hb⟩
  go_wp2_with fail
  go_ret
  exact ⟨rfl, ((Below.refl _ _).alloc (by first | exact Nat.le_refl _ | (simp; done) | (simp; omega)) _).trans (hb.mono (by first | (simp; done) | (simp; omega)))⟩
theorem pbreak_any (v : Value) (i j : Int) (w : World) (h : NoP w v) : Calls Tryz.prog 19 #[v, .int .i64 i, .int .i64 j] w fun r w' => r = .returned (.int .i64 2) ∧ Below w.heap.size w w' := by
  have H := hid h
  clear h
  go_enter Tryz.func19, Tryz.ntmps19
  go_wp2_with fail
  refine (pnone_any v _ H.out).mono ?_
  rintro r w1 ⟨rfl, hb⟩
  go_wp2_with fail
  go_ret
  exact ⟨rfl, hb⟩
theorem preopen_any (v : Value) (w : World) (h : NoP w v) : Calls Tryz.prog 20 #[v] w fun r w' => r = .returned (.int .i64 2) ∧ Below w.heap.size w w' := by
  have H := hid h
  clear h
  go_enter Tryz.func20, Tryz.ntmps20
  go_wp2_with fail
  refine (pnone_any v _ H.out).mono ?_
  rintro r w1 ⟨rfl, hb⟩
  go_wp2_with fail
  go_ret
  exact ⟨rfl, hb⟩
theorem pstrips_any (v : Value) (w : World) (h : NoP w v) : Calls Tryz.prog 21 #[v] w fun r w' => r = .returned (.slice none 0 0) ∧ Below w.heap.size w w' := by
  have H := hid h
  clear h
  go_enter Tryz.func21, Tryz.ntmps21
  go_wp2_with fail
  refine (pnone_any v _ H.out).mono ?_
  rintro r w1 ⟨rfl, hb⟩
  go_wp2_with fail
  go_ret
  exact ⟨rfl, hb⟩
theorem pversion_any (v : Value) (w : World) (h : NoP w v) : Calls Tryz.prog 22 #[v] w fun r w' => r = .returned (.int .i64 0) ∧ Below w.heap.size w w' := by
  have H := hid h
  clear h
  go_enter Tryz.func22, Tryz.ntmps22
  go_wp2_with fail
  refine (pnone_any v _ H.out).mono ?_
  rintro r w1 ⟨rfl, hb⟩
  go_wp2_with fail
  go_ret
  exact ⟨rfl, hb⟩
theorem nsz68 : (Tryz.prog.info? 68).map (·.size) = some 4 := by kernel_rfl
set_option maxRecDepth 100000 in
theorem pfeed_any (v b : Value) (w : World) (h : NoP w v) : Calls Tryz.prog 9 #[v, b] w fun r w' => r = .returned (.tuple #[.agg #[.int .i64 0, .int .i64 0, .int .i64 0, .int .i64 0], .int .i64 2]) ∧ Below w.heap.size w w' := by
  have H := hid h
  clear h
  go_enter Tryz.func9, Tryz.ntmps9
  go_wp2_with fail
  refine (pnone_any v _ (H.out.still ((Below.refl _ _).alloc (Nat.le_refl _) _))).mono ?_
  rintro r w1 ⟨rfl, hb⟩
  have K := hid (heap_still hb (heap_alloc_at w (.cells #[.int .i64 0, .int .i64 0, .int .i64 0, .int .i64 0] 68) _ rfl))
  have HB := hid (show Below w.heap.size w w1 from ((Below.refl _ _).alloc (Nat.le_refl _) _).trans (hb.mono (by simp)))
  clear hb
  go_wp2_with (refine wpList_store_at rfl 68 (.tmp 4) (.tmp 16) rfl rfl rfl (K.out) nsz68 rfl rfl rfl ?_)
  refine bodyPost_ret (results_at2 rfl rfl (setRow_heap _ _ _ _ _ _ (K.out)) Tryz.underlying68 rfl nsz68 rfl) rfl ?_
  exact ⟨rfl, below_setRow HB.out (Nat.le_refl _) _⟩
end Go.Proofs.YtpfighhhemnhaaaGreat
