/- What nil and zero disks and archives return. (Printed by wip/gen_nils.py.) -/
import Derived.Test.YtaglidlabfgjmaaGreatOpn
namespace Go.Proofs.YtaglidlabfgjmaaGreat
open Go.RowKit

/-- no disk: nil, or one that was not made -/
def NoD (W : World) (v : Value) : Prop := v = .pointer none ∨ ∃ g, v = .pointer (some ⟨g, 0, none⟩) ∧ W.cell? ⟨g, 0, none⟩ = some (.bool false)
/-- no archive: nil, or one without a disk -/
def NoA (W : World) (v : Value) : Prop := v = .pointer none ∨ ∃ g, v = .pointer (some ⟨g, 0, none⟩) ∧ W.cell? ⟨g, 8, none⟩ = some (.pointer none)
theorem NoD.still {W W' : World} {v : Value} (h : NoD W v) (hb : Below W.heap.size W W') : NoD W' v := by
  rcases h with h | ⟨g, h1, h2⟩
  · exact .inl h
  · exact .inr ⟨g, h1, by rw [hb.cell (cell_lt h2)]; exact h2⟩
theorem NoA.still {W W' : World} {v : Value} (h : NoA W v) (hb : Below W.heap.size W W') : NoA W' v := by
  rcases h with h | ⟨g, h1, h2⟩
  · exact .inl h
  · exact .inr ⟨g, h1, by rw [hb.cell (cell_lt h2)]; exact h2⟩
theorem dnone_any (v : Value) (w : World) (h : NoD w v) : Calls Tryz.prog 24 #[v] w fun r w' => r = .returned (.bool true) ∧ Below w.heap.size w w' := by
  rcases h with rfl | ⟨g, rfl, h⟩
  · go_enter Tryz.func24, Tryz.ntmps24
    go_wp2_with fail
    go_ret
    exact ⟨rfl, Below.refl _ _⟩
  · go_enter Tryz.func24, Tryz.ntmps24
    go_wp2_with fail
    go_ret
    exact ⟨rfl, Below.refl _ _⟩
theorem anone_any (v : Value) (w : World) (h : NoA w v) : Calls Tryz.prog 32 #[v] w fun r w' => r = .returned (.bool true) ∧ Below w.heap.size w w' := by
  rcases h with rfl | ⟨g, rfl, h⟩
  · go_enter Tryz.func32, Tryz.ntmps32
    go_wp2_with fail
    go_ret
    exact ⟨rfl, Below.refl _ _⟩
  · go_enter Tryz.func32, Tryz.ntmps32
    go_wp2_with fail
    go_ret
    exact ⟨rfl, Below.refl _ _⟩
theorem drefused_any (v : Value) (i : Int) (w : World) (h : NoD w v) : Calls Tryz.prog 26 #[v, .int .i64 i] w fun r w' => r = .returned (.int .i64 2) ∧ Below w.heap.size w w' := by
  have H := hid h
  clear h
  go_enter Tryz.func26, Tryz.ntmps26
  go_wp2_with fail
  refine (dnone_any v _ H.out).mono ?_
  rintro r w1 ⟨rfl, hb⟩
  go_wp2_with fail
  go_ret
  exact ⟨rfl, hb⟩
theorem dbegin_any (v : Value) (i : Int) (w : World) (h : NoD w v) : Calls Tryz.prog 31 #[v, .int .i64 i] w fun r w' => r = .returned (.tuple #[.pointer none, .int .i64 2]) ∧ Below w.heap.size w w' := by
  have H := hid h
  clear h
  go_enter Tryz.func31, Tryz.ntmps31
  go_wp2_with fail
  refine (drefused_any v _ _ H.out).mono ?_
  rintro r w1 ⟨rfl, hb⟩
  go_wp2_with fail
  go_ret2
  exact ⟨rfl, hb⟩
theorem darm_any (v : Value) (n : Int) (w : World) (h : NoD w v) : Calls Tryz.prog 5 #[v, .int .i64 n] w fun r w' => r = .returned (.tuple #[]) ∧ Below w.heap.size w w' := by
  have H := hid h
  clear h
  go_enter Tryz.func5, Tryz.ntmps5
  go_wp2_with fail
  refine (dnone_any v _ H.out).mono ?_
  rintro r w1 ⟨rfl, hb⟩
  go_wp2_with fail
  (first | ((try simp only [Exit.inBlock, Exit.then]); refine bodyPost_ret (results_none rfl _ _ _) rfl ?_) | go_end0)
  exact ⟨rfl, hb⟩
theorem dcrash_any (v : Value) (a b : Int) (w : World) (h : NoD w v) : Calls Tryz.prog 6 #[v, .agg #[.int .i64 a, .int .i64 b]] w fun r w' => r = .returned (.tuple #[]) ∧ Below w.heap.size w w' := by
  have H := hid h
  clear h
  go_enter Tryz.func6, Tryz.ntmps6
  go_wp2_with fail
  refine (dnone_any v _ (H.out.still ((Below.refl _ _).alloc (Nat.le_refl _) _))).mono ?_
  rintro r w1 ⟨rfl, hb⟩
  go_wp2_with fail
  (first | ((try simp only [Exit.inBlock, Exit.then]); refine bodyPost_ret (results_none rfl _ _ _) rfl ?_) | go_end0)
  exact ⟨rfl, ((Below.refl _ _).alloc (Nat.le_refl _) _).trans (hb.mono (by simp))⟩
theorem dstart_any (v : Value) (w : World) (h : NoD w v) : Calls Tryz.prog 7 #[v] w fun r w' => r = .returned (.tuple #[]) ∧ Below w.heap.size w w' := by
  have H := hid h
  clear h
  go_enter Tryz.func7, Tryz.ntmps7
  go_wp2_with fail
  refine (dnone_any v _ H.out).mono ?_
  rintro r w1 ⟨rfl, hb⟩
  go_wp2_with fail
  (first | ((try simp only [Exit.inBlock, Exit.then]); refine bodyPost_ret (results_none rfl _ _ _) rfl ?_) | go_end0)
  exact ⟨rfl, hb⟩
theorem dread_any (v : Value) (i : Int) (w : World) (h : NoD w v) : Calls Tryz.prog 8 #[v, .int .i64 i] w fun r w' => r = .returned (.tuple #[.slice none 0 0, .int .i64 2]) ∧ Below w.heap.size w w' := by
  have H := hid h
  clear h
  go_enter Tryz.func8, Tryz.ntmps8
  go_wp2_with fail
  refine (drefused_any v _ _ H.out).mono ?_
  rintro r w1 ⟨rfl, hb⟩
  go_wp2_with fail
  go_ret2
  exact ⟨rfl, hb⟩
theorem dopen_any (v : Value) (c : Int) (w : World) (h : NoD w v) : Calls Tryz.prog 9 #[v, .int .i64 c] w fun r w' => r = .returned (.tuple #[.pointer none, .int .i64 2]) ∧ Below w.heap.size w w' := by
  have H := hid h
  clear h
  go_enter Tryz.func9, Tryz.ntmps9
  go_wp2_with fail
  refine (dnone_any v _ H.out).mono ?_
  rintro r w1 ⟨rfl, hb⟩
  go_wp2_with fail
  go_ret2
  exact ⟨rfl, hb⟩
theorem dappend_any (v : Value) (i : Int) (b : Value) (w : World) (h : NoD w v) : Calls Tryz.prog 10 #[v, .int .i64 i, b] w fun r w' => r = .returned (.int .i64 2) ∧ Below w.heap.size w w' := by
  have H := hid h
  clear h
  go_enter Tryz.func10, Tryz.ntmps10
  go_wp2_with fail
  refine (dbegin_any v _ _ H.out).mono ?_
  rintro r w1 ⟨rfl, hb⟩
  go_wp2_with fail
  go_ret
  exact ⟨rfl, hb⟩
theorem dsync_any (v : Value) (i : Int) (w : World) (h : NoD w v) : Calls Tryz.prog 11 #[v, .int .i64 i] w fun r w' => r = .returned (.int .i64 2) ∧ Below w.heap.size w w' := by
  have H := hid h
  clear h
  go_enter Tryz.func11, Tryz.ntmps11
  go_wp2_with fail
  refine (dbegin_any v _ _ H.out).mono ?_
  rintro r w1 ⟨rfl, hb⟩
  go_wp2_with fail
  go_ret
  exact ⟨rfl, hb⟩
theorem dclear_any (v : Value) (i : Int) (w : World) (h : NoD w v) : Calls Tryz.prog 12 #[v, .int .i64 i] w fun r w' => r = .returned (.int .i64 2) ∧ Below w.heap.size w w' := by
  have H := hid h
  clear h
  go_enter Tryz.func12, Tryz.ntmps12
  go_wp2_with fail
  refine (dbegin_any v _ _ H.out).mono ?_
  rintro r w1 ⟨rfl, hb⟩
  go_wp2_with fail
  go_ret
  exact ⟨rfl, hb⟩
theorem ddown_any (v : Value) (w : World) (h : NoD w v) : Calls Tryz.prog 13 #[v] w fun r w' => r = .returned (.bool true) ∧ Below w.heap.size w w' := by
  have H := hid h
  clear h
  go_enter Tryz.func13, Tryz.ntmps13
  go_wp2_with fail
  refine (dnone_any v _ H.out).mono ?_
  rintro r w1 ⟨rfl, hb⟩
  go_wp2_with fail
  go_ret
  exact ⟨rfl, hb⟩
theorem dfork_any (v : Value) (w : World) (h : NoD w v) : Calls Tryz.prog 14 #[v] w fun r w' => r = .returned (.pointer none) ∧ Below w.heap.size w w' := by
  have H := hid h
  clear h
  go_enter Tryz.func14, Tryz.ntmps14
  go_wp2_with fail
  refine (dnone_any v _ H.out).mono ?_
  rintro r w1 ⟨rfl, hb⟩
  go_wp2_with fail
  go_ret
  exact ⟨rfl, hb⟩
theorem aof_any (v : Value) (i : Int) (w : World) (h : NoA w v) : Calls Tryz.prog 41 #[v, .int .i64 i] w fun r w' => r = .returned (.tuple #[.slice none 0 0, .int .i64 2]) ∧ Below w.heap.size w w' := by
  have H := hid h
  clear h
  go_enter Tryz.func41, Tryz.ntmps41
  go_wp2_with fail
  refine (anone_any v _ H.out).mono ?_
  rintro r w1 ⟨rfl, hb⟩
  go_wp2_with fail
  go_ret2
  exact ⟨rfl, hb⟩
theorem acommit_any (v : Value) (a b : Value) (w : World) (h : NoA w v) : Calls Tryz.prog 15 #[v, a, b] w fun r w' => r = .returned (.tuple #[.int .i64 0, .int .i64 2]) ∧ Below w.heap.size w w' := by
  have H := hid h
  clear h
  go_enter Tryz.func15, Tryz.ntmps15
  go_wp2_with fail
  refine (anone_any v _ H.out).mono ?_
  rintro r w1 ⟨rfl, hb⟩
  go_wp2_with fail
  go_ret2
  exact ⟨rfl, hb⟩
theorem clone_nil (w : World) : Calls Tryz.prog 35 #[.slice none 0 0] w fun r w' => r = .returned (.slice none 0 0) ∧ Below w.heap.size w w' := by
  have heq := fun w => Lib.run_eql_slice_nil (P := Tryz.prog) w 24 78 none 0 0 0 0 Tryz.underlying24
  go_enter Tryz.func35, Tryz.ntmps35
  go_wp2_with fail
  go_ret
  exact ⟨rfl, Below.refl _ _⟩
theorem apoints_any (v : Value) (i : Int) (w : World) (h : NoA w v) : Calls Tryz.prog 16 #[v, .int .i64 i] w fun r w' => r = .returned (.tuple #[.slice none 0 0, .int .i64 2]) ∧ Below w.heap.size w w' := by
  have H := hid h
  clear h
  go_enter Tryz.func16, Tryz.ntmps16
  go_wp2_with fail
  refine (aof_any v _ _ H.out).mono ?_
  rintro r w1 ⟨rfl, hb⟩
  go_wp2_with fail
  refine (clone_nil _).mono ?_
  rintro r w2 ⟨rfl, hb2⟩
  go_wp2_with fail
  go_ret2
  exact ⟨rfl, hb.trans (hb2.mono hb.size)⟩
theorem atiles_any (v : Value) (i : Int) (w : World) (h : NoA w v) : Calls Tryz.prog 17 #[v, .int .i64 i] w fun r w' => r = .returned (.tuple #[.slice none 0 0, .int .i64 2]) ∧ Below w.heap.size w w' := by
  have H := hid h
  clear h
  go_enter Tryz.func17, Tryz.ntmps17
  go_wp2_with fail
  refine (aof_any v _ _ H.out).mono ?_
  rintro r w1 ⟨rfl, hb⟩
  go_wp2_with fail
  go_ret2
  exact ⟨rfl, hb⟩
theorem achanges_any (v : Value) (i j : Int) (w : World) (h : NoA w v) : Calls Tryz.prog 18 #[v, .int .i64 i, .int .i64 j] w fun r w' => r = .returned (.tuple #[.slice none 0 0, .int .i64 2]) ∧ Below w.heap.size w w' := by
  have H := hid h
  clear h
  go_enter Tryz.func18, Tryz.ntmps18
  go_wp2_with fail
  refine (aof_any v _ _ H.out).mono ?_
  rintro r w1 ⟨rfl, hb⟩
  go_wp2_with fail
  go_ret2
  exact ⟨rfl, hb⟩
theorem aforget_any (v : Value) (i : Int) (w : World) (h : NoA w v) : Calls Tryz.prog 19 #[v, .int .i64 i] w fun r w' => r = .returned (.int .i64 2) ∧ Below w.heap.size w w' := by
  have H := hid h
  clear h
  go_enter Tryz.func19, Tryz.ntmps19
  go_wp2_with fail
  refine (anone_any v _ H.out).mono ?_
  rintro r w1 ⟨rfl, hb⟩
  go_wp2_with fail
  go_ret
  exact ⟨rfl, hb⟩
theorem aversion_any (v : Value) (w : World) (h : NoA w v) : Calls Tryz.prog 20 #[v] w fun r w' => r = .returned (.int .i64 0) ∧ Below w.heap.size w w' := by
  have H := hid h
  clear h
  go_enter Tryz.func20, Tryz.ntmps20
  go_wp2_with fail
  refine (anone_any v _ H.out).mono ?_
  rintro r w1 ⟨rfl, hb⟩
  go_wp2_with fail
  go_ret
  exact ⟨rfl, hb⟩
theorem aversions_any (v : Value) (w : World) (h : NoA w v) : Calls Tryz.prog 21 #[v] w fun r w' => r = .returned (.slice none 0 0) ∧ Below w.heap.size w w' := by
  have H := hid h
  clear h
  go_enter Tryz.func21, Tryz.ntmps21
  go_wp2_with fail
  refine (anone_any v _ H.out).mono ?_
  rintro r w1 ⟨rfl, hb⟩
  go_wp2_with fail
  go_ret
  exact ⟨rfl, hb⟩
end Go.Proofs.YtaglidlabfgjmaaGreat
