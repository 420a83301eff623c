/- TrackInside: for every two boxes and every place the program's tests are the reference's; the law returns true and its arguments read as they did. Every input, no condition. -/
import Derived.Test.YteoikaedpgianaaBox
import Derived.Test.YteoikaedpgianaaLift
import Derived.Test.YteoikaedpgianaaOpen
namespace Go.Proofs.Yteoikaedpgianaa
open Go.ChangeShapes Go.WideShapes Go.ChangeAt Go.RowKit

theorem cellsR {w : World} {b t : Nat} {fr : Nat × Nat} {C : Array Value} (h : w.heap[b]? = some (.cells C t fr)) (j : Nat) (v : Value) (hj : C[j]? = some v) (d : Nat) (os : Array Obj) : (Sort.grow (redrawn w d) os).cell? ⟨b, j, none⟩ = some v :=
  cell_regrown (by rw [cell_row h, hj]) d os

set_option maxRecDepth 100000 in
set_option maxHeartbeats 1600000 in
theorem inside_law (ax aX ay aY az aZ bx bX by' bY bz bZ x y z : Int) (w : World) :
    Calls Try.prog 5 #[.agg #[.int .i64 ax, .int .i64 aX, .int .i64 ay, .int .i64 aY, .int .i64 az, .int .i64 aZ], .agg #[.int .i64 bx, .int .i64 bX, .int .i64 by', .int .i64 bY, .int .i64 bz, .int .i64 bZ], .agg #[.int .i64 x, .int .i64 y, .int .i64 z]] w
      fun r w' => r = .returned (.bool true) ∧ Below w.heap.size w w' := by
  have C30 := fun W => xInside_any ax aX ay aY az aZ bx bX by' bY bz bZ W
  have C31 := fun W => rInside_any ax aX ay aY az aZ bx bX by' bY bz bZ W
  have C32 := fun W => xHolds_any ax aX ay aY az aZ x y z W
  have C33 := fun W => rHolds_any ax aX ay aY az aZ x y z W
  cases boxB ax aX ay aY az aZ bx bX by' bY bz bZ <;> cases holdsB ax aX ay aY az aZ x y z
  all_goals
    have H30 := hid C30
    have H31 := hid C31
    have H32 := hid C32
    have H33 := hid C33
    clear C30 C31 C32 C33
    go_enter Try.func5, Try.ntmps5
    go_wp2_with fail
    refine gen_world (fun W hW => ?_)
    have f3 := hid (show W.heap[w.heap.size]? = some (.cells #[.int .i64 ax, .int .i64 aX, .int .i64 ay, .int .i64 aY, .int .i64 az, .int .i64 aZ] 46) from by rw [hW]; exact (by repeat' (first | (refine heap_alloc_at _ _ _ ?_; (first | rfl | (simp; done) | (simp; omega))) | (refine heap_alloc_past _ _ _ _ ?_))))
    have f4 := hid (show W.heap[w.heap.size + 1]? = some (.cells #[.int .i64 bx, .int .i64 bX, .int .i64 by', .int .i64 bY, .int .i64 bz, .int .i64 bZ] 46) from by rw [hW]; exact (by repeat' (first | (refine heap_alloc_at _ _ _ ?_; (first | rfl | (simp; done) | (simp; omega))) | (refine heap_alloc_past _ _ _ _ ?_))))
    have f5 := hid (show W.heap[w.heap.size + 1 + 1]? = some (.cells #[.int .i64 x, .int .i64 y, .int .i64 z] 26) from by rw [hW]; exact (by repeat' (first | (refine heap_alloc_at _ _ _ ?_; (first | rfl | (simp; done) | (simp; omega))) | (refine heap_alloc_past _ _ _ _ ?_))))
    have hb := hid (show Below w.heap.size w W by rw [hW]; (repeat' (first | (with_reducible exact Below.refl _ _) | (with_reducible assumption) | (with_reducible refine Below.alloc ?_ ?_ _) | (with_reducible refine Below.drew ?_) | (with_reducible refine below_drewN ?_ _) | (with_reducible refine Below.setCell ?_ ?_ _) | (with_reducible refine below_setRow ?_ ?_ _) | go_size)))
    have hs := hid (show W.heap.size = w.heap.size + 3 by rw [hW]; simp)
    clear hW
    have k30 := cellsR f3.out 0 _ rfl
    have k40 := cellsR f4.out 0 _ rfl
    have k31 := cellsR f3.out 1 _ rfl
    have k41 := cellsR f4.out 1 _ rfl
    have k32 := cellsR f3.out 2 _ rfl
    have k42 := cellsR f4.out 2 _ rfl
    have k33 := cellsR f3.out 3 _ rfl
    have k43 := cellsR f4.out 3 _ rfl
    have k34 := cellsR f3.out 4 _ rfl
    have k44 := cellsR f4.out 4 _ rfl
    have k35 := cellsR f3.out 5 _ rfl
    have k45 := cellsR f4.out 5 _ rfl
    have k50 := cellsR f5.out 0 _ rfl
    have k51 := cellsR f5.out 1 _ rfl
    have k52 := cellsR f5.out 2 _ rfl
    refine wp_region_quiet_below (by kernel_rfl) (by kernel_rfl) ?_
    repeat (first | go_big_quiet_step (first | (go_at_call 30; exact Calls.regrown_of (H30.out _)) | (go_at_call 31; exact Calls.regrown_of (H31.out _)) | (go_at_call 32; exact Calls.regrown_of (H32.out _)) | (go_at_call 33; exact Calls.regrown_of (H33.out _)) | (go_at_call 24; exact Calls.regrown_of (awake_any _))) | quiet_step (first | (go_at_call 30; exact Calls.regrown_of (H30.out _)) | (go_at_call 31; exact Calls.regrown_of (H31.out _)) | (go_at_call 32; exact Calls.regrown_of (H32.out _)) | (go_at_call 33; exact Calls.regrown_of (H33.out _)) | (go_at_call 24; exact Calls.regrown_of (awake_any _))))
    refine wpQuiet_nil ?_
    intro _ hw'
    obtain ⟨⟨dq, osq⟩, hw''⟩ := hw'
    subst hw''
    go_wp2
    go_ret
    exact ⟨rfl, hb.out.trans ((below_regrown W dq osq).mono (by rw [hs.out]; omega))⟩

theorem flat46 : flatOf Try.prog 10 46 = some [some .i64, some .i64, some .i64, some .i64, some .i64, some .i64] := by kernel_rfl
theorem fits3 {cs : List Value} (h : fitsW [some .i64, some .i64, some .i64] cs) : ∃ a b c : Int, cs = [.int .i64 a, .int .i64 b, .int .i64 c] := by
  obtain ⟨a, _, rfl, _, h⟩ := fits_int h
  obtain ⟨b, _, rfl, _, h⟩ := fits_int h
  obtain ⟨c, _, rfl, _, h⟩ := fits_int h
  obtain rfl := fits_nil h
  exact ⟨a, b, c, rfl⟩
theorem fits6 {cs : List Value} (h : fitsW [some .i64, some .i64, some .i64, some .i64, some .i64, some .i64] cs) : ∃ a b c d e f : Int, cs = [.int .i64 a, .int .i64 b, .int .i64 c, .int .i64 d, .int .i64 e, .int .i64 f] := by
  obtain ⟨a, _, rfl, _, h⟩ := fits_int h
  obtain ⟨b, _, rfl, _, h⟩ := fits_int h
  obtain ⟨c, _, rfl, _, h⟩ := fits_int h
  obtain ⟨d, e, f, rfl, _⟩ := fits3 h
  exact ⟨a, b, c, d, e, f, rfl⟩
theorem own : ownKnob Try.prog.godebug = none := by kernel_rfl
theorem laid : laidOutB Try.prog = true := by kernel_rfl

set_option maxRecDepth 100000 in
theorem trackInside_lifted (os : Os) (started : os.Started) (H : Type) (enc : TypeId × Value → H) :
    ReturnsInHanded {} Try.checked os 5 .any (Rows.trackInsideSpec.pre6 enc Try.prog Try.f5 Rows.trackInsideRow.domain false) (Rows.trackInsideSpec.post enc Try.prog Try.f5 false true false false) := by
  refine law_lifted (C := Try.checked) (tb := 4) own started (by kernel_rfl) Try.func5 rfl ?_ (show Try.f5.resultTypes = #[4] by kernel_rfl) Try.underlying4 laid ?_
    (ChangeSpec.witness6 (enc := enc) (C := Try.checked) false ⟨#[], #[.agg #[.int .i64 0, .int .i64 0, .int .i64 0, .int .i64 0, .int .i64 0, .int .i64 0], .agg #[.int .i64 0, .int .i64 0, .int .i64 0, .int .i64 0, .int .i64 0, .int .i64 0], .agg #[.int .i64 0, .int .i64 0, .int .i64 0]], []⟩ 8 (by kernel_rfl) (by kernel_rfl) (by kernel_rfl) (by kernel_rfl)) ?_
  · intro ds hds
    match ds, hds with
    | [d1, d2, d3], _ => exact ⟨rfl, rfl, rfl⟩
  · rw [Try.params5]
    intro t ht
    simp at ht
    rcases ht with rfl | rfl
    all_goals exact ⟨by kernel_rfl, of_decide_eq_true (by kernel_rfl)⟩
  · intro W base args ds p hval hA hlt _
    change DataW.TrodAll enc Try.prog W 0 (fun _ => true) true Try.f5.params.toList args.toList ds p at hA
    change ∀ (j : Nat) t v, Try.f5.params[j]? = some t → args[j]? = some v → Value.okWide Try.prog W .any base t v at hval
    rw [Try.params5] at hA hval
    obtain ⟨v0, vs0, d0, ds0, p0, q0, hargs, rfl, rfl, h0, r0⟩ := trodAll_cons hA
    obtain ⟨v1, vs1, d1, ds1, p1, q1, rfl, rfl, rfl, h1, r1⟩ := trodAll_cons r0
    obtain ⟨v2, vs2, d2, ds2, p2, q2, rfl, rfl, rfl, h2, r2⟩ := trodAll_cons r1
    obtain ⟨rfl, rfl, rfl⟩ := trodAll_nil r2
    obtain rfl : args = #[v0, v1, v2] := by cases args; simp_all
    obtain ⟨c0, rfl, f0⟩ := open_flat flat46 size46 (by kernel_rfl) (hval 0 46 v0 rfl rfl) h0
    obtain ⟨c1, rfl, f1⟩ := open_flat flat46 size46 (by kernel_rfl) (hval 1 46 v1 rfl rfl) h1
    obtain ⟨c2, rfl, f2⟩ := open_flat flat26 size26 (by kernel_rfl) (hval 2 26 v2 rfl rfl) h2
    obtain ⟨a0, a1, a2, a3, a4, a5, rfl⟩ := fits6 f0
    obtain ⟨b0, b1, b2, b3, b4, b5, rfl⟩ := fits6 f1
    obtain ⟨x, y, z, rfl⟩ := fits3 f2
    exact inside_law a0 a1 a2 a3 a4 a5 b0 b1 b2 b3 b4 b5 x y z W

/-- TrackInside, whatever the input. -/
theorem trackInside_holds : Rows.TrackInsideSaid :=
  OpenClaim.holds_of_wide 5 Try.f5 rfl rfl rfl rfl rfl rfl rfl ⟨rfl, rfl, rfl, rfl, rfl⟩ rfl rfl rfl rfl rfl (by kernel_rfl) Try.func5 (by kernel_rfl)
    (of_decide_eq_true (by kernel_rfl)) (by unfold Func.isWrapper; rw [if_neg (of_decide_eq_false (by kernel_rfl))]; exact ⟨rfl, rfl⟩)
    (fun os started H enc _ => trackInside_lifted os started H enc)
#print axioms trackInside_holds
end Go.Proofs.Yteoikaedpgianaa
