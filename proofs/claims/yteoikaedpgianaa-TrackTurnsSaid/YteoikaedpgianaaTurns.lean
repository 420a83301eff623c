/- TrackTurns: for every two quaternions the program's product and beam are the reference's; the law returns true and its arguments read as they did. Every input, no condition. -/
import Derived.Test.YteoikaedpgianaaBeam
import Derived.Test.YteoikaedpgianaaLift
import Derived.Test.YteoikaedpgianaaOpen
namespace Go.Proofs.Yteoikaedpgianaa
open Go.ChangeShapes Go.WideShapes Go.ChangeAt Go.RowKit

theorem prV_shape (a b c d e f g h : Int) : ∃ x0 x1 x2 x3 z, prV a b c d e f g h = .tuple #[.agg #[.int .i64 x0, .int .i64 x1, .int .i64 x2, .int .i64 x3], .int .i64 z] := ⟨_, _, _, _, _, rfl⟩
theorem bmV_shape (a b c d : Int) : ∃ x0 x1 x2 n z, bmV a b c d = .tuple #[.agg #[.int .i64 x0, .int .i64 x1, .int .i64 x2], .int .i64 n, .int .i64 z] := by
  by_cases k : turnB 4000000 a b c d = true
  · exact ⟨_, _, _, _, _, bmV_yes k⟩
  · exact ⟨_, _, _, _, _, bmV_no (Bool.eq_false_iff.2 k)⟩

set_option maxRecDepth 100000 in
set_option maxHeartbeats 800000 in
theorem turns_law (a b c d e f g h : Int) (w : World) :
    Calls Try.prog 3 #[.agg #[.int .i64 a, .int .i64 b, .int .i64 c, .int .i64 d], .agg #[.int .i64 e, .int .i64 f, .int .i64 g, .int .i64 h]] w
      fun r w' => r = .returned (.bool true) ∧ Below w.heap.size w w' := by
  obtain ⟨x0, x1, x2, x3, z, hv⟩ := prV_shape a b c d e f g h
  obtain ⟨y0, y1, y2, n, z', hu⟩ := bmV_shape e f g h
  have HV := hid hv
  have HU := hid hu
  have q1 := eq22 x0 x1 x2 x3 x0 x1 x2 x3
  have q2 := eq26 y0 y1 y2 y0 y1 y2
  rw [beq_self_eq_true] at q1 q2
  clear hv hu
  go_enter Try.func3, Try.ntmps3
  go_wp2_with fail
  refine (product_any _ _ _ _ _ _ _ _ _).mono ?_
  rintro r w1 ⟨rfl, hb⟩
  rw [HV.out]
  have G2 := hid (heap_below hb (by first | (simp; done) | (simp; omega)) (by repeat' (first | (refine heap_alloc_at _ _ _ ?_; (first | rfl | (simp; done) | (simp; omega))) | (refine heap_alloc_past _ _ _ _ ?_))) : w1.heap[w.heap.size]? = some (row4 a b c d))
  have G3 := hid (heap_below hb (by first | (simp; done) | (simp; omega)) (by repeat' (first | (refine heap_alloc_at _ _ _ ?_; (first | rfl | (simp; done) | (simp; omega))) | (refine heap_alloc_past _ _ _ _ ?_))) : w1.heap[w.heap.size + 1]? = some (row4 e f g h))
  have HB := hid ((by refine Below.trans ?_ (hb.mono ?_); (focus ((repeat' (first | (with_reducible exact Below.refl _ _) | (with_reducible assumption) | (with_reducible refine Below.alloc ?_ ?_ _) | (with_reducible refine Below.drew ?_) | (with_reducible refine below_drewN ?_ _) | (with_reducible refine Below.setCell ?_ ?_ _) | (with_reducible refine below_setRow ?_ ?_ _) | go_size)); done)); (focus (first | (simp; done) | (simp; omega)))) : Below w.heap.size w w1)
  clear hb
  go_wp2_with (first | (refine wpList_load_at rfl 22 (.tmp 2) rfl rfl (heap_alloc_past _ _ _ _ G2.out) Try.underlying22 rfl size22 rfl ?_) | (refine wpList_load_at rfl 22 (.tmp 3) rfl rfl (heap_alloc_past _ _ _ _ G3.out) Try.underlying22 rfl size22 rfl ?_))
  refine (rproduct_any _ _ _ _ _ _ _ _ _).mono ?_
  rintro r w2 ⟨rfl, hb⟩
  rw [HV.out]
  have G3' := hid (heap_still hb (heap_alloc_past _ _ _ _ G3.out))
  have G5 := hid (heap_still hb (heap_alloc_at _ _ _ rfl) : w2.heap[w1.heap.size]? = some (row4 x0 x1 x2 x3))
  have HB2 := hid ((HB.out.alloc HB.out.size _).trans (hb.mono (show w.heap.size ≤ _ by have := HB.out.size; simp; omega)))
  clear hb
  go_wp2_with (first | (refine wpList_load_at rfl 22 (.tmp 3) rfl rfl (heap_alloc_past _ _ _ _ G3'.out) Try.underlying22 rfl size22 rfl ?_))
  refine (xbeam_any _ _ _ _ _).mono ?_
  rintro r w3 ⟨rfl, hb⟩
  rw [HU.out]
  have G3'' := hid (heap_still hb (heap_alloc_past _ _ _ _ G3'.out))
  have G5' := hid (heap_still hb (heap_alloc_past _ _ _ _ G5.out))
  have G7 := hid (heap_still hb (heap_alloc_at _ _ _ rfl) : w3.heap[w2.heap.size]? = some (row4 x0 x1 x2 x3))
  have HB3 := hid ((HB2.out.alloc HB2.out.size _).trans (hb.mono (show w.heap.size ≤ _ by have := HB2.out.size; simp; omega)))
  clear hb
  go_wp2_with (first | (refine wpList_load_at rfl 22 (.tmp 3) rfl rfl (heap_alloc_past _ _ _ _ G3''.out) Try.underlying22 rfl size22 rfl ?_))
  refine (rbeam_any _ _ _ _ _).mono ?_
  rintro r w4 ⟨rfl, hb⟩
  rw [HU.out]
  have G5'' := hid (heap_still hb (heap_alloc_past _ _ _ _ G5'.out))
  have G7' := hid (heap_still hb (heap_alloc_past _ _ _ _ G7.out))
  have G9 := hid (heap_still hb (heap_alloc_at _ _ _ rfl) : w4.heap[w3.heap.size]? = some (.cells #[.int .i64 y0, .int .i64 y1, .int .i64 y2] 26))
  have HB4 := hid ((HB3.out.alloc HB3.out.size _).trans (hb.mono (show w.heap.size ≤ _ by have := HB3.out.size; simp; omega)))
  clear hb
  go_wp2_with (first | (refine wpList_load_at rfl 22 (.tmp 5) rfl rfl (heap_alloc_past _ _ _ _ G5''.out) Try.underlying22 rfl size22 rfl ?_) | (refine wpList_load_at rfl 22 (.tmp 7) rfl rfl (heap_alloc_past _ _ _ _ G7'.out) Try.underlying22 rfl size22 rfl ?_) | (refine wpList_load_at rfl 26 (.tmp 9) rfl rfl (heap_alloc_past _ _ _ _ G9.out) Try.underlying26 rfl size26 rfl ?_))
  refine (awake_any _).mono ?_
  rintro r w5 ⟨rfl, hb⟩
  go_wp2_with fail
  go_ret
  exact ⟨rfl, (HB4.out.alloc HB4.out.size _).trans (hb.mono (show w.heap.size ≤ _ by have := HB4.out.size; simp; omega))⟩


theorem own : ownKnob Try.prog.godebug = none := by kernel_rfl
theorem laid : laidOutB Try.prog = true := by kernel_rfl

set_option maxRecDepth 100000 in
theorem trackTurns_lifted (os : Os) (started : os.Started) (H : Type) (enc : TypeId × Value → H) :
    ReturnsInHanded {} Try.checked os 3 .any (Rows.trackTurnsSpec.pre6 enc Try.prog Try.f3 Rows.trackTurnsRow.domain false) (Rows.trackTurnsSpec.post enc Try.prog Try.f3 false true false false) := by
  refine law_lifted (C := Try.checked) (tb := 4) own started (by kernel_rfl) Try.func3 rfl ?_ (show Try.f3.resultTypes = #[4] by kernel_rfl) Try.underlying4 laid ?_
    (ChangeSpec.witness6 (enc := enc) (C := Try.checked) false ⟨#[], #[.agg #[.int .i64 0, .int .i64 0, .int .i64 0, .int .i64 0], .agg #[.int .i64 0, .int .i64 0, .int .i64 0, .int .i64 0]], []⟩ 8 (by kernel_rfl) (by kernel_rfl) (by kernel_rfl) (by kernel_rfl)) ?_
  · intro ds hds
    match ds, hds with
    | [d1, d2], _ => exact ⟨rfl, rfl, rfl⟩
  · rw [Try.params3]
    intro t ht
    simp at ht
    subst ht
    exact ⟨by kernel_rfl, of_decide_eq_true (by kernel_rfl)⟩
  · intro W base args ds p hval hA hlt _
    change DataW.TrodAll enc Try.prog W 0 (fun _ => true) true Try.f3.params.toList args.toList ds p at hA
    change ∀ (j : Nat) t v, Try.f3.params[j]? = some t → args[j]? = some v → Value.okWide Try.prog W .any base t v at hval
    rw [Try.params3] at hA hval
    obtain ⟨v0, vs0, d0, ds0, p0, q0, hargs, rfl, rfl, h0, r0⟩ := trodAll_cons hA
    obtain ⟨v1, vs1, d1, ds1, p1, q1, rfl, rfl, rfl, h1, r1⟩ := trodAll_cons r0
    obtain ⟨rfl, rfl, rfl⟩ := trodAll_nil r1
    obtain rfl : args = #[v0, v1] := by cases args; simp_all
    obtain ⟨c0, rfl, f0⟩ := open_flat flat22 size22 (by kernel_rfl) (hval 0 22 v0 rfl rfl) h0
    obtain ⟨c1, rfl, f1⟩ := open_flat flat22 size22 (by kernel_rfl) (hval 1 22 v1 rfl rfl) h1
    obtain ⟨a, b, c, d, rfl, _⟩ := fits4 f0
    obtain ⟨e, f, g, h, rfl, _⟩ := fits4 f1
    exact turns_law a b c d e f g h W

/-- TrackTurns, whatever the input. -/
theorem trackTurns_holds : Rows.TrackTurnsSaid :=
  OpenClaim.holds_of_wide 3 Try.f3 rfl rfl rfl rfl rfl rfl rfl ⟨rfl, rfl, rfl, rfl, rfl⟩ rfl rfl rfl rfl rfl (by kernel_rfl) Try.func3 (by kernel_rfl)
    (of_decide_eq_true (by kernel_rfl)) (by unfold Func.isWrapper; rw [if_neg (of_decide_eq_false (by kernel_rfl))]; exact ⟨rfl, rfl⟩)
    (fun os started H enc _ => trackTurns_lifted os started H enc)
#print axioms trackTurns_holds
end Go.Proofs.Yteoikaedpgianaa
