/- TrackTimes: for every row of at most 40 clocks and every time the program's NavTime is the reference's; for more than 40 the law answers by itself. Every input, no condition. -/
import Derived.Test.YteoikaedpgianaaNav
import Derived.Test.YteoikaedpgianaaLift
namespace Go.Proofs.Yteoikaedpgianaa
open Go.ChangeShapes Go.WideShapes Go.ChangeAt Go.RowKit

set_option maxRecDepth 100000 in
theorem times_law (a : Option Addr) (n c : Nat) (scan : Int) (x : Int × Int × Int) (w : World)
    (h34 : n ≤ 40 → ∀ W, Below w.heap.size w W → Calls Try.prog 34 #[.slice a n c, .int .i64 scan] W fun e w' => e = .returned (nav3 x) ∧ Below W.heap.size W w')
    (h35 : n ≤ 40 → ∀ W, Below w.heap.size w W → Calls Try.prog 35 #[.slice a n c, .int .i64 scan] W fun e w' => e = .returned (nav3 x) ∧ Below W.heap.size W w') :
    Calls Try.prog 6 #[.slice a n c, .int .i64 scan] w fun r w' => r = .returned (.bool true) ∧ Below w.heap.size w w' := by
  by_cases hn : n ≤ 40
  · have k34 : ∀ W, Below w.heap.size w W → Calls Try.prog 34 #[.slice a n c, .int .i64 scan] W fun e w' => e = .returned (.tuple #[.agg #[.int .i64 x.1, .int .i64 x.2.1], .int .i64 x.2.2]) ∧ Below W.heap.size W w' := h34 hn
    have H34 := hid k34
    clear k34
    have k35 : ∀ W, Below w.heap.size w W → Calls Try.prog 35 #[.slice a n c, .int .i64 scan] W fun e w' => e = .returned (.tuple #[.agg #[.int .i64 x.1, .int .i64 x.2.1], .int .i64 x.2.2]) ∧ Below W.heap.size W w' := h35 hn
    have H35 := hid k35
    clear k35
    clear h34 h35
    obtain ⟨lo, hi, er⟩ := x
    dsimp only at H34 H35
    have q1 := eq44 lo hi lo hi
    rw [beq_self_eq_true] at q1
    go_enter Try.func6, Try.ntmps6
    go_wp2_with fail
    refine (H34.out _ (by (repeat' (first | (with_reducible exact Below.refl _ _) | (with_reducible assumption) | (with_reducible refine Below.alloc ?_ ?_ _) | (with_reducible refine Below.drew ?_) | (with_reducible refine below_drewN ?_ _) | (with_reducible refine Below.setCell ?_ ?_ _) | (with_reducible refine below_setRow ?_ ?_ _) | go_size)))).mono ?_
    rintro r w1 ⟨rfl, hb⟩
    have hz1 := hb.size
    have HB := hid hb
    go_wp2_with fail
    refine (H35.out _ (by (repeat' (first | (with_reducible exact Below.refl _ _) | (with_reducible assumption) | (with_reducible refine Below.alloc ?_ ?_ _) | (with_reducible refine Below.drew ?_) | (with_reducible refine below_drewN ?_ _) | (with_reducible refine Below.setCell ?_ ?_ _) | (with_reducible refine below_setRow ?_ ?_ _) | go_size)))).mono ?_
    rintro r w2 ⟨rfl, hb2⟩
    have HB2 := hid ((by refine Below.trans ?_ (hb2.mono ?_); (focus ((repeat' (first | (with_reducible exact Below.refl _ _) | (with_reducible assumption) | (with_reducible refine Below.alloc ?_ ?_ _) | (with_reducible refine Below.drew ?_) | (with_reducible refine below_drewN ?_ _) | (with_reducible refine Below.setCell ?_ ?_ _) | (with_reducible refine below_setRow ?_ ?_ _) | go_size)); done)); (focus (first | (simp; done) | (simp; omega)))) : Below w.heap.size w w2)
    have G1 := hid (heap_still hb2 (heap_alloc_at _ _ _ rfl) : w2.heap[w1.heap.size]? = some (.cells #[.int .i64 lo, .int .i64 hi] 44))
    have hz2 := hb2.size
    simp at hz2
    clear hb hb2
    have g1 : w2.cell? ⟨w1.heap.size, 0, none⟩ = some (.int .i64 lo) := (cell_row (j := 0) G1.out).trans rfl
    have g2 : w2.cell? ⟨w1.heap.size, 1, none⟩ = some (.int .i64 hi) := (cell_row (j := 1) G1.out).trans rfl
    have hz3 : w1.heap.size < w2.heap.size := by omega
    have hz4 : w.heap.size ≤ w2.heap.size := HB2.out.size
    go_wp2_with fail
    refine (awake_any _).mono ?_
    rintro r w3 ⟨rfl, hb3⟩
    go_wp2_with fail
    go_ret
    exact ⟨rfl, (HB2.out.alloc HB2.out.size _).trans (hb3.mono (by simp; omega))⟩
  · clear h34 h35
    go_enter Try.func6, Try.ntmps6
    go_wp2_with fail
    refine (awake_any _).mono ?_
    rintro r w3 ⟨rfl, hb3⟩
    go_wp2_with fail
    go_ret
    exact ⟨rfl, hb3⟩

theorem own : ownKnob Try.prog.godebug = none := by kernel_rfl
theorem laid : laidOutB Try.prog = true := by kernel_rfl

set_option maxRecDepth 100000 in
theorem trackTimes_lifted (os : Os) (started : os.Started) (H : Type) (enc : TypeId × Value → H) :
    ReturnsInHanded {} Try.checked os 6 .any (Rows.trackTimesSpec.pre6 enc Try.prog Try.f6 Rows.trackTimesRow.domain false) (Rows.trackTimesSpec.post enc Try.prog Try.f6 false true false false) := by
  refine law_lifted (C := Try.checked) (tb := 4) own started (by kernel_rfl) Try.func6 rfl ?_ (show Try.f6.resultTypes = #[4] by kernel_rfl) Try.underlying4 laid ?_
    (ChangeSpec.witness6 (enc := enc) (C := Try.checked) false ⟨#[], #[.slice none 0 0, .int .i64 0], []⟩ 8 (by kernel_rfl) (by kernel_rfl) (by kernel_rfl) (by kernel_rfl)) ?_
  · intro ds hds
    match ds, hds with
    | [d1, d2], _ => exact ⟨rfl, rfl, rfl⟩
  · rw [Try.params6]
    intro t ht
    simp at ht
    rcases ht with rfl | rfl
    all_goals exact ⟨by kernel_rfl, of_decide_eq_true (by kernel_rfl)⟩
  · intro W base args ds p hval hA hlt _
    change DataW.TrodAll enc Try.prog W 0 (fun _ => true) true Try.f6.params.toList args.toList ds p at hA
    change ∀ (j : Nat) t v, Try.f6.params[j]? = some t → args[j]? = some v → Value.okWide Try.prog W .any base t v at hval
    rw [Try.params6] at hA hval
    obtain ⟨v0, vs0, d0, ds0, p0, q0, hargs, rfl, rfl, h0, r0⟩ := trodAll_cons hA
    obtain ⟨v1, vs1, d1, ds1, p1, q1, rfl, rfl, rfl, h1, r1⟩ := trodAll_cons r0
    obtain ⟨rfl, rfl, rfl⟩ := trodAll_nil r1
    obtain rfl : args = #[v0, v1] := by cases args; simp_all
    obtain ⟨scan, rfl⟩ := okWide_int Try.underlying3 (hval 1 3 v1 rfl rfl)
    rcases open_rows Try.underlying50 flat99 size99 (by decide) (hval 0 50 v0 rfl rfl) h0 with rfl | ⟨a, c, rfl⟩ | ⟨b, off, n, c, rfl, hn, hc, hm, hr⟩
    · exact times_law none 0 0 scan _ W (fun _ W' _ => nav_none scan none 0 W') (fun _ W' _ => rnav_none scan none 0 W')
    · exact times_law (some a) 0 c scan _ W (fun _ W' _ => nav_none scan _ c W') (fun _ W' _ => rnav_none scan _ c W')
    · obtain ⟨f, lo, hi, hr⟩ := rows3 hr
      have hbw := cell_lt (hr 0 hn).1
      exact times_law _ n c scan (navV f lo hi n scan) W (fun h40 W' hb => nav_any scan b off n c f lo hi W' hn h40 (Nat.lt_of_lt_of_le hbw hb.size) (hr.still hb hbw))
        (fun h40 W' hb => rnav_any scan b off n c f lo hi W' hn h40 (Nat.lt_of_lt_of_le hbw hb.size) (hr.still hb hbw))

/-- TrackTimes, whatever the input. -/
theorem trackTimes_holds : Rows.TrackTimesSaid :=
  OpenClaim.holds_of_wide 6 Try.f6 rfl rfl rfl rfl rfl rfl rfl ⟨rfl, rfl, rfl, rfl, rfl⟩ rfl rfl rfl rfl rfl (by kernel_rfl) Try.func6 (by kernel_rfl)
    (of_decide_eq_true (by kernel_rfl)) (by unfold Func.isWrapper; rw [if_neg (of_decide_eq_false (by kernel_rfl))]; exact ⟨rfl, rfl⟩)
    (fun os started H enc _ => trackTimes_lifted os started H enc)
#print axioms trackTimes_holds
end Go.Proofs.Yteoikaedpgianaa
