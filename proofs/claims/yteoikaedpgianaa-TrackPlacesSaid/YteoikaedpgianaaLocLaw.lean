/- TrackLocates: for whatever pose, scan and range the program's box is the reference's, and so is its error. Every input, no condition. -/
import Derived.Test.YteoikaedpgianaaRLoc
import Derived.Test.YteoikaedpgianaaLocArg
namespace Go.Proofs.Yteoikaedpgianaa
open Go.ChangeShapes Go.WideShapes Go.ChangeAt Go.RowKit Limb

theorem rlocate_ok (x0 x1 y0 y1 z0 z1 a b c d t e f g h r0 r1 : Int) (w : World) (hok : poseErr x0 x1 y0 y1 z0 z1 a b c d t e f g h r0 r1 = 0) :
    Calls Try.prog 50 #[.agg #[.int .i64 x0, .int .i64 x1, .int .i64 y0, .int .i64 y1, .int .i64 z0, .int .i64 z1, .int .i64 a, .int .i64 b, .int .i64 c, .int .i64 d, .int .i64 t], .agg #[.int .i64 e, .int .i64 f, .int .i64 g, .int .i64 h], .agg #[.int .i64 r0, .int .i64 r1]] w
      fun r w' => r = .returned (endsV x0 x1 y0 y1 z0 z1 a b c d t e f g h r0 r1) ∧ Below w.heap.size w w' := by
  obtain ⟨⟨hx, hx'⟩, ⟨hy, hy'⟩, ⟨hz, hz'⟩, ht, hr, hr', hp, hq⟩ := pose_ok hok
  obtain ⟨⟨p0, p1, p2, p3⟩, hn⟩ := turn_facts hp hq
  obtain ⟨b0, b1, b2⟩ := Quat.beam_bd (Quat.m0 a b c d e f g h) (Quat.m1 a b c d e f g h) (Quat.m2 a b c d e f g h) (Quat.m3 a b c d e f g h)
  have sx := span_in hx hx'
  have sy := span_in hy hy'
  have sz := span_in hz hz'
  have sr := span_in hr hr'
  have st : 0 ≤ t ∧ t ≤ 2147483648 := by simp [inB] at ht; omega
  have hu := wide_bd (t := t) (r := r1) st (by omega)
  have hB := bmV_of hn.1 (ok4_iff.2 ⟨p0, p1, p2, p3⟩)
  exact rlocate_walk x0 x1 y0 y1 z0 z1 a b c d t e f g h r0 r1 _ _ _ _ _ _ _ _ _ _ _ _ _ _ _ _ _ _ _ _ _ w hok
    (fun W => times_any a b c d e f g h W (fun i hi => by have := ok4_getD (turn_ok hp).1 i hi; omega) (fun i hi => by have := ok4_getD (turn_ok hq).1 i hi; omega))
    (fun W => by
      have h := rbeam_any (Quat.m0 a b c d e f g h) (Quat.m1 a b c d e f g h) (Quat.m2 a b c d e f g h) (Quat.m3 a b c d e f g h) W
      rw [hB] at h
      exact h)
    (fun W => up_any t r1 1000000 W (by omega) (by omega) (by decide) (by omega))
    (three3 (around_loc b0 (by omega) sx sr) (around_loc b1 (by omega) sy sr) (around_loc b2 (by omega) sz sr))
    (three3 ⟨rfl, rfl⟩ ⟨rfl, rfl⟩ ⟨rfl, rfl⟩)
    (three3 (al_be b0 (by omega) sx sr) (al_be b1 (by omega) sy sr) (al_be b2 (by omega) sz sr))
    (three3 b0 b1 b2) hn hu ⟨by omega, by omega⟩
    (three3 ⟨⟨sx.1, by show x0 ≤ _; omega⟩, ⟨by show _ ≤ x1; omega, sx.2.2⟩⟩ ⟨⟨sy.1, by show y0 ≤ _; omega⟩, ⟨by show _ ≤ y1; omega, sy.2.2⟩⟩ ⟨⟨sz.1, by show z0 ≤ _; omega⟩, ⟨by show _ ≤ z1; omega, sz.2.2⟩⟩)
theorem locRes_shape (o : Bool) (v0 v1 v2 v3 v4 v5 : Int) : ∃ s0 s1 s2 s3 s4 s5 z : Int, locRes o v0 v1 v2 v3 v4 v5 = .tuple #[.agg #[.int .i64 s0, .int .i64 s1, .int .i64 s2, .int .i64 s3, .int .i64 s4, .int .i64 s5], .int .i64 z] := by
  cases o
  · exact ⟨_, _, _, _, _, _, _, rfl⟩
  · exact ⟨_, _, _, _, _, _, _, rfl⟩
theorem locates_law (x0 x1 y0 y1 z0 z1 a b c d t e f g h r0 r1 : Int) (w : World) :
    Calls Try.prog 10 #[.agg #[.int .i64 x0, .int .i64 x1, .int .i64 y0, .int .i64 y1, .int .i64 z0, .int .i64 z1, .int .i64 a, .int .i64 b, .int .i64 c, .int .i64 d, .int .i64 t], .agg #[.int .i64 e, .int .i64 f, .int .i64 g, .int .i64 h], .agg #[.int .i64 r0, .int .i64 r1]] w
      fun r w' => r = .returned (.bool true) ∧ Below w.heap.size w w' := by
  by_cases hok : poseErr x0 x1 y0 y1 z0 z1 a b c d t e f g h r0 r1 = 0
  · obtain ⟨s0, s1, s2, s3, s4, s5, z, hs⟩ : ∃ s0 s1 s2 s3 s4 s5 z : Int, endsV x0 x1 y0 y1 z0 z1 a b c d t e f g h r0 r1 = .tuple #[.agg #[.int .i64 s0, .int .i64 s1, .int .i64 s2, .int .i64 s3, .int .i64 s4, .int .i64 s5], .int .i64 z] := locRes_shape _ _ _ _ _ _ _
    exact locates_walk x0 x1 y0 y1 z0 z1 a b c d t e f g h r0 r1 s0 s1 s2 s3 s4 s5 z w (fun W => by rw [← hs]; exact xlocate_ok _ _ _ _ _ _ _ _ _ _ _ _ _ _ _ _ _ W hok) (fun W => by rw [← hs]; exact rlocate_ok _ _ _ _ _ _ _ _ _ _ _ _ _ _ _ _ _ W hok)
  · exact locates_walk x0 x1 y0 y1 z0 z1 a b c d t e f g h r0 r1 0 0 0 0 0 0 _ w (fun W => xlocate_bad _ _ _ _ _ _ _ _ _ _ _ _ _ _ _ _ _ W hok) (fun W => rlocate_bad _ _ _ _ _ _ _ _ _ _ _ _ _ _ _ _ _ W hok)
theorem locates_args (W : World) (xs bs ms : List Int) (ha : xs.length = 11) (hb : bs.length = 4) (hm : ms.length = 2) :
    Calls Try.prog 10 #[.agg (xs.map (Value.int .i64)).toArray, .agg (bs.map (Value.int .i64)).toArray, .agg (ms.map (Value.int .i64)).toArray] W fun r w' => r = .returned (.bool true) ∧ Below W.heap.size W w' := by
  match xs, ha, bs, hb, ms, hm with
  | [x0, x1, y0, y1, z0, z1, a, b, c, d, t], _, [e, f, g, h], _, [r0, r1], _ => exact locates_law x0 x1 y0 y1 z0 z1 a b c d t e f g h r0 r1 W

set_option maxRecDepth 100000 in
theorem trackLocates_lifted (os : Os) (started : os.Started) (H : Type) (enc : TypeId × Value → H) :
    ReturnsInHanded {} Try.checked os 10 .any (Rows.trackLocatesSpec.pre6 enc Try.prog Try.f10 Rows.trackLocatesRow.domain false) (Rows.trackLocatesSpec.post enc Try.prog Try.f10 false true false false) := by
  refine law_lifted (C := Try.checked) (tb := 4) lawOwn started (by kernel_rfl) Try.func10 rfl ?_ (show Try.f10.resultTypes = #[4] by kernel_rfl) Try.underlying4 lawLaid ?_
    (ChangeSpec.witness6 (enc := enc) (C := Try.checked) false ⟨#[], #[.agg #[.int .i64 0, .int .i64 0, .int .i64 0, .int .i64 0, .int .i64 0, .int .i64 0, .int .i64 0, .int .i64 0, .int .i64 0, .int .i64 0, .int .i64 0], .agg #[.int .i64 0, .int .i64 0, .int .i64 0, .int .i64 0], .agg #[.int .i64 0, .int .i64 0]], []⟩ 8 (by kernel_rfl) (by kernel_rfl) (by kernel_rfl) (by kernel_rfl)) ?_
  · intro ds hds
    match ds, hds with
    | [d1, d2, d3], _ => exact ⟨rfl, rfl, rfl⟩
  · rw [Try.params10]
    intro t ht
    simp at ht
    rcases ht with rfl | rfl | rfl
    all_goals exact ⟨by kernel_rfl, of_decide_eq_true (by kernel_rfl)⟩
  · intro W base args ds p hval hA hlt _
    change DataW.TrodAll enc Try.prog W 0 (fun _ => true) true Try.f10.params.toList args.toList ds p at hA
    change ∀ (j : Nat) t v, Try.f10.params[j]? = some t → args[j]? = some v → Value.okWide Try.prog W .any base t v at hval
    rw [Try.params10] at hA hval
    obtain ⟨v0, vs0, d0, ds0, p0, q0, hargs, rfl, rfl, h0, r0⟩ := trodAll_cons hA
    obtain ⟨v1, vs1, d1, ds1, p1, q1, rfl, rfl, rfl, h1, r1⟩ := trodAll_cons r0
    obtain ⟨v2, vs2, d2, ds2, p2, q2, rfl, rfl, rfl, h2, r2⟩ := trodAll_cons r1
    obtain ⟨rfl, rfl, rfl⟩ := trodAll_nil r2
    obtain rfl : args = #[v0, v1, v2] := by cases args; simp_all
    obtain ⟨c0, e0, f0⟩ := open_flat lawFlat80 lawSize80 (by kernel_rfl) (hval 0 80 v0 rfl rfl) h0
    obtain ⟨c1, e1, f1⟩ := open_flat lawFlat22 lawSize22 (by kernel_rfl) (hval 1 22 v1 rfl rfl) h1
    obtain ⟨c2, e2, f2⟩ := open_flat lawFlat44 lawSize44 (by kernel_rfl) (hval 2 44 v2 rfl rfl) h2
    obtain ⟨xs, ha, rfl⟩ := lawCells f0
    obtain ⟨bs, hb, rfl⟩ := lawCells f1
    obtain ⟨ms, hm, rfl⟩ := lawCells f2
    subst e0
    subst e1
    subst e2
    exact locates_args W xs bs ms ha hb hm

/-- TrackLocates, whatever the input. -/
theorem trackLocates_holds : Rows.TrackLocatesSaid :=
  OpenClaim.holds_of_wide 10 Try.f10 rfl rfl rfl rfl rfl rfl rfl ⟨rfl, rfl, rfl, rfl, rfl⟩ rfl rfl rfl rfl rfl (by kernel_rfl) Try.func10 (by kernel_rfl)
    (of_decide_eq_true (by kernel_rfl)) (by unfold Func.isWrapper; rw [if_neg (of_decide_eq_false (by kernel_rfl))]; exact ⟨rfl, rfl⟩)
    (fun os started H enc _ => trackLocates_lifted os started H enc)
#print axioms trackLocates_holds
end Go.Proofs.Yteoikaedpgianaa
