/- TrackRules: for every record, rules and track the program's tests are the reference's. Every input, no condition. -/
import Derived.Test.YteoikaedpgianaaTrackAt
import Derived.Test.YteoikaedpgianaaOpenTrack
import Derived.Test.YteoikaedpgianaaLift
namespace Go.Proofs.Yteoikaedpgianaa
open Go.ChangeShapes Go.WideShapes Go.ChangeAt Go.RowKit

theorem cellsR {w : World} {b t : Nat} {fr : Nat × Nat} {C : Array Value} (h : w.heap[b]? = some (.cells C t fr)) (j : Nat) (v : Value) (hj : C[j]? = some v) (d : Nat) (os : Array Obj) : (Sort.grow (redrawn w d) os).cell? ⟨b, j, none⟩ = some v :=
  cell_regrown (by rw [cell_row h, hj]) d os

set_option maxRecDepth 100000 in
set_option maxHeartbeats 3200000 in
theorem rules_law (is : Bool) (t x y z e a b c d g s0 s1 s2 m0 m1 m2 m3 : Int) (ad : Option Addr) (n cp : Nat) (tb : Bool) (w : World)
    (h36 : ∀ W, Below w.heap.size w W → Calls Try.prog 36 #[.agg #[.slice ad n cp], .int .i64 40] W fun e w' => aBool e ∧ Below W.heap.size W w')
    (h43 : ∀ W, Below w.heap.size w W → Calls Try.prog 43 #[.agg #[.slice ad n cp], .agg #[.int .i64 m0, .int .i64 m1, .int .i64 m2, .int .i64 m3]] W fun e w' => e = .returned (.bool tb) ∧ Below W.heap.size W w')
    (h44 : ∀ W, Below w.heap.size w W → Calls Try.prog 44 #[.agg #[.slice ad n cp], .agg #[.int .i64 m0, .int .i64 m1, .int .i64 m2, .int .i64 m3]] W fun e w' => e = .returned (.bool tb) ∧ Below W.heap.size W w') :
    Calls Try.prog 7 #[.agg #[.bool is, .int .i64 t, .int .i64 x, .int .i64 y, .int .i64 z, .int .i64 e, .int .i64 a, .int .i64 b, .int .i64 c, .int .i64 d, .int .i64 g, .int .i64 s0, .int .i64 s1, .int .i64 s2],
        .agg #[.int .i64 m0, .int .i64 m1, .int .i64 m2, .int .i64 m3], .agg #[.slice ad n cp]] w
      fun r w' => r = .returned (.bool true) ∧ Below w.heap.size w w' := by
  have C37 := fun W => xFix_any t x y z e a b c d g W
  have C38 := fun W => rFix_any t x y z e a b c d g W
  have C39 := fun W => xSync_any s0 s1 s2 W
  have C40 := fun W => rSync_any s0 s1 s2 W
  have C41 := fun W => xRules_any m0 m1 m2 m3 W
  have C42 := fun W => rRules_any m0 m1 m2 m3 W
  generalize fixB t x y z e a b c d g = v1 at C37 C38
  generalize syncB s0 s1 s2 = v2 at C39 C40
  generalize rulesB m0 m1 m2 m3 = v3 at C41 C42
  have H36 := hid h36
  have H43 := hid h43
  have H44 := hid h44
  have H37 := hid C37
  have H38 := hid C38
  have H39 := hid C39
  have H40 := hid C40
  have H41 := hid C41
  have H42 := hid C42
  clear h36 h43 h44 C37 C38 C39 C40 C41 C42
  go_enter Try.func7, Try.ntmps7
  go_wp2_with fail
  refine (H36.out _ (by (repeat' (first | (with_reducible exact Below.refl _ _) | (with_reducible assumption) | (with_reducible refine Below.alloc ?_ ?_ _) | (with_reducible refine Below.drew ?_) | (with_reducible refine below_drewN ?_ _) | (with_reducible refine Below.setCell ?_ ?_ _) | (with_reducible refine below_setRow ?_ ?_ _) | go_size)))).mono ?_
  rintro r w1 ⟨⟨bx, rfl⟩, hb⟩
  have HB1 := hid ((by refine Below.trans ?_ (hb.mono ?_); (focus ((repeat' (first | (with_reducible exact Below.refl _ _) | (with_reducible assumption) | (with_reducible refine Below.alloc ?_ ?_ _) | (with_reducible refine Below.drew ?_) | (with_reducible refine below_drewN ?_ _) | (with_reducible refine Below.setCell ?_ ?_ _) | (with_reducible refine below_setRow ?_ ?_ _) | go_size)); done)); (focus (first | (simp; done) | (simp; omega)))) : Below w.heap.size w w1)
  have f3 := hid (heap_still hb (by repeat' (first | (refine heap_alloc_at _ _ _ ?_; (first | rfl | (simp; done) | (simp; omega))) | (refine heap_alloc_past _ _ _ _ ?_))) : w1.heap[w.heap.size]? = some (.cells #[.bool is, .int .i64 t, .int .i64 x, .int .i64 y, .int .i64 z, .int .i64 e, .int .i64 a, .int .i64 b, .int .i64 c, .int .i64 d, .int .i64 g, .int .i64 s0, .int .i64 s1, .int .i64 s2] 59))
  have f4 := hid (heap_still hb (by repeat' (first | (refine heap_alloc_at _ _ _ ?_; (first | rfl | (simp; done) | (simp; omega))) | (refine heap_alloc_past _ _ _ _ ?_))) : w1.heap[w.heap.size + 1]? = some (.cells #[.int .i64 m0, .int .i64 m1, .int .i64 m2, .int .i64 m3] 61))
  have f5 := hid (heap_still hb (by repeat' (first | (refine heap_alloc_at _ _ _ ?_; (first | rfl | (simp; done) | (simp; omega))) | (refine heap_alloc_past _ _ _ _ ?_))) : w1.heap[w.heap.size + 1 + 1]? = some (.cells #[.slice ad n cp] 64))
  clear hb
  cases bx
  · have hbg : ∀ d os, Below w.heap.size w (Sort.grow (redrawn w1 d) os) := fun d os => HB1.out.trans ((below_regrown w1 d os).mono HB1.out.size)
    have K43 := hid (fun d os => H43.out _ (hbg d os))
    have K44 := hid (fun d os => H44.out _ (hbg d os))
    clear hbg
    go_wp2_with fail
    have k3a := cellsR f3.out 0 _ rfl
    have k3b := cellsR f3.out 1 _ rfl
    have k3c := cellsR f3.out 2 _ rfl
    have k3d := cellsR f3.out 3 _ rfl
    have k3e := cellsR f3.out 4 _ rfl
    have k3f := cellsR f3.out 5 _ rfl
    have k3g := cellsR f3.out 6 _ rfl
    have k3h := cellsR f3.out 7 _ rfl
    have k3i := cellsR f3.out 8 _ rfl
    have k3j := cellsR f3.out 9 _ rfl
    have k3k := cellsR f3.out 10 _ rfl
    have k3l := cellsR f3.out 11 _ rfl
    have k3m := cellsR f3.out 12 _ rfl
    have k3n := cellsR f3.out 13 _ rfl
    have k4a := cellsR f4.out 0 _ rfl
    have k4b := cellsR f4.out 1 _ rfl
    have k4c := cellsR f4.out 2 _ rfl
    have k4d := cellsR f4.out 3 _ rfl
    have k5a := cellsR f5.out 0 _ rfl
    refine wp_region_quiet_below (by kernel_rfl) (by kernel_rfl) ?_
    repeat (first | go_big_quiet_step (first | (go_at_call 37; exact Calls.regrown_of (H37.out _)) | (go_at_call 38; exact Calls.regrown_of (H38.out _)) | (go_at_call 39; exact Calls.regrown_of (H39.out _)) | (go_at_call 40; exact Calls.regrown_of (H40.out _)) | (go_at_call 41; exact Calls.regrown_of (H41.out _)) | (go_at_call 42; exact Calls.regrown_of (H42.out _)) | (go_at_call 43; exact Calls.regrown_of (K43.out _ _)) | (go_at_call 44; exact Calls.regrown_of (K44.out _ _)) | (go_at_call 24; exact Calls.regrown_of (awake_any _))) | quiet_step (first | (go_at_call 37; exact Calls.regrown_of (H37.out _)) | (go_at_call 38; exact Calls.regrown_of (H38.out _)) | (go_at_call 39; exact Calls.regrown_of (H39.out _)) | (go_at_call 40; exact Calls.regrown_of (H40.out _)) | (go_at_call 41; exact Calls.regrown_of (H41.out _)) | (go_at_call 42; exact Calls.regrown_of (H42.out _)) | (go_at_call 43; exact Calls.regrown_of (K43.out _ _)) | (go_at_call 44; exact Calls.regrown_of (K44.out _ _)) | (go_at_call 24; exact Calls.regrown_of (awake_any _))))
    refine wpQuiet_nil ?_
    intro _ hw'
    obtain ⟨⟨dq, osq⟩, hw''⟩ := hw'
    subst hw''
    go_wp2
    go_ret
    exact ⟨rfl, HB1.out.trans ((below_regrown w1 dq osq).mono HB1.out.size)⟩
  · go_wp2_with fail
    refine (awake_any _).mono ?_
    rintro r w3 ⟨rfl, hb3⟩
    go_wp2_with fail
    go_ret
    exact ⟨rfl, HB1.out.trans (hb3.mono HB1.out.size)⟩

theorem size59 : (Try.prog.info? 59).map (·.size) = some 14 := by kernel_rfl
theorem flat59 : flatOf Try.prog 10 59 = some (none :: List.replicate 13 (some .i64)) := by kernel_rfl
theorem flat61 : flatOf Try.prog 10 61 = some (List.replicate 4 (some .i64)) := by kernel_rfl
theorem own : ownKnob Try.prog.godebug = none := by kernel_rfl
theorem laid : laidOutB Try.prog = true := by kernel_rfl
theorem cells_all : ∀ {n : Nat} {cs : List Value}, fitsW (List.replicate n (some .i64)) cs → ∃ zs : List Int, zs.length = n ∧ cs = zs.map (Value.int .i64)
  | 0, cs, h => ⟨[], rfl, fits_nil h⟩
  | n + 1, cs, h => by
    obtain ⟨z, vs, rfl, _, h2⟩ := fits_int (show fitsW (some .i64 :: List.replicate n (some .i64)) cs from h)
    obtain ⟨zs, hl, rfl⟩ := cells_all h2
    exact ⟨z :: zs, by simp [hl], rfl⟩

set_option maxRecDepth 100000 in
theorem rules_args (W : World) (v0 v1 v2 : Value) (ad : Option Addr) (n c : Nat) (h0 : ∃ (is : Bool) (zs : List Int), zs.length = 13 ∧ v0 = .agg (.bool is :: zs.map (Value.int .i64)).toArray) (h1 : ∃ zs : List Int, zs.length = 4 ∧ v1 = .agg (zs.map (Value.int .i64)).toArray)
    (h2 : v2 = .agg #[.slice ad n c]) (hn : n ≤ maxLen) (ht : n = 0 ∨ ∃ (b off : Nat) (A : Nat → Option Addr) (L C : Nat → Nat) (F : Nat → Nat → Nat → Int), ad = some ⟨b, off, none⟩ ∧ b < W.heap.size ∧ (∀ p, L p ≤ maxLen) ∧ trackAt W b off n A L C F) :
    Calls Try.prog 7 #[v0, v1, v2] W fun r w' => r = .returned (.bool true) ∧ Below W.heap.size W w' := by
  obtain ⟨is, zs, hz, rfl⟩ := h0
  obtain ⟨ms, hm, rfl⟩ := h1
  subst h2
  match zs, hz, ms, hm with
  | [t, x, y, z, e, a, b, cc, d, g, s0, s1, s2], _, [m0, m1, m2, m3], _ =>
    rcases ht with rfl | ⟨bk, off, A, L, C, F, rfl, hb, hL, ht⟩
    · exact rules_law is t x y z e a b cc d g s0 s1 s2 m0 m1 m2 m3 ad 0 c _ W (fun W' _ => many_none _ _ _ W') (fun W' _ => xTrack_none _ _ _ _ _ _ W') (fun W' _ => rTrack_none _ _ _ _ _ _ W')
    · have hk : maxLen ≤ 9223372036854775807 := by decide
      have hst : ∀ W', Below W.heap.size W W' → trackAt W' bk off n A L C F := fun W' h p hp => by
        obtain ⟨g1, g2⟩ := ht p hp
        refine ⟨by rw [h.cell hb]; exact g1, fun hl => ?_⟩
        obtain ⟨b', o', q1, q2, q3⟩ := g2 hl
        exact ⟨b', o', q1, Nat.lt_of_lt_of_le q2 h.size, q3.still h q2⟩
      have hb' : ∀ W', Below W.heap.size W W' → bk < W'.heap.size := fun W' h => Nat.lt_of_lt_of_le hb h.size
      exact rules_law is t x y z e a b cc d g s0 s1 s2 m0 m1 m2 m3 _ n c _ W (fun W' h => many_at bk off n c A L C F 40 W' (hb' W' h) (by omega) (hst W' h))
        (fun W' h => xTrack_at bk off n c A L C F m0 m1 m2 m3 W' (hb' W' h) (by omega) (fun p => Nat.le_trans (hL p) hk) (hst W' h))
        (fun W' h => rTrack_at bk off n c A L C F m0 m1 m2 m3 W' (hb' W' h) (by omega) (fun p => Nat.le_trans (hL p) hk) (hst W' h))

set_option maxRecDepth 100000 in
theorem trackRules_lifted (os : Os) (started : os.Started) (H : Type) (enc : TypeId × Value → H) :
    ReturnsInHanded {} Try.checked os 7 .any (Rows.trackRulesSpec.pre6 enc Try.prog Try.f7 Rows.trackRulesRow.domain false) (Rows.trackRulesSpec.post enc Try.prog Try.f7 false true false false) := by
  refine law_lifted (C := Try.checked) (tb := 4) own started (by kernel_rfl) Try.func7 rfl ?_ (show Try.f7.resultTypes = #[4] by kernel_rfl) Try.underlying4 laid ?_
    (ChangeSpec.witness6 (enc := enc) (C := Try.checked) false ⟨#[], #[.agg #[.bool false, .int .i64 0, .int .i64 0, .int .i64 0, .int .i64 0, .int .i64 0, .int .i64 0, .int .i64 0, .int .i64 0, .int .i64 0, .int .i64 0, .int .i64 0, .int .i64 0, .int .i64 0], .agg #[.int .i64 0, .int .i64 0, .int .i64 0, .int .i64 0], .agg #[.slice none 0 0]], []⟩ 8 (by kernel_rfl) (by kernel_rfl) (by kernel_rfl) (by kernel_rfl)) ?_
  · intro ds hds
    match ds, hds with
    | [d1, d2, d3], _ => exact ⟨rfl, rfl, rfl⟩
  · rw [Try.params7]
    intro t ht
    simp at ht
    rcases ht with rfl | rfl | rfl
    all_goals exact ⟨by kernel_rfl, of_decide_eq_true (by kernel_rfl)⟩
  · intro W base args ds p hval hA hlt _
    change DataW.TrodAll enc Try.prog W 0 (fun _ => true) true Try.f7.params.toList args.toList ds p at hA
    change ∀ (j : Nat) t v, Try.f7.params[j]? = some t → args[j]? = some v → Value.okWide Try.prog W .any base t v at hval
    rw [Try.params7] at hA hval
    obtain ⟨v0, vs0, d0, ds0, p0, q0, hargs, rfl, rfl, h0, r0⟩ := trodAll_cons hA
    obtain ⟨v1, vs1, d1, ds1, p1, q1, rfl, rfl, rfl, h1, r1⟩ := trodAll_cons r0
    obtain ⟨v2, vs2, d2, ds2, p2, q2, rfl, rfl, rfl, h2, r2⟩ := trodAll_cons r1
    obtain ⟨rfl, rfl, rfl⟩ := trodAll_nil r2
    obtain rfl : args = #[v0, v1, v2] := by cases args; simp_all
    obtain ⟨c0, e0, f0⟩ := open_flat flat59 size59 (by kernel_rfl) (hval 0 59 v0 rfl rfl) h0
    obtain ⟨c1, e1, f1⟩ := open_flat flat61 size61 (by kernel_rfl) (hval 1 61 v1 rfl rfl) h1
    obtain ⟨ad, n, c, e2, hn, ht⟩ := open_track (hval 2 64 v2 rfl rfl) h2
    obtain ⟨is, us, rfl, f0'⟩ := fits_bool f0
    obtain ⟨zs, hz, rfl⟩ := cells_all f0'
    obtain ⟨ms, hm, rfl⟩ := cells_all f1
    exact rules_args W v0 v1 v2 ad n c ⟨is, zs, hz, e0⟩ ⟨ms, hm, e1⟩ e2 hn ht

/-- TrackRules, whatever the input. -/
theorem trackRules_holds : Rows.TrackRulesSaid :=
  OpenClaim.holds_of_wide 7 Try.f7 rfl rfl rfl rfl rfl rfl rfl ⟨rfl, rfl, rfl, rfl, rfl⟩ rfl rfl rfl rfl rfl (by kernel_rfl) Try.func7 (by kernel_rfl)
    (of_decide_eq_true (by kernel_rfl)) (by unfold Func.isWrapper; rw [if_neg (of_decide_eq_false (by kernel_rfl))]; exact ⟨rfl, rfl⟩)
    (fun os started H enc _ => trackRules_lifted os started H enc)
#print axioms trackRules_holds
end Go.Proofs.Yteoikaedpgianaa
