/- TrackNears: for any two fixes and rules the program's Near is the reference's, in both orders of the fixes. Every input, no condition. -/
import Derived.Test.YteoikaedpgianaaXNear
import Derived.Test.YteoikaedpgianaaLawKit
namespace Go.Proofs.Yteoikaedpgianaa
open Go.ChangeShapes Go.WideShapes Go.ChangeAt Go.RowKit Limb

theorem apart_comm (a b : Int) : apartV a b = apartV b a := by
  unfold apartV
  split <;> split <;> omega
theorem most_comm (ea eb s ta tb : Int) : mostV ea eb s ta tb = mostV eb ea s tb ta := by
  unfold mostV
  rw [apart_comm ta tb, Int.add_comm ea eb]
theorem near_comm (ta xa ya za ea p0 p1 p2 p3 ga tb xb yb zb eb q0 q1 q2 q3 gb m0 m1 m2 m3 : Int) :
    nearR tb xb yb zb eb q0 q1 q2 q3 gb ta xa ya za ea p0 p1 p2 p3 ga m0 m1 m2 m3 = nearR ta xa ya za ea p0 p1 p2 p3 ga tb xb yb zb eb q0 q1 q2 q3 gb m0 m1 m2 m3 := by
  unfold nearR
  rw [apart_comm xa xb, apart_comm ya yb, apart_comm za zb, most_comm ea eb m1 ta tb]
  generalize fixB ta xa ya za ea p0 p1 p2 p3 ga = f1
  generalize fixB tb xb yb zb eb q0 q1 q2 q3 gb = f2
  cases f1 <;> cases f2 <;> simp
set_option maxRecDepth 100000 in
set_option maxHeartbeats 1600000 in
theorem near_law (ta xa ya za ea p0 p1 p2 p3 ga tb xb yb zb eb q0 q1 q2 q3 gb m0 m1 m2 m3 : Int) (w : World) :
    Calls Try.prog 9 #[.agg #[.int .i64 ta, .int .i64 xa, .int .i64 ya, .int .i64 za, .int .i64 ea, .int .i64 p0, .int .i64 p1, .int .i64 p2, .int .i64 p3, .int .i64 ga], .agg #[.int .i64 tb, .int .i64 xb, .int .i64 yb, .int .i64 zb, .int .i64 eb, .int .i64 q0, .int .i64 q1, .int .i64 q2, .int .i64 q3, .int .i64 gb], .agg #[.int .i64 m0, .int .i64 m1, .int .i64 m2, .int .i64 m3]] w fun r w' => r = .returned (.bool true) ∧ Below w.heap.size w w' := by
  have K1 := fun W => xNear_any ta xa ya za ea p0 p1 p2 p3 ga tb xb yb zb eb q0 q1 q2 q3 gb m0 m1 m2 m3 W
  have K2 := fun W => rNear_any ta xa ya za ea p0 p1 p2 p3 ga tb xb yb zb eb q0 q1 q2 q3 gb m0 m1 m2 m3 W
  have K3 := fun W => xNear_any tb xb yb zb eb q0 q1 q2 q3 gb ta xa ya za ea p0 p1 p2 p3 ga m0 m1 m2 m3 W
  rw [near_comm] at K3
  obtain ⟨x, e, hn⟩ : ∃ x e, nearR ta xa ya za ea p0 p1 p2 p3 ga tb xb yb zb eb q0 q1 q2 q3 gb m0 m1 m2 m3 = .tuple #[.bool x, .int .i64 e] := ⟨_, _, rfl⟩
  rw [hn] at K1 K2 K3
  have H1 := hid K1
  have H2 := hid K2
  have H3 := hid K3
  clear K1 K2 K3 hn
  have HBw := hid (Below.refl w.heap.size w)
  go_enter Try.func9, Try.ntmps9
  go_wp2_with fail
  refine (H1.out _).mono ?_
  rintro r w1 ⟨rfl, hb⟩
  have HBw1 := hid (show Below w.heap.size w w1 by have hB0 := HBw.out; refine Below.trans ?_ (hb.mono ?_); (focus ((repeat' (first | (with_reducible exact Below.refl _ _) | (with_reducible assumption) | (with_reducible refine Below.alloc ?_ ?_ _) | (with_reducible refine Below.drew ?_) | (with_reducible refine below_drewN ?_ _) | (with_reducible refine Below.setCell ?_ ?_ _) | (with_reducible refine below_setRow ?_ ?_ _) | go_size)); done)); (focus (first | (simp; done) | (simp; omega) | (have hB1 := hB0.size; simp; omega))))
  have hsw1 := hb.size
  (try simp at hsw1)
  have hzw1 : w.heap.size < w1.heap.size := by omega
  obtain ⟨hcw1, hfw1⟩ := bcell hb
  have hkw1 := hid (fun n x => @heap_still _ _ n x hb)
  clear hb
  have FA1 := hid (hkw1.out _ _ (by repeat' (first | (refine heap_alloc_at _ _ _ ?_; (first | rfl | (simp; done) | (simp; omega))) | (refine heap_alloc_past _ _ _ _ ?_))) : w1.heap[w.heap.size]? = some (.cells #[.int .i64 ta, .int .i64 xa, .int .i64 ya, .int .i64 za, .int .i64 ea, .int .i64 p0, .int .i64 p1, .int .i64 p2, .int .i64 p3, .int .i64 ga] 55))
  have FB1 := hid (hkw1.out _ _ (by repeat' (first | (refine heap_alloc_at _ _ _ ?_; (first | rfl | (simp; done) | (simp; omega))) | (refine heap_alloc_past _ _ _ _ ?_))) : w1.heap[w.heap.size + 1]? = some (.cells #[.int .i64 tb, .int .i64 xb, .int .i64 yb, .int .i64 zb, .int .i64 eb, .int .i64 q0, .int .i64 q1, .int .i64 q2, .int .i64 q3, .int .i64 gb] 55))
  have FM1 := hid (hkw1.out _ _ (by repeat' (first | (refine heap_alloc_at _ _ _ ?_; (first | rfl | (simp; done) | (simp; omega))) | (refine heap_alloc_past _ _ _ _ ?_))) : w1.heap[w.heap.size + 1 + 1]? = some (.cells #[.int .i64 m0, .int .i64 m1, .int .i64 m2, .int .i64 m3] 61))
  go_wp2_with (first | (refine wpList_load_at rfl 55 (.tmp 3) rfl rfl FA1.out Try.underlying55 rfl size55 rfl ?_) | (refine wpList_load_at rfl 55 (.tmp 4) rfl rfl FB1.out Try.underlying55 rfl size55 rfl ?_) | (refine wpList_load_at rfl 61 (.tmp 5) rfl rfl FM1.out Try.underlying61 rfl size61n rfl ?_))
  refine (H2.out _).mono ?_
  rintro r w2 ⟨rfl, hb⟩
  have HBw2 := hid (show Below w.heap.size w w2 by have hB0 := HBw1.out; refine Below.trans ?_ (hb.mono ?_); (focus ((repeat' (first | (with_reducible exact Below.refl _ _) | (with_reducible assumption) | (with_reducible refine Below.alloc ?_ ?_ _) | (with_reducible refine Below.drew ?_) | (with_reducible refine below_drewN ?_ _) | (with_reducible refine Below.setCell ?_ ?_ _) | (with_reducible refine below_setRow ?_ ?_ _) | go_size)); done)); (focus (first | (simp; done) | (simp; omega) | (have hB1 := hB0.size; simp; omega))))
  have hsw2 := hb.size
  (try simp at hsw2)
  have hzw2 : w.heap.size < w2.heap.size := by omega
  obtain ⟨hcw2, hfw2⟩ := bcell hb
  have hkw2 := hid (fun n x => @heap_still _ _ n x hb)
  clear hb
  have FA2 := hid (hkw2.out _ _ FA1.out)
  have FB2 := hid (hkw2.out _ _ FB1.out)
  have FM2 := hid (hkw2.out _ _ FM1.out)
  go_wp2_with (first | (refine wpList_load_at rfl 55 (.tmp 3) rfl rfl FA2.out Try.underlying55 rfl size55 rfl ?_) | (refine wpList_load_at rfl 55 (.tmp 4) rfl rfl FB2.out Try.underlying55 rfl size55 rfl ?_) | (refine wpList_load_at rfl 61 (.tmp 5) rfl rfl FM2.out Try.underlying61 rfl size61n rfl ?_))
  refine (H3.out _).mono ?_
  rintro r w3 ⟨rfl, hb⟩
  have HBw3 := hid (show Below w.heap.size w w3 by have hB0 := HBw2.out; refine Below.trans ?_ (hb.mono ?_); (focus ((repeat' (first | (with_reducible exact Below.refl _ _) | (with_reducible assumption) | (with_reducible refine Below.alloc ?_ ?_ _) | (with_reducible refine Below.drew ?_) | (with_reducible refine below_drewN ?_ _) | (with_reducible refine Below.setCell ?_ ?_ _) | (with_reducible refine below_setRow ?_ ?_ _) | go_size)); done)); (focus (first | (simp; done) | (simp; omega) | (have hB1 := hB0.size; simp; omega))))
  have hsw3 := hb.size
  (try simp at hsw3)
  have hzw3 : w.heap.size < w3.heap.size := by omega
  obtain ⟨hcw3, hfw3⟩ := bcell hb
  have hkw3 := hid (fun n x => @heap_still _ _ n x hb)
  clear hb
  cases x
  all_goals
    go_wp2_with fail
    refine (awake_any _).mono ?_
    rintro r w4 ⟨rfl, hb⟩
    have HBw4 := hid (show Below w.heap.size w w4 by have hB0 := HBw3.out; refine Below.trans ?_ (hb.mono ?_); (focus ((repeat' (first | (with_reducible exact Below.refl _ _) | (with_reducible assumption) | (with_reducible refine Below.alloc ?_ ?_ _) | (with_reducible refine Below.drew ?_) | (with_reducible refine below_drewN ?_ _) | (with_reducible refine Below.setCell ?_ ?_ _) | (with_reducible refine below_setRow ?_ ?_ _) | go_size)); done)); (focus (first | (simp; done) | (simp; omega) | (have hB1 := hB0.size; simp; omega))))
    have hsw4 := hb.size
    (try simp at hsw4)
    have hzw4 : w.heap.size < w4.heap.size := by omega
    obtain ⟨hcw4, hfw4⟩ := bcell hb
    have hkw4 := hid (fun n x => @heap_still _ _ n x hb)
    clear hb
    go_wp2_with fail
    go_ret
    exact ⟨rfl, HBw4.out⟩
theorem near_args (W : World) (xs bs ms : List Int) (ha : xs.length = 10) (hb : bs.length = 10) (hm : ms.length = 4) :
    Calls Try.prog 9 #[.agg (xs.map (Value.int .i64)).toArray, .agg (bs.map (Value.int .i64)).toArray, .agg (ms.map (Value.int .i64)).toArray] W fun r w' => r = .returned (.bool true) ∧ Below W.heap.size W w' := by
  match xs, ha, bs, hb, ms, hm with
  | [ta, xa, ya, za, ea, p0, p1, p2, p3, ga], _, [tb, xb, yb, zb, eb, q0, q1, q2, q3, gb], _, [m0, m1, m2, m3], _ => exact near_law ta xa ya za ea p0 p1 p2 p3 ga tb xb yb zb eb q0 q1 q2 q3 gb m0 m1 m2 m3 W

set_option maxRecDepth 100000 in
theorem trackNears_lifted (os : Os) (started : os.Started) (H : Type) (enc : TypeId × Value → H) :
    ReturnsInHanded {} Try.checked os 9 .any (Rows.trackNearsSpec.pre6 enc Try.prog Try.f9 Rows.trackNearsRow.domain false) (Rows.trackNearsSpec.post enc Try.prog Try.f9 false true false false) := by
  refine law_lifted (C := Try.checked) (tb := 4) lawOwn started (by kernel_rfl) Try.func9 rfl ?_ (show Try.f9.resultTypes = #[4] by kernel_rfl) Try.underlying4 lawLaid ?_
    (ChangeSpec.witness6 (enc := enc) (C := Try.checked) false ⟨#[], #[.agg #[.int .i64 0, .int .i64 0, .int .i64 0, .int .i64 0, .int .i64 0, .int .i64 0, .int .i64 0, .int .i64 0, .int .i64 0, .int .i64 0], .agg #[.int .i64 0, .int .i64 0, .int .i64 0, .int .i64 0, .int .i64 0, .int .i64 0, .int .i64 0, .int .i64 0, .int .i64 0, .int .i64 0], .agg #[.int .i64 0, .int .i64 0, .int .i64 0, .int .i64 0]], []⟩ 8 (by kernel_rfl) (by kernel_rfl) (by kernel_rfl) (by kernel_rfl)) ?_
  · intro ds hds
    match ds, hds with
    | [d1, d2, d3], _ => exact ⟨rfl, rfl, rfl⟩
  · rw [Try.params9]
    intro t ht
    simp at ht
    rcases ht with rfl | rfl
    all_goals exact ⟨by kernel_rfl, of_decide_eq_true (by kernel_rfl)⟩
  · intro W base args ds p hval hA hlt _
    change DataW.TrodAll enc Try.prog W 0 (fun _ => true) true Try.f9.params.toList args.toList ds p at hA
    change ∀ (j : Nat) t v, Try.f9.params[j]? = some t → args[j]? = some v → Value.okWide Try.prog W .any base t v at hval
    rw [Try.params9] at hA hval
    obtain ⟨v0, vs0, d0, ds0, p0, q0, hargs, rfl, rfl, h0, r0⟩ := trodAll_cons hA
    obtain ⟨v1, vs1, d1, ds1, p1, q1, rfl, rfl, rfl, h1, r1⟩ := trodAll_cons r0
    obtain ⟨v2, vs2, d2, ds2, p2, q2, rfl, rfl, rfl, h2, r2⟩ := trodAll_cons r1
    obtain ⟨rfl, rfl, rfl⟩ := trodAll_nil r2
    obtain rfl : args = #[v0, v1, v2] := by cases args; simp_all
    obtain ⟨c0, e0, f0⟩ := open_flat lawFlat55 lawSize55 (by kernel_rfl) (hval 0 55 v0 rfl rfl) h0
    obtain ⟨c1, e1, f1⟩ := open_flat lawFlat55 lawSize55 (by kernel_rfl) (hval 1 55 v1 rfl rfl) h1
    obtain ⟨c2, e2, f2⟩ := open_flat lawFlat61 lawSize61 (by kernel_rfl) (hval 2 61 v2 rfl rfl) h2
    obtain ⟨xs, ha, rfl⟩ := lawCells f0
    obtain ⟨bs, hb, rfl⟩ := lawCells f1
    obtain ⟨ms, hm, rfl⟩ := lawCells f2
    subst e0
    subst e1
    subst e2
    exact near_args W xs bs ms ha hb hm

/-- TrackNears, whatever the input. -/
theorem trackNears_holds : Rows.TrackNearsSaid :=
  OpenClaim.holds_of_wide 9 Try.f9 rfl rfl rfl rfl rfl rfl rfl ⟨rfl, rfl, rfl, rfl, rfl⟩ rfl rfl rfl rfl rfl (by kernel_rfl) Try.func9 (by kernel_rfl)
    (of_decide_eq_true (by kernel_rfl)) (by unfold Func.isWrapper; rw [if_neg (of_decide_eq_false (by kernel_rfl))]; exact ⟨rfl, rfl⟩)
    (fun os started H enc _ => trackNears_lifted os started H enc)
#print axioms trackNears_holds
end Go.Proofs.Yteoikaedpgianaa
