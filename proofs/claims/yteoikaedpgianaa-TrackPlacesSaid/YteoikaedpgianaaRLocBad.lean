/- The reference's Locate, where its arguments are refused. -/
import Derived.Test.YteoikaedpgianaaLocX
import Derived.Test.YteoikaedpgianaaBeam
namespace Go.Proofs.Yteoikaedpgianaa
open Go.RowKit Limb

/-- a span that the reference refuses -/
def badS (l u x y : Int) : Bool := decide (y < x) || decide (x < l) || decide (u < y)
theorem badS_cases {l u x y : Int} (h : badS l u x y = true) : decide (y < x) = true ∨ (decide (y < x) = false ∧ decide (x < l) = true) ∨ (decide (y < x) = false ∧ decide (x < l) = false ∧ decide (u < y) = true) := by
  unfold badS at h
  cases h1 : decide (y < x) <;> cases h2 : decide (x < l) <;> cases h3 : decide (u < y) <;> simp_all
theorem badS_no {l u x y : Int} (h : ¬badS l u x y = true) : decide (y < x) = false ∧ decide (x < l) = false ∧ decide (u < y) = false := by
  unfold badS at h
  cases h1 : decide (y < x) <;> cases h2 : decide (x < l) <;> cases h3 : decide (u < y) <;> simp_all
theorem badS_span {l u x y : Int} (hl : -1152921504606846976 ≤ l) (hu : u ≤ 1152921504606846976) {α : Int} {β : Int} : (if spanB x y = true then if [x, y].all (inB l u) = true then α else β else β) = if badS l u x y = true then β else α := by
  by_cases h : badS l u x y = true
  · rw [if_pos h]
    by_cases h1 : spanB x y = true
    · rw [if_pos h1]
      by_cases h2 : [x, y].all (inB l u) = true
      · have := span_in h1 h2
        simp [badS] at h
        omega
      · rw [if_neg h2]
    · rw [if_neg h1]
  · rw [if_neg h]
    simp [badS] at h
    rw [if_pos (by simp [spanB]; omega), if_pos (by simp [inB]; omega)]
theorem poseErr_ref (x0 x1 y0 y1 z0 z1 a b c d t e f g h r0 r1 : Int) : poseErr x0 x1 y0 y1 z0 z1 a b c d t e f g h r0 r1 =
    if badS (-268435456) 268435456 x0 x1 = true then 2 else if badS (-268435456) 268435456 y0 y1 = true then 2 else if badS (-268435456) 268435456 z0 z1 = true then 2 else
      if inB 0 2147483648 t = true then if badS 0 4194304 r0 r1 = true then 2 else if turnB 1000 a b c d = true then if turnB 1000 e f g h = true then 0 else 46 else 46 else 2 := by
  unfold poseErr
  rw [badS_span (by decide) (by decide), badS_span (by decide) (by decide), badS_span (by decide) (by decide), badS_span (by decide) (by decide)]
set_option maxRecDepth 100000 in
set_option maxHeartbeats 3200000 in
theorem rlocate_bad (x0 x1 y0 y1 z0 z1 a b c d t e f g h r0 r1 : Int) (w : World) (hok : poseErr x0 x1 y0 y1 z0 z1 a b c d t e f g h r0 r1 ≠ 0) :
    Calls Try.prog 50 #[.agg #[.int .i64 x0, .int .i64 x1, .int .i64 y0, .int .i64 y1, .int .i64 z0, .int .i64 z1, .int .i64 a, .int .i64 b, .int .i64 c, .int .i64 d, .int .i64 t], .agg #[.int .i64 e, .int .i64 f, .int .i64 g, .int .i64 h], .agg #[.int .i64 r0, .int .i64 r1]] w
      fun r w' => r = .returned (.tuple #[.agg (spA 0 0 0 0 0 0 0), .int .i64 (poseErr x0 x1 y0 y1 z0 z1 a b c d t e f g h r0 r1)]) ∧ Below w.heap.size w w' := by
  have HOK := hid hok
  obtain ⟨E, hE⟩ : ∃ E, poseErr x0 x1 y0 y1 z0 z1 a b c d t e f g h r0 r1 = E := ⟨_, rfl⟩
  have HE := hid hE
  rw [hE]
  clear hok hE
  rw [poseErr_ref] at HOK HE
  have hi0 := index78_0 x0 x1 y0 y1 z0 z1
  have hi1 := index78_1 x0 x1 y0 y1 z0 z1
  have hi2 := index78_2 x0 x1 y0 y1 z0 z1
  have HBw := hid (Below.refl w.heap.size w)
  go_enter Try.func50, Try.ntmps50
  go_wp2_with fail
  refine gen_world (fun V0 hW => ?_)
  have HBV0 := hid (show Below w.heap.size w V0 by rw [hW]; repeat' (first | exact Below.refl _ _ | (refine Below.alloc ?_ (by simp; try omega) _)))
  have PV0 := hid (show V0.heap[w.heap.size]? = some (.cells #[.int .i64 x0, .int .i64 x1, .int .i64 y0, .int .i64 y1, .int .i64 z0, .int .i64 z1, .int .i64 a, .int .i64 b, .int .i64 c, .int .i64 d, .int .i64 t] 80) by rw [hW]; exact (by repeat' (first | (refine heap_alloc_at _ _ _ ?_; (first | rfl | (simp; done) | (simp; omega))) | (refine heap_alloc_past _ _ _ _ ?_))))
  have SV0 := hid (show V0.heap[w.heap.size + 1]? = some (row4 e f g h) by rw [hW]; exact (by repeat' (first | (refine heap_alloc_at _ _ _ ?_; (first | rfl | (simp; done) | (simp; omega))) | (refine heap_alloc_past _ _ _ _ ?_))))
  have RV0 := hid (show V0.heap[w.heap.size + 1 + 1]? = some (.cells #[.int .i64 r0, .int .i64 r1] 44) by rw [hW]; exact (by repeat' (first | (refine heap_alloc_at _ _ _ ?_; (first | rfl | (simp; done) | (simp; omega))) | (refine heap_alloc_past _ _ _ _ ?_))))
  have BV0 := hid (show V0.heap[w.heap.size + 1 + 1 + 1]? = some (.cells #[.int .i64 0, .int .i64 0, .int .i64 0, .int .i64 0, .int .i64 0, .int .i64 0] 46) by rw [hW]; exact (by repeat' (first | (refine heap_alloc_at _ _ _ ?_; (first | rfl | (simp; done) | (simp; omega))) | (refine heap_alloc_past _ _ _ _ ?_))))
  have hs0 : w.heap.size + 1 + 1 + 1 < V0.heap.size := (Array.getElem?_eq_some_iff.1 BV0.out).1
  clear hW
  refine wp_loop_rounds 4 ?_
  rw [rounds_succ]
  by_cases hbad : badS (-268435456) 268435456 x0 x1 = true
  · rw [if_pos hbad] at HE
    rcases badS_cases hbad with h1 | ⟨h1, h2⟩ | ⟨h1, h2, h3⟩
    · go_wp2_with (refine wpList_store_at rfl 46 (.tmp 6) (.tmp 43) rfl rfl rfl (heap_alloc_past _ _ _ _ BV0.out) size46 rfl rfl rfl ?_)
      refine bodyPost_ret (results_at2 rfl rfl (setRow_heap _ _ _ _ _ _ (heap_alloc_past _ _ _ _ BV0.out)) Try.underlying46 rfl size46 rfl) rfl ?_
      exact ⟨by rw [← HE.out]; rfl, below_setRow (HBV0.out.alloc (by omega) _) (by omega) _⟩
    · go_wp2_with (refine wpList_store_at rfl 46 (.tmp 6) (.tmp 43) rfl rfl rfl (heap_alloc_past _ _ _ _ BV0.out) size46 rfl rfl rfl ?_)
      refine bodyPost_ret (results_at2 rfl rfl (setRow_heap _ _ _ _ _ _ (heap_alloc_past _ _ _ _ BV0.out)) Try.underlying46 rfl size46 rfl) rfl ?_
      exact ⟨by rw [← HE.out]; rfl, below_setRow (HBV0.out.alloc (by omega) _) (by omega) _⟩
    · go_wp2_with (refine wpList_store_at rfl 46 (.tmp 6) (.tmp 43) rfl rfl rfl (heap_alloc_past _ _ _ _ BV0.out) size46 rfl rfl rfl ?_)
      refine bodyPost_ret (results_at2 rfl rfl (setRow_heap _ _ _ _ _ _ (heap_alloc_past _ _ _ _ BV0.out)) Try.underlying46 rfl size46 rfl) rfl ?_
      exact ⟨by rw [← HE.out]; rfl, below_setRow (HBV0.out.alloc (by omega) _) (by omega) _⟩
  rw [if_neg hbad] at HOK HE
  obtain ⟨h1, h2, h3⟩ := badS_no hbad
  go_wp2_with fail
  rw [rounds_succ]
  clear h1 h2 h3 hbad
  refine gen_world (fun V1 hW => ?_)
  have HBV1 := hid (show Below w.heap.size w V1 by rw [hW]; exact HBV0.out.alloc (by omega) _)
  have PV1 := hid (show V1.heap[w.heap.size]? = some (.cells #[.int .i64 x0, .int .i64 x1, .int .i64 y0, .int .i64 y1, .int .i64 z0, .int .i64 z1, .int .i64 a, .int .i64 b, .int .i64 c, .int .i64 d, .int .i64 t] 80) by rw [hW]; exact heap_alloc_past _ _ _ _ PV0.out)
  have SV1 := hid (show V1.heap[w.heap.size + 1]? = some (row4 e f g h) by rw [hW]; exact heap_alloc_past _ _ _ _ SV0.out)
  have RV1 := hid (show V1.heap[w.heap.size + 1 + 1]? = some (.cells #[.int .i64 r0, .int .i64 r1] 44) by rw [hW]; exact heap_alloc_past _ _ _ _ RV0.out)
  have BV1 := hid (show V1.heap[w.heap.size + 1 + 1 + 1]? = some (.cells #[.int .i64 0, .int .i64 0, .int .i64 0, .int .i64 0, .int .i64 0, .int .i64 0] 46) by rw [hW]; exact heap_alloc_past _ _ _ _ BV0.out)
  have hsV1 : w.heap.size + 1 + 1 + 1 < V1.heap.size := (Array.getElem?_eq_some_iff.1 BV1.out).1
  clear hW PV0 SV0 RV0 BV0 HBV0
  by_cases hbad : badS (-268435456) 268435456 y0 y1 = true
  · rw [if_pos hbad] at HE
    rcases badS_cases hbad with h1 | ⟨h1, h2⟩ | ⟨h1, h2, h3⟩
    · go_wp2_with (refine wpList_store_at rfl 46 (.tmp 6) (.tmp 43) rfl rfl rfl (heap_alloc_past _ _ _ _ BV1.out) size46 rfl rfl rfl ?_)
      refine bodyPost_ret (results_at2 rfl rfl (setRow_heap _ _ _ _ _ _ (heap_alloc_past _ _ _ _ BV1.out)) Try.underlying46 rfl size46 rfl) rfl ?_
      exact ⟨by rw [← HE.out]; rfl, below_setRow (HBV1.out.alloc (by omega) _) (by omega) _⟩
    · go_wp2_with (refine wpList_store_at rfl 46 (.tmp 6) (.tmp 43) rfl rfl rfl (heap_alloc_past _ _ _ _ BV1.out) size46 rfl rfl rfl ?_)
      refine bodyPost_ret (results_at2 rfl rfl (setRow_heap _ _ _ _ _ _ (heap_alloc_past _ _ _ _ BV1.out)) Try.underlying46 rfl size46 rfl) rfl ?_
      exact ⟨by rw [← HE.out]; rfl, below_setRow (HBV1.out.alloc (by omega) _) (by omega) _⟩
    · go_wp2_with (refine wpList_store_at rfl 46 (.tmp 6) (.tmp 43) rfl rfl rfl (heap_alloc_past _ _ _ _ BV1.out) size46 rfl rfl rfl ?_)
      refine bodyPost_ret (results_at2 rfl rfl (setRow_heap _ _ _ _ _ _ (heap_alloc_past _ _ _ _ BV1.out)) Try.underlying46 rfl size46 rfl) rfl ?_
      exact ⟨by rw [← HE.out]; rfl, below_setRow (HBV1.out.alloc (by omega) _) (by omega) _⟩
  rw [if_neg hbad] at HOK HE
  obtain ⟨h1, h2, h3⟩ := badS_no hbad
  go_wp2_with fail
  rw [rounds_succ]
  clear h1 h2 h3 hbad
  refine gen_world (fun V2 hW => ?_)
  have HBV2 := hid (show Below w.heap.size w V2 by rw [hW]; exact HBV1.out.alloc (by omega) _)
  have PV2 := hid (show V2.heap[w.heap.size]? = some (.cells #[.int .i64 x0, .int .i64 x1, .int .i64 y0, .int .i64 y1, .int .i64 z0, .int .i64 z1, .int .i64 a, .int .i64 b, .int .i64 c, .int .i64 d, .int .i64 t] 80) by rw [hW]; exact heap_alloc_past _ _ _ _ PV1.out)
  have SV2 := hid (show V2.heap[w.heap.size + 1]? = some (row4 e f g h) by rw [hW]; exact heap_alloc_past _ _ _ _ SV1.out)
  have RV2 := hid (show V2.heap[w.heap.size + 1 + 1]? = some (.cells #[.int .i64 r0, .int .i64 r1] 44) by rw [hW]; exact heap_alloc_past _ _ _ _ RV1.out)
  have BV2 := hid (show V2.heap[w.heap.size + 1 + 1 + 1]? = some (.cells #[.int .i64 0, .int .i64 0, .int .i64 0, .int .i64 0, .int .i64 0, .int .i64 0] 46) by rw [hW]; exact heap_alloc_past _ _ _ _ BV1.out)
  have hsV2 : w.heap.size + 1 + 1 + 1 < V2.heap.size := (Array.getElem?_eq_some_iff.1 BV2.out).1
  clear hW PV1 SV1 RV1 BV1 HBV1
  by_cases hbad : badS (-268435456) 268435456 z0 z1 = true
  · rw [if_pos hbad] at HE
    rcases badS_cases hbad with h1 | ⟨h1, h2⟩ | ⟨h1, h2, h3⟩
    · go_wp2_with (refine wpList_store_at rfl 46 (.tmp 6) (.tmp 43) rfl rfl rfl (heap_alloc_past _ _ _ _ BV2.out) size46 rfl rfl rfl ?_)
      refine bodyPost_ret (results_at2 rfl rfl (setRow_heap _ _ _ _ _ _ (heap_alloc_past _ _ _ _ BV2.out)) Try.underlying46 rfl size46 rfl) rfl ?_
      exact ⟨by rw [← HE.out]; rfl, below_setRow (HBV2.out.alloc (by omega) _) (by omega) _⟩
    · go_wp2_with (refine wpList_store_at rfl 46 (.tmp 6) (.tmp 43) rfl rfl rfl (heap_alloc_past _ _ _ _ BV2.out) size46 rfl rfl rfl ?_)
      refine bodyPost_ret (results_at2 rfl rfl (setRow_heap _ _ _ _ _ _ (heap_alloc_past _ _ _ _ BV2.out)) Try.underlying46 rfl size46 rfl) rfl ?_
      exact ⟨by rw [← HE.out]; rfl, below_setRow (HBV2.out.alloc (by omega) _) (by omega) _⟩
    · go_wp2_with (refine wpList_store_at rfl 46 (.tmp 6) (.tmp 43) rfl rfl rfl (heap_alloc_past _ _ _ _ BV2.out) size46 rfl rfl rfl ?_)
      refine bodyPost_ret (results_at2 rfl rfl (setRow_heap _ _ _ _ _ _ (heap_alloc_past _ _ _ _ BV2.out)) Try.underlying46 rfl size46 rfl) rfl ?_
      exact ⟨by rw [← HE.out]; rfl, below_setRow (HBV2.out.alloc (by omega) _) (by omega) _⟩
  rw [if_neg hbad] at HOK HE
  obtain ⟨h1, h2, h3⟩ := badS_no hbad
  go_wp2_with fail
  rw [rounds_succ]
  clear h1 h2 h3 hbad
  refine gen_world (fun V3 hW => ?_)
  have HBV3 := hid (show Below w.heap.size w V3 by rw [hW]; exact HBV2.out.alloc (by omega) _)
  have PV3 := hid (show V3.heap[w.heap.size]? = some (.cells #[.int .i64 x0, .int .i64 x1, .int .i64 y0, .int .i64 y1, .int .i64 z0, .int .i64 z1, .int .i64 a, .int .i64 b, .int .i64 c, .int .i64 d, .int .i64 t] 80) by rw [hW]; exact heap_alloc_past _ _ _ _ PV2.out)
  have SV3 := hid (show V3.heap[w.heap.size + 1]? = some (row4 e f g h) by rw [hW]; exact heap_alloc_past _ _ _ _ SV2.out)
  have RV3 := hid (show V3.heap[w.heap.size + 1 + 1]? = some (.cells #[.int .i64 r0, .int .i64 r1] 44) by rw [hW]; exact heap_alloc_past _ _ _ _ RV2.out)
  have BV3 := hid (show V3.heap[w.heap.size + 1 + 1 + 1]? = some (.cells #[.int .i64 0, .int .i64 0, .int .i64 0, .int .i64 0, .int .i64 0, .int .i64 0] 46) by rw [hW]; exact heap_alloc_past _ _ _ _ BV2.out)
  have hsV3 : w.heap.size + 1 + 1 + 1 < V3.heap.size := (Array.getElem?_eq_some_iff.1 BV3.out).1
  clear hW PV2 SV2 RV2 BV2 HBV2
  have c0 : V3.cell? ⟨w.heap.size, 10, none⟩ = some (.int .i64 t) := (cell_row (j := 10) PV3.out).trans rfl
  have c1 : V3.cell? ⟨w.heap.size + 1 + 1, 0, none⟩ = some (.int .i64 r0) := (cell_row (j := 0) RV3.out).trans rfl
  have c2 : V3.cell? ⟨w.heap.size + 1 + 1, 1, none⟩ = some (.int .i64 r1) := (cell_row (j := 1) RV3.out).trans rfl
  go_wp2_with fail
  refine (from_any _ _ _ _).mono ?_
  rintro r w' ⟨rfl, rfl⟩
  by_cases ht : inB 0 2147483648 t = true
  · rw [ht]
    rw [if_pos ht] at HOK HE
    by_cases hbad : badS 0 4194304 r0 r1 = true
    · rw [if_pos hbad] at HE
      rcases badS_cases hbad with h1 | ⟨h1, h2⟩ | ⟨h1, h2, h3⟩
      · go_wp2_with (refine wpList_store_at rfl 46 (.tmp 6) (.tmp 66) rfl rfl rfl BV3.out size46 rfl rfl rfl ?_)
        refine bodyPost_ret (results_at2 rfl rfl (setRow_heap _ _ _ _ _ _ BV3.out) Try.underlying46 rfl size46 rfl) rfl ?_
        exact ⟨by rw [← HE.out]; rfl, below_setRow HBV3.out (by omega) _⟩
      · go_wp2_with (refine wpList_store_at rfl 46 (.tmp 6) (.tmp 66) rfl rfl rfl BV3.out size46 rfl rfl rfl ?_)
        refine bodyPost_ret (results_at2 rfl rfl (setRow_heap _ _ _ _ _ _ BV3.out) Try.underlying46 rfl size46 rfl) rfl ?_
        exact ⟨by rw [← HE.out]; rfl, below_setRow HBV3.out (by omega) _⟩
      · go_wp2_with (refine wpList_store_at rfl 46 (.tmp 6) (.tmp 66) rfl rfl rfl BV3.out size46 rfl rfl rfl ?_)
        refine bodyPost_ret (results_at2 rfl rfl (setRow_heap _ _ _ _ _ _ BV3.out) Try.underlying46 rfl size46 rfl) rfl ?_
        exact ⟨by rw [← HE.out]; rfl, below_setRow HBV3.out (by omega) _⟩
    · rw [if_neg hbad] at HOK HE
      obtain ⟨h1, h2, h3⟩ := badS_no hbad
      have q0 : V3.cell? ⟨w.heap.size, 6, none⟩ = some (.int .i64 a) := (cell_row (j := 6) PV3.out).trans rfl
      have q1 : V3.cell? ⟨w.heap.size, 7, none⟩ = some (.int .i64 b) := (cell_row (j := 7) PV3.out).trans rfl
      have q2 : V3.cell? ⟨w.heap.size, 8, none⟩ = some (.int .i64 c) := (cell_row (j := 8) PV3.out).trans rfl
      have q3 : V3.cell? ⟨w.heap.size, 9, none⟩ = some (.int .i64 d) := (cell_row (j := 9) PV3.out).trans rfl
      go_wp2_with fail
      clear h1 h2 h3 c0 c1 c2 q0 q1 q2 q3
      refine (turns_any 1000 _ _ _ _ (by decide) _).mono ?_
      rintro r w4 ⟨rfl, hb⟩
      have HBw4 := hid (show Below w.heap.size w w4 by have hB0 := HBV3.out; refine Below.trans ?_ (hb.mono ?_); (focus ((repeat' (first | (with_reducible exact Below.refl _ _) | (with_reducible assumption) | (with_reducible refine Below.alloc ?_ ?_ _) | (with_reducible refine Below.drew ?_) | (with_reducible refine below_drewN ?_ _) | (with_reducible refine Below.setCell ?_ ?_ _) | (with_reducible refine below_setRow ?_ ?_ _) | go_size)); done)); (focus (first | (simp; done) | (simp; omega) | (have hB1 := hB0.size; simp; omega))))
      have hsw4 := hb.size
      (try simp at hsw4)
      have hzw4 : w.heap.size < w4.heap.size := by omega
      obtain ⟨hcw4, hfw4⟩ := bcell hb
      have hkw4 := hid (fun n x => @heap_still _ _ n x hb)
      clear hb
      have SV4 := hid (hkw4.out _ _ SV3.out)
      have BV4 := hid (hkw4.out _ _ BV3.out)
      have hs4 : w.heap.size + 1 + 1 + 1 < w4.heap.size := (Array.getElem?_eq_some_iff.1 BV4.out).1
      by_cases hp : turnB 1000 a b c d = true
      · rw [hp]
        rw [if_pos hp] at HOK HE
        have s0 : w4.cell? ⟨w.heap.size + 1, 0, none⟩ = some (.int .i64 e) := (cell_row (j := 0) SV4.out).trans rfl
        have s1 : w4.cell? ⟨w.heap.size + 1, 1, none⟩ = some (.int .i64 f) := (cell_row (j := 1) SV4.out).trans rfl
        have s2 : w4.cell? ⟨w.heap.size + 1, 2, none⟩ = some (.int .i64 g) := (cell_row (j := 2) SV4.out).trans rfl
        have s3 : w4.cell? ⟨w.heap.size + 1, 3, none⟩ = some (.int .i64 h) := (cell_row (j := 3) SV4.out).trans rfl
        go_wp2_with fail
        refine (turns_any 1000 _ _ _ _ (by decide) _).mono ?_
        rintro r w5 ⟨rfl, hb⟩
        have HBw5 := hid (show Below w.heap.size w w5 by have hB0 := HBw4.out; refine Below.trans ?_ (hb.mono ?_); (focus ((repeat' (first | (with_reducible exact Below.refl _ _) | (with_reducible assumption) | (with_reducible refine Below.alloc ?_ ?_ _) | (with_reducible refine Below.drew ?_) | (with_reducible refine below_drewN ?_ _) | (with_reducible refine Below.setCell ?_ ?_ _) | (with_reducible refine below_setRow ?_ ?_ _) | go_size)); done)); (focus (first | (simp; done) | (simp; omega) | (have hB1 := hB0.size; simp; omega))))
        have hsw5 := hb.size
        (try simp at hsw5)
        have hzw5 : w.heap.size < w5.heap.size := by omega
        obtain ⟨hcw5, hfw5⟩ := bcell hb
        have hkw5 := hid (fun n x => @heap_still _ _ n x hb)
        clear hb
        have BV5 := hid (hkw5.out _ _ BV4.out)
        have hs5 : w.heap.size + 1 + 1 + 1 < w5.heap.size := (Array.getElem?_eq_some_iff.1 BV5.out).1
        by_cases hq : turnB 1000 e f g h = true
        · rw [if_pos hq] at HOK
          exact absurd rfl HOK.out
        · rw [if_neg hq] at HE
          rw [Bool.eq_false_iff.2 hq]
          go_wp2_with (refine wpList_store_at rfl 46 (.tmp 6) (.tmp 76) rfl rfl rfl BV5.out size46 rfl rfl rfl ?_)
          refine bodyPost_ret (results_at2 rfl rfl (setRow_heap _ _ _ _ _ _ BV5.out) Try.underlying46 rfl size46 rfl) rfl ?_
          exact ⟨by rw [← HE.out]; rfl, below_setRow HBw5.out (by omega) _⟩
      · rw [if_neg hp] at HE
        rw [Bool.eq_false_iff.2 hp]
        go_wp2_with (refine wpList_store_at rfl 46 (.tmp 6) (.tmp 76) rfl rfl rfl BV4.out size46 rfl rfl rfl ?_)
        refine bodyPost_ret (results_at2 rfl rfl (setRow_heap _ _ _ _ _ _ BV4.out) Try.underlying46 rfl size46 rfl) rfl ?_
        exact ⟨by rw [← HE.out]; rfl, below_setRow HBw4.out (by omega) _⟩
  · rw [if_neg ht] at HE
    rw [Bool.eq_false_iff.2 ht]
    go_wp2_with (refine wpList_store_at rfl 46 (.tmp 6) (.tmp 66) rfl rfl rfl BV3.out size46 rfl rfl rfl ?_)
    refine bodyPost_ret (results_at2 rfl rfl (setRow_heap _ _ _ _ _ _ BV3.out) Try.underlying46 rfl size46 rfl) rfl ?_
    exact ⟨by rw [← HE.out]; rfl, below_setRow HBV3.out (by omega) _⟩
end Go.Proofs.Yteoikaedpgianaa
