/- The reference's Locate, where its arguments are not refused. -/
import Derived.Test.YteoikaedpgianaaRLocBad
import Derived.Test.YteoikaedpgianaaQRow
import Derived.Test.YteoikaedpgianaaBeamLaw
import Derived.Test.YteoikaedpgianaaExtU
namespace Go.Proofs.Yteoikaedpgianaa
open Go.RowKit Limb

/-- a fresh slice of two numbers -/
def FreshTwo (B : Nat) (x y : Int) (W : World) (v : Value) : Prop := ∃ g, v = .slice (some ⟨g, 0, none⟩) 2 2 ∧ B ≤ g ∧ W.heap[g]? = some (.cells #[.int .i64 x, .int .i64 y] 3)
theorem FreshTwo.stb (B : Nat) (x y : Int) : Stb (FreshTwo B x y) := fun _ _ _ hB ⟨g, h1, h2, h3⟩ => ⟨g, h1, h2, heap_still hB h3⟩
/-- a fresh slice of one rational number -/
def FreshQ (B : Nat) (q : Rat) (k : Nat) (W : World) (v : Value) : Prop := ∃ g, v = .slice (some ⟨g, 0, none⟩) 1 1 ∧ B ≤ g ∧ ∃ s a p c b r d, W.heap[g]? = some (.cells #[.bool s, .slice a p c, .slice b r d] 35) ∧ QAt W (.agg #[.bool s, .slice a p c, .slice b r d]) q k
theorem FreshQ.stb (B : Nat) (q : Rat) (k : Nat) : Stb (FreshQ B q k) := fun _ _ _ hB ⟨g, h1, h2, s, a, p, c, b, r, d, h3, h4⟩ => ⟨g, h1, h2, s, a, p, c, b, r, d, heap_still hB h3, h4.grow hB⟩
theorem fourQ_at (lo hi k r0 r1 n : Int) : ∀ j, j < 2 → ∀ l, l < 2 → fourQ lo hi k r0 r1 n (2 * j + l) = (([lo, hi].getD j 0 : Int) : Rat) + (k : Rat) * (([r0, r1].getD l 0 : Int) : Rat) / (n : Rat)
  | 0, _, 0, _ => rfl
  | 0, _, 1, _ => rfl
  | 1, _, 0, _ => rfl
  | 1, _, 1, _ => rfl
theorem two_at (x y : Int) : ∀ j, j < 2 → (#[.int .i64 x, .int .i64 y] : Array Value)[j]? = some (.int .i64 ([x, y].getD j 0))
  | 0, _ => rfl
  | 1, _ => rfl
theorem pose_lo (x0 x1 y0 y1 z0 z1 a b c d t : Int) : ∀ m, m < 3 → (#[.int .i64 x0, .int .i64 x1, .int .i64 y0, .int .i64 y1, .int .i64 z0, .int .i64 z1, .int .i64 a, .int .i64 b, .int .i64 c, .int .i64 d, .int .i64 t] : Array Value)[m * 2]? = some (.int .i64 ([x0, y0, z0].getD m 0))
  | 0, _ => rfl
  | 1, _ => rfl
  | 2, _ => rfl
theorem pose_hi (x0 x1 y0 y1 z0 z1 a b c d t : Int) : ∀ m, m < 3 → (#[.int .i64 x0, .int .i64 x1, .int .i64 y0, .int .i64 y1, .int .i64 z0, .int .i64 z1, .int .i64 a, .int .i64 b, .int .i64 c, .int .i64 d, .int .i64 t] : Array Value)[m * 2 + 1]? = some (.int .i64 ([x1, y1, z1].getD m 0))
  | 0, _ => rfl
  | 1, _ => rfl
  | 2, _ => rfl
set_option maxRecDepth 100000 in
set_option maxHeartbeats 6400000 in
theorem rlocate_walk (x0 x1 y0 y1 z0 z1 a b c d t e f g h r0 r1 m0 m1 m2 m3 k0 k1 k2 n wide al0 be0 al1 be1 al2 be2 v0 v1 v2 v3 v4 v5 : Int) (w : World) (hok : poseErr x0 x1 y0 y1 z0 z1 a b c d t e f g h r0 r1 = 0)
    (HT : ∀ W, Calls Try.prog 75 #[.agg #[.int .i64 a, .int .i64 b, .int .i64 c, .int .i64 d], .agg #[.int .i64 e, .int .i64 f, .int .i64 g, .int .i64 h]] W fun r w' => r = .returned (.agg #[.int .i64 m0, .int .i64 m1, .int .i64 m2, .int .i64 m3]) ∧ Below W.heap.size W w')
    (HB : ∀ W, Calls Try.prog 23 #[.agg #[.int .i64 m0, .int .i64 m1, .int .i64 m2, .int .i64 m3]] W fun r w' => r = .returned (.tuple #[.agg #[.int .i64 k0, .int .i64 k1, .int .i64 k2], .int .i64 n, .int .i64 0]) ∧ Below W.heap.size W w')
    (HU : ∀ W, Calls Try.prog 98 #[.int .i64 t, .int .i64 r1, .int .i64 1000000] W fun r w' => r = .returned (.int .i64 wide) ∧ Below W.heap.size W w')
    (HA : ∀ i, i < 3 → ∀ W C g cap, W.heap[g]? = some (.cells C 35) → (∀ j, j < 4 → QCells C (j * 3) W (fourQ ([x0, y0, z0].getD i 0) ([x1, y1, z1].getD i 0) ([k0, k1, k2].getD i 0) r0 r1 n j) 65) →
      Calls Try.prog 99 #[.slice (some ⟨g, 0, none⟩) 4 cap] W fun r w' => r = .returned (.tuple #[.agg #[.int .i64 ([al0, al1, al2].getD i 0), .int .i64 ([be0, be1, be2].getD i 0)], .int .i64 0]) ∧ Below W.heap.size W w')
    (hv : ∀ i, i < 3 → [v0, v2, v4].getD i 0 = [al0, al1, al2].getD i 0 - wide ∧ [v1, v3, v5].getD i 0 = [be0, be1, be2].getD i 0 + wide)
    (hab : ∀ i, i < 3 → -300000000 ≤ [al0, al1, al2].getD i 0 ∧ [al0, al1, al2].getD i 0 ≤ [be0, be1, be2].getD i 0 ∧ [be0, be1, be2].getD i 0 ≤ 300000000)
    (hkb : ∀ i, i < 3 → -n ≤ [k0, k1, k2].getD i 0 ∧ [k0, k1, k2].getD i 0 ≤ n) (hn : 1 ≤ n ∧ n ≤ 64000000000000) (hwd : 0 ≤ wide ∧ wide ≤ 9007199256) (hr : (0 ≤ r0 ∧ r0 ≤ 4194304) ∧ (0 ≤ r1 ∧ r1 ≤ 4194304))
    (hc : ∀ i, i < 3 → (-268435456 ≤ [x0, y0, z0].getD i 0 ∧ [x0, y0, z0].getD i 0 ≤ 268435456) ∧ (-268435456 ≤ [x1, y1, z1].getD i 0 ∧ [x1, y1, z1].getD i 0 ≤ 268435456)) :
    Calls Try.prog 50 #[.agg #[.int .i64 x0, .int .i64 x1, .int .i64 y0, .int .i64 y1, .int .i64 z0, .int .i64 z1, .int .i64 a, .int .i64 b, .int .i64 c, .int .i64 d, .int .i64 t], .agg #[.int .i64 e, .int .i64 f, .int .i64 g, .int .i64 h], .agg #[.int .i64 r0, .int .i64 r1]] w
      fun r w' => r = .returned (locRes (locAll v0 v1 v2 v3 v4 v5) v0 v1 v2 v3 v4 v5) ∧ Below w.heap.size w w' := by
  rw [poseErr_ref] at hok
  have hi0 := index78_0 x0 x1 y0 y1 z0 z1
  have hi1 := index78_1 x0 x1 y0 y1 z0 z1
  have hi2 := index78_2 x0 x1 y0 y1 z0 z1
  have nn2 : ∀ {c : Bool} {x : Int}, (if c = true then 2 else x) = 0 → ¬c = true ∧ x = 0 := by
    intro c x hh
    cases c
    · exact ⟨by decide, hh⟩
    · exact absurd hh (by simp)
  obtain ⟨hb0, hok⟩ := nn2 hok
  obtain ⟨hb1, hok⟩ := nn2 hok
  obtain ⟨hb2, hok⟩ := nn2 hok
  obtain ⟨ht, hok⟩ := ite0 (by decide) hok
  obtain ⟨hb3, hok⟩ := nn2 hok
  obtain ⟨hp, hok⟩ := ite0 (by decide) hok
  obtain ⟨hq, _⟩ := ite0 (by decide) hok
  clear hok nn2
  have HTM := hid HT
  have HBM := hid HB
  have HUP := hid HU
  have HAR := hid HA
  have HVV := hid hv
  have HAB := hid hab
  have HKB := hid hkb
  have HCB := hid hc
  obtain ⟨hn1, hn2⟩ := hn
  obtain ⟨hw1, hw2⟩ := hwd
  obtain ⟨⟨hr1, hr2⟩, hr3, hr4⟩ := hr
  have HBw := hid (Below.refl w.heap.size w)
  clear HT HB HU HA hv hab hkb hc
  go_enter Try.func50, Try.ntmps50
  go_wp2_with fail
  refine gen_world (fun V0 hW => ?_)
  have HBV0 := hid (show Below w.heap.size w V0 by rw [hW]; repeat' (first | exact Below.refl _ _ | (refine Below.alloc ?_ (by simp; try omega) _)))
  have PV0 := hid (show V0.heap[w.heap.size]? = some (.cells #[.int .i64 x0, .int .i64 x1, .int .i64 y0, .int .i64 y1, .int .i64 z0, .int .i64 z1, .int .i64 a, .int .i64 b, .int .i64 c, .int .i64 d, .int .i64 t] 80) by rw [hW]; exact (by repeat' (first | (refine heap_alloc_at _ _ _ ?_; (first | rfl | (simp; done) | (simp; omega))) | (refine heap_alloc_past _ _ _ _ ?_))))
  have SV0 := hid (show V0.heap[w.heap.size + 1]? = some (row4 e f g h) by rw [hW]; exact (by repeat' (first | (refine heap_alloc_at _ _ _ ?_; (first | rfl | (simp; done) | (simp; omega))) | (refine heap_alloc_past _ _ _ _ ?_))))
  have RV0 := hid (show V0.heap[w.heap.size + 1 + 1]? = some (.cells #[.int .i64 r0, .int .i64 r1] 44) by rw [hW]; exact (by repeat' (first | (refine heap_alloc_at _ _ _ ?_; (first | rfl | (simp; done) | (simp; omega))) | (refine heap_alloc_past _ _ _ _ ?_))))
  have BV0 := hid (show V0.heap[w.heap.size + 1 + 1 + 1]? = some (.cells #[.int .i64 0, .int .i64 0, .int .i64 0, .int .i64 0, .int .i64 0, .int .i64 0] 46) by rw [hW]; exact (by repeat' (first | (refine heap_alloc_at _ _ _ ?_; (first | rfl | (simp; done) | (simp; omega))) | (refine heap_alloc_past _ _ _ _ ?_))))
  have hs0 : w.heap.size + 1 + 1 + 1 < V0.heap.size := (Array.getElem?_eq_some_iff.1 BV0.out).1
  clear hW
  refine wp_loop_rounds 4 ?_
  rw [rounds_succ]
  have hbad := hb0
  obtain ⟨h1, h2, h3⟩ := badS_no hbad
  go_wp2_with fail
  rw [rounds_succ]
  clear h1 h2 h3 hbad
  refine gen_world (fun V1 hW => ?_)
  have HBV1 := hid (show Below w.heap.size w V1 by rw [hW]; exact HBV0.out.alloc (by omega) _)
  have PV1 := hid (show V1.heap[w.heap.size]? = some (.cells #[.int .i64 x0, .int .i64 x1, .int .i64 y0, .int .i64 y1, .int .i64 z0, .int .i64 z1, .int .i64 a, .int .i64 b, .int .i64 c, .int .i64 d, .int .i64 t] 80) by rw [hW]; exact heap_alloc_past _ _ _ _ PV0.out)
  have SV1 := hid (show V1.heap[w.heap.size + 1]? = some (row4 e f g h) by rw [hW]; exact heap_alloc_past _ _ _ _ SV0.out)
  have RV1 := hid (show V1.heap[w.heap.size + 1 + 1]? = some (.cells #[.int .i64 r0, .int .i64 r1] 44) by rw [hW]; exact heap_alloc_past _ _ _ _ RV0.out)
  have BV1 := hid (show V1.heap[w.heap.size + 1 + 1 + 1]? = some (.cells #[.int .i64 0, .int .i64 0, .int .i64 0, .int .i64 0, .int .i64 0, .int .i64 0] 46) by rw [hW]; exact heap_alloc_past _ _ _ _ BV0.out)
  have hsV1 : w.heap.size + 1 + 1 + 1 < V1.heap.size := (Array.getElem?_eq_some_iff.1 BV1.out).1
  clear hW PV0 SV0 RV0 BV0 HBV0
  have hbad := hb1
  obtain ⟨h1, h2, h3⟩ := badS_no hbad
  go_wp2_with fail
  rw [rounds_succ]
  clear h1 h2 h3 hbad
  refine gen_world (fun V2 hW => ?_)
  have HBV2 := hid (show Below w.heap.size w V2 by rw [hW]; exact HBV1.out.alloc (by omega) _)
  have PV2 := hid (show V2.heap[w.heap.size]? = some (.cells #[.int .i64 x0, .int .i64 x1, .int .i64 y0, .int .i64 y1, .int .i64 z0, .int .i64 z1, .int .i64 a, .int .i64 b, .int .i64 c, .int .i64 d, .int .i64 t] 80) by rw [hW]; exact heap_alloc_past _ _ _ _ PV1.out)
  have SV2 := hid (show V2.heap[w.heap.size + 1]? = some (row4 e f g h) by rw [hW]; exact heap_alloc_past _ _ _ _ SV1.out)
  have RV2 := hid (show V2.heap[w.heap.size + 1 + 1]? = some (.cells #[.int .i64 r0, .int .i64 r1] 44) by rw [hW]; exact heap_alloc_past _ _ _ _ RV1.out)
  have BV2 := hid (show V2.heap[w.heap.size + 1 + 1 + 1]? = some (.cells #[.int .i64 0, .int .i64 0, .int .i64 0, .int .i64 0, .int .i64 0, .int .i64 0] 46) by rw [hW]; exact heap_alloc_past _ _ _ _ BV1.out)
  have hsV2 : w.heap.size + 1 + 1 + 1 < V2.heap.size := (Array.getElem?_eq_some_iff.1 BV2.out).1
  clear hW PV1 SV1 RV1 BV1 HBV1
  have hbad := hb2
  obtain ⟨h1, h2, h3⟩ := badS_no hbad
  go_wp2_with fail
  rw [rounds_succ]
  clear h1 h2 h3 hbad
  refine gen_world (fun V3 hW => ?_)
  have HBV3 := hid (show Below w.heap.size w V3 by rw [hW]; exact HBV2.out.alloc (by omega) _)
  have PV3 := hid (show V3.heap[w.heap.size]? = some (.cells #[.int .i64 x0, .int .i64 x1, .int .i64 y0, .int .i64 y1, .int .i64 z0, .int .i64 z1, .int .i64 a, .int .i64 b, .int .i64 c, .int .i64 d, .int .i64 t] 80) by rw [hW]; exact heap_alloc_past _ _ _ _ PV2.out)
  have SV3 := hid (show V3.heap[w.heap.size + 1]? = some (row4 e f g h) by rw [hW]; exact heap_alloc_past _ _ _ _ SV2.out)
  have RV3 := hid (show V3.heap[w.heap.size + 1 + 1]? = some (.cells #[.int .i64 r0, .int .i64 r1] 44) by rw [hW]; exact heap_alloc_past _ _ _ _ RV2.out)
  have BV3 := hid (show V3.heap[w.heap.size + 1 + 1 + 1]? = some (.cells #[.int .i64 0, .int .i64 0, .int .i64 0, .int .i64 0, .int .i64 0, .int .i64 0] 46) by rw [hW]; exact heap_alloc_past _ _ _ _ BV2.out)
  have hsV3 : w.heap.size + 1 + 1 + 1 < V3.heap.size := (Array.getElem?_eq_some_iff.1 BV3.out).1
  clear hW PV2 SV2 RV2 BV2 HBV2
  clear hb0 hb1 hb2 hi0 hi1 hi2
  have c0 : V3.cell? ⟨w.heap.size, 10, none⟩ = some (.int .i64 t) := (cell_row (j := 10) PV3.out).trans rfl
  have c1 : V3.cell? ⟨w.heap.size + 1 + 1, 0, none⟩ = some (.int .i64 r0) := (cell_row (j := 0) RV3.out).trans rfl
  have c2 : V3.cell? ⟨w.heap.size + 1 + 1, 1, none⟩ = some (.int .i64 r1) := (cell_row (j := 1) RV3.out).trans rfl
  go_wp2_with fail
  refine (from_any _ _ _ _).mono ?_
  rintro r w' ⟨rfl, rfl⟩
  rw [ht]
  obtain ⟨h1, h2, h3⟩ := badS_no hb3
  have q0 : V3.cell? ⟨w.heap.size, 6, none⟩ = some (.int .i64 a) := (cell_row (j := 6) PV3.out).trans rfl
  have q1 : V3.cell? ⟨w.heap.size, 7, none⟩ = some (.int .i64 b) := (cell_row (j := 7) PV3.out).trans rfl
  have q2 : V3.cell? ⟨w.heap.size, 8, none⟩ = some (.int .i64 c) := (cell_row (j := 8) PV3.out).trans rfl
  have q3 : V3.cell? ⟨w.heap.size, 9, none⟩ = some (.int .i64 d) := (cell_row (j := 9) PV3.out).trans rfl
  go_wp2_with fail
  clear h1 h2 h3 hb3 ht c0 c1 c2 q0 q1 q2 q3
  refine (turns_any 1000 _ _ _ _ (by decide) _).mono ?_
  rintro r w4 ⟨rfl, hb⟩
  have HBw4 := hid (show Below w.heap.size w w4 by have hB0 := HBV3.out; refine Below.trans ?_ (hb.mono ?_); (focus ((repeat' (first | (with_reducible exact Below.refl _ _) | (with_reducible assumption) | (with_reducible refine Below.alloc ?_ ?_ _) | (with_reducible refine Below.drew ?_) | (with_reducible refine below_drewN ?_ _) | (with_reducible refine Below.setCell ?_ ?_ _) | (with_reducible refine below_setRow ?_ ?_ _) | go_size)); done)); (focus (first | (simp; done) | (simp; omega) | (have hB1 := hB0.size; simp; omega))))
  have hsw4 := hb.size
  (try simp at hsw4)
  have hzw4 : w.heap.size < w4.heap.size := by omega
  obtain ⟨hcw4, hfw4⟩ := bcell hb
  have hkw4 := hid (fun n x => @heap_still _ _ n x hb)
  clear hb
  have P4 := hid (hkw4.out _ _ PV3.out)
  have S4 := hid (hkw4.out _ _ SV3.out)
  have R4 := hid (hkw4.out _ _ RV3.out)
  have B4 := hid (hkw4.out _ _ BV3.out)
  clear hcw4 hfw4
  rw [hp]
  have s0 : w4.cell? ⟨w.heap.size + 1, 0, none⟩ = some (.int .i64 e) := (cell_row (j := 0) S4.out).trans rfl
  have s1 : w4.cell? ⟨w.heap.size + 1, 1, none⟩ = some (.int .i64 f) := (cell_row (j := 1) S4.out).trans rfl
  have s2 : w4.cell? ⟨w.heap.size + 1, 2, none⟩ = some (.int .i64 g) := (cell_row (j := 2) S4.out).trans rfl
  have s3 : w4.cell? ⟨w.heap.size + 1, 3, none⟩ = some (.int .i64 h) := (cell_row (j := 3) S4.out).trans rfl
  go_wp2_with fail
  clear s0 s1 s2 s3
  refine (turns_any 1000 _ _ _ _ (by decide) _).mono ?_
  rintro r w5 ⟨rfl, hb⟩
  have HBw5 := hid (show Below w.heap.size w w5 by have hB0 := HBw4.out; refine Below.trans ?_ (hb.mono ?_); (focus ((repeat' (first | (with_reducible exact Below.refl _ _) | (with_reducible assumption) | (with_reducible refine Below.alloc ?_ ?_ _) | (with_reducible refine Below.drew ?_) | (with_reducible refine below_drewN ?_ _) | (with_reducible refine Below.setCell ?_ ?_ _) | (with_reducible refine below_setRow ?_ ?_ _) | go_size)); done)); (focus (first | (simp; done) | (simp; omega) | (have hB1 := hB0.size; simp; omega))))
  have hsw5 := hb.size
  (try simp at hsw5)
  have hzw5 : w.heap.size < w5.heap.size := by omega
  obtain ⟨hcw5, hfw5⟩ := bcell hb
  have hkw5 := hid (fun n x => @heap_still _ _ n x hb)
  clear hb
  have P5 := hid (hkw5.out _ _ P4.out)
  have S5 := hid (hkw5.out _ _ S4.out)
  have R5 := hid (hkw5.out _ _ R4.out)
  have B5 := hid (hkw5.out _ _ B4.out)
  clear hcw5 hfw5
  rw [hq]
  have q0 : w5.cell? ⟨w.heap.size, 6, none⟩ = some (.int .i64 a) := (cell_row (j := 6) P5.out).trans rfl
  have q1 : w5.cell? ⟨w.heap.size, 7, none⟩ = some (.int .i64 b) := (cell_row (j := 7) P5.out).trans rfl
  have q2 : w5.cell? ⟨w.heap.size, 8, none⟩ = some (.int .i64 c) := (cell_row (j := 8) P5.out).trans rfl
  have q3 : w5.cell? ⟨w.heap.size, 9, none⟩ = some (.int .i64 d) := (cell_row (j := 9) P5.out).trans rfl
  have s0 : w5.cell? ⟨w.heap.size + 1, 0, none⟩ = some (.int .i64 e) := (cell_row (j := 0) S5.out).trans rfl
  have s1 : w5.cell? ⟨w.heap.size + 1, 1, none⟩ = some (.int .i64 f) := (cell_row (j := 1) S5.out).trans rfl
  have s2 : w5.cell? ⟨w.heap.size + 1, 2, none⟩ = some (.int .i64 g) := (cell_row (j := 2) S5.out).trans rfl
  have s3 : w5.cell? ⟨w.heap.size + 1, 3, none⟩ = some (.int .i64 h) := (cell_row (j := 3) S5.out).trans rfl
  go_wp2_with fail
  clear s0 s1 s2 s3 q0 q1 q2 q3
  refine (HTM.out _).mono ?_
  rintro r w6 ⟨rfl, hb⟩
  have HBw6 := hid (show Below w.heap.size w w6 by have hB0 := HBw5.out; refine Below.trans ?_ (hb.mono ?_); (focus ((repeat' (first | (with_reducible exact Below.refl _ _) | (with_reducible assumption) | (with_reducible refine Below.alloc ?_ ?_ _) | (with_reducible refine Below.drew ?_) | (with_reducible refine below_drewN ?_ _) | (with_reducible refine Below.setCell ?_ ?_ _) | (with_reducible refine below_setRow ?_ ?_ _) | go_size)); done)); (focus (first | (simp; done) | (simp; omega) | (have hB1 := hB0.size; simp; omega))))
  have hsw6 := hb.size
  (try simp at hsw6)
  have hzw6 : w.heap.size < w6.heap.size := by omega
  obtain ⟨hcw6, hfw6⟩ := bcell hb
  have hkw6 := hid (fun n x => @heap_still _ _ n x hb)
  clear hb
  have P6 := hid (hkw6.out _ _ P5.out)
  have R6 := hid (hkw6.out _ _ R5.out)
  have B6 := hid (hkw6.out _ _ B5.out)
  clear hcw6 hfw6
  go_wp2_with fail
  refine (HBM.out _).mono ?_
  rintro r w7 ⟨rfl, hb⟩
  have HBw7 := hid (show Below w.heap.size w w7 by have hB0 := HBw6.out; refine Below.trans ?_ (hb.mono ?_); (focus ((repeat' (first | (with_reducible exact Below.refl _ _) | (with_reducible assumption) | (with_reducible refine Below.alloc ?_ ?_ _) | (with_reducible refine Below.drew ?_) | (with_reducible refine below_drewN ?_ _) | (with_reducible refine Below.setCell ?_ ?_ _) | (with_reducible refine below_setRow ?_ ?_ _) | go_size)); done)); (focus (first | (simp; done) | (simp; omega) | (have hB1 := hB0.size; simp; omega))))
  have hsw7 := hb.size
  (try simp at hsw7)
  have hzw7 : w.heap.size < w7.heap.size := by omega
  obtain ⟨hcw7, hfw7⟩ := bcell hb
  have hkw7 := hid (fun n x => @heap_still _ _ n x hb)
  clear hb
  have P7 := hid (hkw7.out _ _ P6.out)
  have R7 := hid (hkw7.out _ _ R6.out)
  have B7 := hid (hkw7.out _ _ B6.out)
  clear hcw7 hfw7
  have t0 : ∀ o, (w7.alloc o).cell? ⟨w.heap.size, 10, none⟩ = some (.int .i64 t) := fun o => (cell_row (j := 10) (heap_alloc_past _ _ _ _ P7.out)).trans rfl
  have t1 : ∀ o, (w7.alloc o).cell? ⟨w.heap.size + 1 + 1, 1, none⟩ = some (.int .i64 r1) := fun o => (cell_row (j := 1) (heap_alloc_past _ _ _ _ R7.out)).trans rfl
  go_wp2_with fail
  clear t0 t1
  have hz7 : w.heap.size + 1 + 1 + 1 < w7.heap.size := (Array.getElem?_eq_some_iff.1 B7.out).1
  refine (HUP.out _).mono ?_
  rintro r w8 ⟨rfl, hb⟩
  have HBw8 := hid (show Below w.heap.size w w8 by have hB0 := HBw7.out; refine Below.trans ?_ (hb.mono ?_); (focus ((repeat' (first | (with_reducible exact Below.refl _ _) | (with_reducible assumption) | (with_reducible refine Below.alloc ?_ ?_ _) | (with_reducible refine Below.drew ?_) | (with_reducible refine below_drewN ?_ _) | (with_reducible refine Below.setCell ?_ ?_ _) | (with_reducible refine below_setRow ?_ ?_ _) | go_size)); done)); (focus (first | (simp; done) | (simp; omega) | (have hB1 := hB0.size; simp; omega))))
  have hsw8 := hb.size
  (try simp at hsw8)
  have hzw8 : w.heap.size < w8.heap.size := by omega
  obtain ⟨hcw8, hfw8⟩ := bcell hb
  have hkw8 := hid (fun n x => @heap_still _ _ n x hb)
  clear hb
  have P8 := hid (hkw8.out _ _ (heap_alloc_past _ _ _ _ P7.out))
  have R8 := hid (hkw8.out _ _ (heap_alloc_past _ _ _ _ R7.out))
  have B8 := hid (hkw8.out _ _ (heap_alloc_past _ _ _ _ B7.out))
  have K8 := hid (hkw8.out _ _ (heap_alloc_at _ _ _ rfl) : w8.heap[w7.heap.size]? = some (.cells #[.int .i64 k0, .int .i64 k1, .int .i64 k2] 26))
  clear hcw8 hfw8
  go_wp2_with fail
  refine gen_world (fun W7 hW7 => ?_)
  have HB7 := hid (show Below w.heap.size w W7 by rw [hW7]; exact HBw8.out.alloc (by omega) _)
  have P9 := hid (show W7.heap[w.heap.size]? = some (.cells #[.int .i64 x0, .int .i64 x1, .int .i64 y0, .int .i64 y1, .int .i64 z0, .int .i64 z1, .int .i64 a, .int .i64 b, .int .i64 c, .int .i64 d, .int .i64 t] 80) by rw [hW7]; exact heap_alloc_past _ _ _ _ P8.out)
  have R9 := hid (show W7.heap[w.heap.size + 1 + 1]? = some (.cells #[.int .i64 r0, .int .i64 r1] 44) by rw [hW7]; exact heap_alloc_past _ _ _ _ R8.out)
  have B9 := hid (show W7.heap[w.heap.size + 1 + 1 + 1]? = some (.cells #[.int .i64 0, .int .i64 0, .int .i64 0, .int .i64 0, .int .i64 0, .int .i64 0] 46) by rw [hW7]; exact heap_alloc_past _ _ _ _ B8.out)
  have K9 := hid (show W7.heap[w7.heap.size]? = some (.cells #[.int .i64 k0, .int .i64 k1, .int .i64 k2] 26) by rw [hW7]; exact heap_alloc_past _ _ _ _ K8.out)
  have G9 := hid (show W7.heap[w8.heap.size]? = some (.cells (spA v0 v1 v2 v3 v4 v5 0) 78) by rw [hW7]; exact heap_alloc_at _ _ _ rfl)
  have hz78 : w7.heap.size < w8.heap.size := (Array.getElem?_eq_some_iff.1 K8.out).1
  have hs7 : W7.heap.size = w8.heap.size + 1 := by rw [hW7]; simp
  clear hW7 hp hq
  go_loopw [91] (fun i wr => ∃ m : Nat, m ≤ 3 ∧ i = .int .i64 m ∧ (∀ j, j < m → locOk ([v0, v2, v4].getD j 0) ([v1, v3, v5].getD j 0) = true) ∧ wr.heap[w8.heap.size]? = some (.cells (spA v0 v1 v2 v3 v4 v5 m) 78) ∧ Below w8.heap.size W7 wr) (fun i _ => 3 - (intOf i).toNat)
  case atStart => exact ⟨0, by omega, rfl, fun j hj => absurd hj (Nat.not_lt_zero _), G9.out, Below.refl _ _⟩
  case round =>
    obtain ⟨m, hm, rfl, hall, hg, hB⟩ := hrel
    have hszr := hB.size
    have HALL := hid hall
    have FG := hid hg
    have FL := hid hB
    have HBR := hid (HB7.out.trans (hB.mono (by omega)))
    have FP := hid (heap_below hB (by omega) P9.out)
    have FR := hid (heap_below hB (by omega) R9.out)
    have FB := hid (heap_below hB (by omega) B9.out)
    have FK := hid (heap_below hB (by omega) K9.out)
    clear hall hg hB
    by_cases hlt : m < 3
    · have hdm : decide ((m : Int) < 3) = true := by simp; omega
      have HKC := hid (show (#[.int .i64 k0, .int .i64 k1, .int .i64 k2] : Array Value)[m]? = some (.int .i64 ([k0, k1, k2].getD m 0)) from rot_cell3 (l := [k0, k1, k2]) hlt)
      have HPL := hid (pose_lo x0 x1 y0 y1 z0 z1 a b c d t m hlt)
      have HPH := hid (pose_hi x0 x1 y0 y1 z0 z1 a b c d t m hlt)
      have hv := HVV.out m hlt
      have hkk := HKB.out m hlt
      obtain ⟨⟨hc1, hc2⟩, hc3, hc4⟩ := HCB.out m hlt
      obtain ⟨ha1, ha2, ha3⟩ := HAB.out m hlt
      have HARM := hid (HAR.out m hlt)
      have HOK := hid (show locOk ([v0, v2, v4].getD m 0) ([v1, v3, v5].getD m 0) = false → locAll v0 v1 v2 v3 v4 v5 = false from fun h => by unfold locAll; exact loc_bad m hlt (by rw [ok_at v0 v1 v2 v3 v4 v5 m hlt]; exact h))
      obtain ⟨lo, hlo⟩ : ∃ lo, lo = [v0, v2, v4].getD m 0 := ⟨_, rfl⟩
      obtain ⟨hi, hhi⟩ : ∃ hi, hi = [v1, v3, v5].getD m 0 := ⟨_, rfl⟩
      have HD1 := hid hlo.symm
      have HD2 := hid hhi.symm
      rw [← hlo, ← hhi] at hv HOK
      clear hlo hhi
      generalize [k0, k1, k2].getD m 0 = kk at *
      generalize [x0, y0, z0].getD m 0 = cl at *
      generalize [x1, y1, z1].getD m 0 = ch at *
      generalize [al0, al1, al2].getD m 0 = al at *
      generalize [be0, be1, be2].getD m 0 = be at *
      obtain ⟨hv1, hv2⟩ := hv
      have HKW := hid (fun W => whole_any kk W (by omega))
      have HNW := hid (fun W => whole_any n W (by omega))
      have HQN := hid (show ((n : Int) : Rat) ≠ 0 from fun hh => by have := Rat.intCast_inj.1 (hh.trans Rat.intCast_zero.symm); omega)
      have HLW := hid (fun j (hj : j < 2) W => whole_any ([cl, ch].getD j 0) W (by match j, hj with | 0, _ => (show _ ≤ cl ∧ cl ≤ _; omega) | 1, _ => (show _ ≤ ch ∧ ch ≤ _; omega)))
      have HSW := hid (fun j (hj : j < 2) W => whole_any ([r0, r1].getD j 0) W (by match j, hj with | 0, _ => (show _ ≤ r0 ∧ r0 ≤ _; omega) | 1, _ => (show _ ≤ r1 ∧ r1 ≤ _; omega)))
      have HFQ := hid (fourQ_at cl ch kk r0 r1 n)
      generalize fourQ cl ch kk r0 r1 n = Q4 at *
      go_wp2_with fail
      refine gen_world (fun W1 hW => ?_)
      have HB1 := hid (show Below w.heap.size w W1 by rw [hW]; exact HBR.out)
      have GP := hid (show W1.heap[w.heap.size]? = some (.cells #[.int .i64 x0, .int .i64 x1, .int .i64 y0, .int .i64 y1, .int .i64 z0, .int .i64 z1, .int .i64 a, .int .i64 b, .int .i64 c, .int .i64 d, .int .i64 t] 80) by rw [hW]; exact FP.out)
      have GR := hid (show W1.heap[w.heap.size + 1 + 1]? = some (.cells #[.int .i64 r0, .int .i64 r1] 44) by rw [hW]; exact FR.out)
      have GB := hid (show W1.heap[w.heap.size + 1 + 1 + 1]? = some (.cells #[.int .i64 0, .int .i64 0, .int .i64 0, .int .i64 0, .int .i64 0, .int .i64 0] 46) by rw [hW]; exact FB.out)
      have GK := hid (show W1.heap[w7.heap.size]? = some (.cells #[.int .i64 k0, .int .i64 k1, .int .i64 k2] 26) by rw [hW]; exact FK.out)
      have GG := hid (show W1.heap[w8.heap.size]? = some (.cells (spA v0 v1 v2 v3 v4 v5 m) 78) by rw [hW]; exact FG.out)
      have GL := hid (show Below w8.heap.size W7 W1 by rw [hW]; exact FL.out)
      have hsz1 : wr.heap.size = W1.heap.size := by rw [hW]
      clear hW FP FR FB FK FG FL HBR
      refine gen_act (fun A0 hA => ?_)
      refine wp_region_pl (by kernel_rfl) (by kernel_rfl) [some 94, some 95, some 96, some 97, some 98, some 99, some 100, some 101, some 102, some 103, some 104, some 105, some 106] rfl (by decide)
        [IsV (.int .i64 (m : Int)), IsV (.pointer (some ⟨w.heap.size, 0, none⟩)), IsV (.pointer (some ⟨w.heap.size, m * 2, none⟩)), IsV (.pointer (some ⟨w.heap.size, m * 2, none⟩)), IsV (.int .i64 cl), IsV (.int .i64 (m : Int)), IsV (.pointer (some ⟨w.heap.size, 0, none⟩)), IsV (.pointer (some ⟨w.heap.size, m * 2, none⟩)), IsV (.pointer (some ⟨w.heap.size, m * 2 + 1, none⟩)), IsV (.int .i64 ch), FreshTwo W1.heap.size cl ch, IsV (.int .i64 2), IsV (.int .i64 0)]
        ⟨IsV.stb _, IsV.stb _, IsV.stb _, IsV.stb _, IsV.stb _, IsV.stb _, IsV.stb _, IsV.stb _, IsV.stb _, IsV.stb _, FreshTwo.stb _ _ _, IsV.stb _, IsV.stb _, trivial⟩ ?hs1_18_W2 ?hend_18_W2
      case hs1_18_W2 =>
        refine ⟨?_, ?_, ?_, ?_, ?_, ?_, ?_, ?_, ?_, ?_, ?_, ?_, ?_, trivial⟩
        · intro K us W hK0 hB hd
          have hK := hid hK0; clear hK0
          have HBW := hid hB
          have hsW := hB.size
          have GB := hid (HB1.out.trans (hB.mono HB1.out.size))
          clear hd
          simp only [putF]
          rw [hA]
          go_frame
          go_wp2_with fail
          exact hK.out _ _ _ (by rw [hA]; simp only [putF]; kernel_rfl) (Below.refl _ _) rfl
        · intro K us W hK0 hB hd
          have hK := hid hK0; clear hK0
          have HBW := hid hB
          have hsW := hB.size
          have GB := hid (HB1.out.trans (hB.mono HB1.out.size))
          clear hd
          simp only [putF]
          rw [hA]
          go_frame
          go_wp2_with fail
          exact hK.out _ _ _ (by rw [hA]; simp only [putF]; kernel_rfl) (Below.refl _ _) rfl
        · intro K us W hK0 hB hd
          have hK := hid hK0; clear hK0
          have HBW := hid hB
          have hsW := hB.size
          have GB := hid (HB1.out.trans (hB.mono HB1.out.size))
          have e1 : us 1 = .pointer (some ⟨w.heap.size, 0, none⟩) := hd ⟨1, Ground.data⟩ (by simp) rfl
          have e0 : us 0 = .int .i64 (m : Int) := hd ⟨0, Ground.data⟩ (by simp) rfl
          clear hd
          simp only [putF]
          rw [hA, e1, e0]
          go_frame
          go_wp2_with fail
          exact hK.out _ _ _ (by rw [hA]; simp only [putF]; rw [e1, e0]; kernel_rfl) (Below.refl _ _) rfl
        · intro K us W hK0 hB hd
          have hK := hid hK0; clear hK0
          have HBW := hid hB
          have hsW := hB.size
          have GB := hid (HB1.out.trans (hB.mono HB1.out.size))
          have e2 : us 2 = .pointer (some ⟨w.heap.size, m * 2, none⟩) := hd ⟨2, Ground.data⟩ (by simp) rfl
          clear hd
          simp only [putF]
          rw [hA, e2]
          go_frame
          go_wp2_with fail
          exact hK.out _ _ _ (by rw [hA]; simp only [putF]; rw [e2]; kernel_rfl) (Below.refl _ _) rfl
        · intro K us W hK0 hB hd
          have hK := hid hK0; clear hK0
          have HBW := hid hB
          have hsW := hB.size
          have GB := hid (HB1.out.trans (hB.mono HB1.out.size))
          have e3 : us 3 = .pointer (some ⟨w.heap.size, m * 2, none⟩) := hd ⟨3, Ground.data⟩ (by simp) rfl
          clear hd
          have c0 : W.cell? ⟨w.heap.size, m * 2, none⟩ = some (.int .i64 cl) := (cell_row (heap_still hB GP.out)).trans HPL.out
          simp only [putF]
          rw [hA, e3]
          go_frame
          go_wp2_with fail
          exact hK.out _ _ _ (by rw [hA]; simp only [putF]; rw [e3]; kernel_rfl) (Below.refl _ _) rfl
        · intro K us W hK0 hB hd
          have hK := hid hK0; clear hK0
          have HBW := hid hB
          have hsW := hB.size
          have GB := hid (HB1.out.trans (hB.mono HB1.out.size))
          clear hd
          simp only [putF]
          rw [hA]
          go_frame
          go_wp2_with fail
          exact hK.out _ _ _ (by rw [hA]; simp only [putF]; kernel_rfl) (Below.refl _ _) rfl
        · intro K us W hK0 hB hd
          have hK := hid hK0; clear hK0
          have HBW := hid hB
          have hsW := hB.size
          have GB := hid (HB1.out.trans (hB.mono HB1.out.size))
          clear hd
          simp only [putF]
          rw [hA]
          go_frame
          go_wp2_with fail
          exact hK.out _ _ _ (by rw [hA]; simp only [putF]; kernel_rfl) (Below.refl _ _) rfl
        · intro K us W hK0 hB hd
          have hK := hid hK0; clear hK0
          have HBW := hid hB
          have hsW := hB.size
          have GB := hid (HB1.out.trans (hB.mono HB1.out.size))
          have e6 : us 6 = .pointer (some ⟨w.heap.size, 0, none⟩) := hd ⟨6, Ground.data⟩ (by simp) rfl
          have e5 : us 5 = .int .i64 (m : Int) := hd ⟨5, Ground.data⟩ (by simp) rfl
          clear hd
          simp only [putF]
          rw [hA, e6, e5]
          go_frame
          go_wp2_with fail
          exact hK.out _ _ _ (by rw [hA]; simp only [putF]; rw [e6, e5]; kernel_rfl) (Below.refl _ _) rfl
        · intro K us W hK0 hB hd
          have hK := hid hK0; clear hK0
          have HBW := hid hB
          have hsW := hB.size
          have GB := hid (HB1.out.trans (hB.mono HB1.out.size))
          have e7 : us 7 = .pointer (some ⟨w.heap.size, m * 2, none⟩) := hd ⟨7, Ground.data⟩ (by simp) rfl
          clear hd
          simp only [putF]
          rw [hA, e7]
          go_frame
          go_wp2_with fail
          exact hK.out _ _ _ (by rw [hA]; simp only [putF]; rw [e7]; kernel_rfl) (Below.refl _ _) rfl
        · intro K us W hK0 hB hd
          have hK := hid hK0; clear hK0
          have HBW := hid hB
          have hsW := hB.size
          have GB := hid (HB1.out.trans (hB.mono HB1.out.size))
          have e8 : us 8 = .pointer (some ⟨w.heap.size, m * 2 + 1, none⟩) := hd ⟨8, Ground.data⟩ (by simp) rfl
          clear hd
          have c0 : W.cell? ⟨w.heap.size, m * 2 + 1, none⟩ = some (.int .i64 ch) := (cell_row (heap_still hB GP.out)).trans HPH.out
          simp only [putF]
          rw [hA, e8]
          go_frame
          go_wp2_with fail
          exact hK.out _ _ _ (by rw [hA]; simp only [putF]; rw [e8]; kernel_rfl) (Below.refl _ _) rfl
        · intro K us W hK0 hB hd
          have hK := hid hK0; clear hK0
          have HBW := hid hB
          have hsW := hB.size
          have GB := hid (HB1.out.trans (hB.mono HB1.out.size))
          have e4 : us 4 = .int .i64 cl := hd ⟨4, Ground.data⟩ (by simp) rfl
          have e9 : us 9 = .int .i64 ch := hd ⟨9, Ground.data⟩ (by simp) rfl
          clear hd
          simp only [putF]
          rw [hA, e4, e9]
          go_frame
          go_wp2_with fail
          exact hK.out _ _ _ (by rw [hA]; simp only [putF]; rw [e4, e9]; kernel_rfl) ((Below.refl _ _).alloc (Nat.le_refl _) _) (⟨_, rfl, hsW, heap_alloc_at _ _ _ rfl⟩)
        · intro K us W hK0 hB hd
          have hK := hid hK0; clear hK0
          have HBW := hid hB
          have hsW := hB.size
          have GB := hid (HB1.out.trans (hB.mono HB1.out.size))
          have hd10 : (FreshTwo W1.heap.size cl ch) W (us 10) := hd ⟨10, Ground.data⟩ (by simp) rfl
          obtain ⟨g10, e10, hg10, hh10⟩ := hd10
          clear hd
          simp only [putF]
          rw [hA, e10]
          go_frame
          go_wp2_with fail
          exact hK.out _ _ _ (by rw [hA]; simp only [putF]; rw [e10]; kernel_rfl) (Below.refl _ _) rfl
        · intro K us W hK0 hB hd
          have hK := hid hK0; clear hK0
          have HBW := hid hB
          have hsW := hB.size
          have GB := hid (HB1.out.trans (hB.mono HB1.out.size))
          clear hd
          simp only [putF]
          rw [hA]
          go_frame
          go_wp2_with fail
          exact hK.out _ _ _ (by rw [hA]; simp only [putF]; kernel_rfl) (Below.refl _ _) rfl
      intro us W2 hB hp
      have hd10 : (FreshTwo W1.heap.size cl ch) W2 (us 10) := hp 10 (by decide)
      obtain ⟨g10, e10, hg10, hh10⟩ := hd10
      have e11 : us 11 = .int .i64 2 := hp 11 (by decide)
      have e12 : us 12 = .int .i64 0 := hp 12 (by decide)
      have HB2 := hid (HB1.out.trans (hB.mono HB1.out.size))
      have HSW2 := hid (fun n x => @heap_still _ _ n x hB)
      have hzW2 := hB.size
      have hbW2 := hid hB
      clear hp
      clear hB
      simp only [putF]
      rw [hA, e10, e11, e12]
      clear hA e10 e11 e12
      go_frame
      simp only [Nat.reduceAdd]
      have KP := hid (HSW2.out _ _ GP.out)
      have KR := hid (HSW2.out _ _ GR.out)
      have KB := hid (HSW2.out _ _ GB.out)
      have KK := hid (HSW2.out _ _ GK.out)
      have KG := hid (HSW2.out _ _ GG.out)
      have KT := hid hh10
      have KL := hid (GL.out.trans (hbW2.out.mono (by omega)))
      have hgT : g10 < W2.heap.size := (Array.getElem?_eq_some_iff.1 hh10).1
      have hz2 : w8.heap.size < W2.heap.size := (Array.getElem?_eq_some_iff.1 KG.out).1
      clear hh10 GP GR GB GK GG GL
      go_wp2_with fail
      go_loopw [16, 106] (fun v i wr => ∃ (j : Nat) (vq : Value), j ≤ 2 ∧ vq = v ∧ i = .int .i64 j ∧ QSt Q4 65 W2.heap.size wr vq (2 * j) ∧ Below W2.heap.size W2 wr) (fun _ i _ => 2 - (intOf i).toNat)
      case atStart => exact ⟨0, _, by omega, rfl, rfl, QSt.nil _ _ _ _, Below.refl _ _⟩
      case round =>
        obtain ⟨j, vq, hj, rfl, rfl, hqs, hB⟩ := hrel
        refine gen_world (fun W3 hW => ?_)
        rw [← hW] at hqs hB
        clear hW
        have hsz3 := hB.size
        have HQS := hid hqs
        have JL := hid hB
        have HB3 := hid (HB2.out.trans (hB.mono HB2.out.size))
        have JR := hid (heap_below hB (by omega) KR.out)
        have JT := hid (heap_below hB hgT KT.out)
        clear hqs hB
        by_cases hlj : j < 2
        · have hdj : decide ((j : Int) < 2) = true := by simp; omega
          have HTC := hid (two_at cl ch j hlj)
          have HLWJ := hid (HLW.out j hlj)
          have HFJ := hid (HFQ.out j hlj)
          generalize [cl, ch].getD j 0 = cj at *
          have cT : W3.cell? ⟨g10, j, none⟩ = some (.int .i64 cj) := (cell_row JT.out).trans HTC.out
          have c0 : W3.cell? ⟨w.heap.size + 1 + 1, 0, none⟩ = some (.int .i64 r0) := (cell_row (j := 0) JR.out).trans rfl
          have c1 : W3.cell? ⟨w.heap.size + 1 + 1, 1, none⟩ = some (.int .i64 r1) := (cell_row (j := 1) JR.out).trans rfl
          go_wp2_with fail
          clear cT c0 c1
          refine gen_world (fun W4 hW => ?_)
          have HQ4 := hid (show QSt Q4 65 W2.heap.size W4 vq (2 * j) by rw [hW]; exact HQS.out.grow ((Below.refl _ _).alloc (Nat.le_refl _) _))
          have LL := hid (show Below W2.heap.size W2 W4 by rw [hW]; exact JL.out.alloc (by omega) _)
          have LS := hid (show W4.heap[W3.heap.size]? = some (.cells #[.int .i64 r0, .int .i64 r1] 3) by rw [hW]; exact heap_alloc_at _ _ _ rfl)
          clear hW HQS JL JR JT HB3
          go_loopw [16, 116] (fun v i wr => ∃ (l : Nat) (vl : Value), l ≤ 2 ∧ vl = v ∧ i = .int .i64 l ∧ QSt Q4 65 W2.heap.size wr vl (2 * j + l) ∧ Below W2.heap.size W2 wr ∧ wr.heap[W3.heap.size]? = some (.cells #[.int .i64 r0, .int .i64 r1] 3)) (fun _ i _ => 2 - (intOf i).toNat)
          case atStart => exact ⟨0, _, by omega, rfl, rfl, HQ4.out, LL.out, LS.out⟩
          case round =>
            obtain ⟨l, vl, hl, rfl, rfl, hqs, hB, hS⟩ := hrel
            clear HQ4 LL LS
            refine gen_world (fun W5 hW => ?_)
            rw [← hW] at hqs hB hS
            clear hW
            have hsz5 := hB.size
            have HQ5 := hid hqs
            have ML := hid hB
            have MS := hid hS
            have HB5 := hid (HB2.out.trans (hB.mono HB2.out.size))
            have MK := hid (heap_below hB (by omega) KK.out)
            clear hqs hB hS
            by_cases hll : l < 2
            · have hdl : decide ((l : Int) < 2) = true := by simp; omega
              have HSC := hid (two_at r0 r1 l hll)
              have HSWL := hid (HSW.out l hll)
              have HFL := hid (HFJ.out l hll)
              generalize [r0, r1].getD l 0 = sl at *
              have cS : W5.cell? ⟨W3.heap.size, l, none⟩ = some (.int .i64 sl) := (cell_row MS.out).trans HSC.out
              go_wp2_with fail
              clear cS
              refine gen_world (fun W6 hW => ?_)
              have HB6 := hid (show Below w.heap.size w W6 by rw [hW]; exact HB5.out)
              have NQ := hid (show QSt Q4 65 W2.heap.size W6 vl (2 * j + l) by rw [hW]; exact HQ5.out)
              have NL := hid (show Below W2.heap.size W2 W6 by rw [hW]; exact ML.out)
              have NS := hid (show W6.heap[W3.heap.size]? = some (.cells #[.int .i64 r0, .int .i64 r1] 3) by rw [hW]; exact MS.out)
              have NK := hid (show W6.heap[w7.heap.size]? = some (.cells #[.int .i64 k0, .int .i64 k1, .int .i64 k2] 26) by rw [hW]; exact MK.out)
              have hsz6 : W2.heap.size ≤ W6.heap.size := NL.out.size
              clear hW HB5 HQ5 ML MS MK
              refine gen_act (fun A0 hA => ?_)
              refine wp_region_tailU (by kernel_rfl) (by kernel_rfl) [some 120, some 121, some 122, some 123, some 124, some 125, some 126, some 127, some 128, some 129, some 130, some 131, some 132, some 133, some 134, some 135, some 16] rfl (by decide) 15 (by decide) (by kernel_rfl) (by kernel_rfl)
                [IsV (vl), IsV (.int .i64 cj), fun W v => QAt W v (cj : Rat) 4, IsV (.int .i64 (m : Int)), IsV (.pointer (some ⟨w7.heap.size, m, none⟩)), IsV (.int .i64 kk), fun W v => QAt W v (kk : Rat) 4, IsV (.int .i64 sl), fun W v => QAt W v (sl : Rat) 4, fun W v => QAt W v ((kk : Rat) * (sl : Rat)) 8, IsV (.int .i64 n), fun W v => QAt W v (n : Rat) 4, fun W v => QAt W v ((kk : Rat) * (sl : Rat) / (n : Rat)) 16, fun W v => QAt W v ((cj : Rat) + (kk : Rat) * (sl : Rat) / (n : Rat)) 65, FreshQ W6.heap.size ((cj : Rat) + (kk : Rat) * (sl : Rat) / (n : Rat)) 65]
                ⟨IsV.stb _, IsV.stb _, QAt.stb _ _, IsV.stb _, IsV.stb _, IsV.stb _, QAt.stb _ _, IsV.stb _, QAt.stb _ _, QAt.stb _ _, IsV.stb _, QAt.stb _ _, QAt.stb _ _, QAt.stb _ _, FreshQ.stb _ _ _, trivial⟩ ?hs1_24_W8 ?hend_24_W8
              case hs1_24_W8 =>
                refine ⟨?_, ?_, ?_, ?_, ?_, ?_, ?_, ?_, ?_, ?_, ?_, ?_, ?_, ?_, ?_, trivial⟩
                · intro K us W hK0 hB hd
                  have hK := hid hK0; clear hK0
                  intro hu
                  have HBW := hid hB
                  have hsW := hB.size
                  have GB := hid (HB6.out.trans (hB.mono HB6.out.size))
                  have e16 : us 16 = vl := (hu 16 (by decide)).trans (by rw [hA]; kernel_rfl)
                  clear hd hu
                  simp only [putF]
                  rw [hA, e16]
                  go_frame
                  go_wp2_with fail
                  exact hK.out _ _ _ (by rw [hA]; simp only [putF]; rw [e16]; kernel_rfl) (Below.refl _ _) rfl
                · intro K us W hK0 hB hd
                  have hK := hid hK0; clear hK0
                  intro hu
                  have HBW := hid hB
                  have hsW := hB.size
                  have GB := hid (HB6.out.trans (hB.mono HB6.out.size))
                  clear hd hu
                  simp only [putF]
                  rw [hA]
                  go_frame
                  go_wp2_with fail
                  exact hK.out _ _ _ (by rw [hA]; simp only [putF]; kernel_rfl) (Below.refl _ _) rfl
                · intro K us W hK0 hB hd
                  have hK := hid hK0; clear hK0
                  intro hu
                  have HBW := hid hB
                  have hsW := hB.size
                  have GB := hid (HB6.out.trans (hB.mono HB6.out.size))
                  have e1 : us 1 = .int .i64 cj := hd ⟨1, Ground.data⟩ (by simp) rfl
                  clear hd hu
                  simp only [putF]
                  rw [hA, e1]
                  go_frame
                  go_wp2_with fail
                  refine (HLWJ.out W).mono ?_
                  rintro r W' ⟨⟨v, rfl, hv⟩, hb⟩
                  go_wp2_with fail
                  exact hK.out _ _ _ (by rw [hA]; simp only [putF]; rw [e1]; kernel_rfl) hb hv
                · intro K us W hK0 hB hd
                  have hK := hid hK0; clear hK0
                  intro hu
                  have HBW := hid hB
                  have hsW := hB.size
                  have GB := hid (HB6.out.trans (hB.mono HB6.out.size))
                  clear hd hu
                  simp only [putF]
                  rw [hA]
                  go_frame
                  go_wp2_with fail
                  exact hK.out _ _ _ (by rw [hA]; simp only [putF]; kernel_rfl) (Below.refl _ _) rfl
                · intro K us W hK0 hB hd
                  have hK := hid hK0; clear hK0
                  intro hu
                  have HBW := hid hB
                  have hsW := hB.size
                  have GB := hid (HB6.out.trans (hB.mono HB6.out.size))
                  have e3 : us 3 = .int .i64 (m : Int) := hd ⟨3, Ground.data⟩ (by simp) rfl
                  clear hd hu
                  simp only [putF]
                  rw [hA, e3]
                  go_frame
                  go_wp2_with fail
                  exact hK.out _ _ _ (by rw [hA]; simp only [putF]; rw [e3]; kernel_rfl) (Below.refl _ _) rfl
                · intro K us W hK0 hB hd
                  have hK := hid hK0; clear hK0
                  intro hu
                  have HBW := hid hB
                  have hsW := hB.size
                  have GB := hid (HB6.out.trans (hB.mono HB6.out.size))
                  have e4 : us 4 = .pointer (some ⟨w7.heap.size, m, none⟩) := hd ⟨4, Ground.data⟩ (by simp) rfl
                  clear hd hu
                  have c0 : W.cell? ⟨w7.heap.size, m, none⟩ = some (.int .i64 kk) := (cell_row (heap_still hB NK.out)).trans HKC.out
                  simp only [putF]
                  rw [hA, e4]
                  go_frame
                  go_wp2_with fail
                  exact hK.out _ _ _ (by rw [hA]; simp only [putF]; rw [e4]; kernel_rfl) (Below.refl _ _) rfl
                · intro K us W hK0 hB hd
                  have hK := hid hK0; clear hK0
                  intro hu
                  have HBW := hid hB
                  have hsW := hB.size
                  have GB := hid (HB6.out.trans (hB.mono HB6.out.size))
                  have e5 : us 5 = .int .i64 kk := hd ⟨5, Ground.data⟩ (by simp) rfl
                  clear hd hu
                  simp only [putF]
                  rw [hA, e5]
                  go_frame
                  go_wp2_with fail
                  refine (HKW.out W).mono ?_
                  rintro r W' ⟨⟨v, rfl, hv⟩, hb⟩
                  go_wp2_with fail
                  exact hK.out _ _ _ (by rw [hA]; simp only [putF]; rw [e5]; kernel_rfl) hb hv
                · intro K us W hK0 hB hd
                  have hK := hid hK0; clear hK0
                  intro hu
                  have HBW := hid hB
                  have hsW := hB.size
                  have GB := hid (HB6.out.trans (hB.mono HB6.out.size))
                  clear hd hu
                  simp only [putF]
                  rw [hA]
                  go_frame
                  go_wp2_with fail
                  exact hK.out _ _ _ (by rw [hA]; simp only [putF]; kernel_rfl) (Below.refl _ _) rfl
                · intro K us W hK0 hB hd
                  have hK := hid hK0; clear hK0
                  intro hu
                  have HBW := hid hB
                  have hsW := hB.size
                  have GB := hid (HB6.out.trans (hB.mono HB6.out.size))
                  have e7 : us 7 = .int .i64 sl := hd ⟨7, Ground.data⟩ (by simp) rfl
                  clear hd hu
                  simp only [putF]
                  rw [hA, e7]
                  go_frame
                  go_wp2_with fail
                  refine (HSWL.out W).mono ?_
                  rintro r W' ⟨⟨v, rfl, hv⟩, hb⟩
                  go_wp2_with fail
                  exact hK.out _ _ _ (by rw [hA]; simp only [putF]; rw [e7]; kernel_rfl) hb hv
                · intro K us W hK0 hB hd
                  have hK := hid hK0; clear hK0
                  intro hu
                  have HBW := hid hB
                  have hsW := hB.size
                  have GB := hid (HB6.out.trans (hB.mono HB6.out.size))
                  have hd6 : (fun W v => QAt W v (kk : Rat) 4) W (us 6) := hd ⟨6, Ground.data⟩ (by simp) rfl
                  obtain ⟨cs6, e6, hcs6, hco6⟩ := hd6.cells
                  rw [e6] at hd6
                  have HH6 := hid hd6
                  clear hd6
                  have hd8 : (fun W v => QAt W v (sl : Rat) 4) W (us 8) := hd ⟨8, Ground.data⟩ (by simp) rfl
                  obtain ⟨cs8, e8, hcs8, hco8⟩ := hd8.cells
                  rw [e8] at hd8
                  have HH8 := hid hd8
                  clear hd8
                  clear hd hu
                  simp only [putF]
                  rw [hA, e6, e8]
                  go_frame
                  go_wp2_with fail
                  refine (qmul_any _ _ 4 _ _ W HH6.out HH8.out (by decide)).mono ?_
                  rintro r W' ⟨⟨v, rfl, hv⟩, hb⟩
                  go_wp2_with fail
                  exact hK.out _ _ _ (by rw [hA]; simp only [putF]; rw [e6, e8]; kernel_rfl) hb hv
                · intro K us W hK0 hB hd
                  have hK := hid hK0; clear hK0
                  intro hu
                  have HBW := hid hB
                  have hsW := hB.size
                  have GB := hid (HB6.out.trans (hB.mono HB6.out.size))
                  clear hd hu
                  simp only [putF]
                  rw [hA]
                  go_frame
                  go_wp2_with fail
                  exact hK.out _ _ _ (by rw [hA]; simp only [putF]; kernel_rfl) (Below.refl _ _) rfl
                · intro K us W hK0 hB hd
                  have hK := hid hK0; clear hK0
                  intro hu
                  have HBW := hid hB
                  have hsW := hB.size
                  have GB := hid (HB6.out.trans (hB.mono HB6.out.size))
                  have e10 : us 10 = .int .i64 n := hd ⟨10, Ground.data⟩ (by simp) rfl
                  clear hd hu
                  simp only [putF]
                  rw [hA, e10]
                  go_frame
                  go_wp2_with fail
                  refine (HNW.out W).mono ?_
                  rintro r W' ⟨⟨v, rfl, hv⟩, hb⟩
                  go_wp2_with fail
                  exact hK.out _ _ _ (by rw [hA]; simp only [putF]; rw [e10]; kernel_rfl) hb hv
                · intro K us W hK0 hB hd
                  have hK := hid hK0; clear hK0
                  intro hu
                  have HBW := hid hB
                  have hsW := hB.size
                  have GB := hid (HB6.out.trans (hB.mono HB6.out.size))
                  have hd9 : (fun W v => QAt W v ((kk : Rat) * (sl : Rat)) 8) W (us 9) := hd ⟨9, Ground.data⟩ (by simp) rfl
                  obtain ⟨cs9, e9, hcs9, hco9⟩ := hd9.cells
                  rw [e9] at hd9
                  have HH9 := hid hd9
                  clear hd9
                  have hd11 : (fun W v => QAt W v (n : Rat) 4) W (us 11) := hd ⟨11, Ground.data⟩ (by simp) rfl
                  obtain ⟨cs11, e11, hcs11, hco11⟩ := hd11.cells
                  rw [e11] at hd11
                  have HH11 := hid hd11
                  clear hd11
                  clear hd hu
                  simp only [putF]
                  rw [hA, e9, e11]
                  go_frame
                  go_wp2_with fail
                  refine (qdiv_any _ _ 8 _ _ W HH9.out (HH11.out.wide (by decide)) (by decide) HQN.out).mono ?_
                  rintro r W' ⟨⟨v, rfl, hv⟩, hb⟩
                  go_wp2_with fail
                  exact hK.out _ _ _ (by rw [hA]; simp only [putF]; rw [e9, e11]; kernel_rfl) hb hv
                · intro K us W hK0 hB hd
                  have hK := hid hK0; clear hK0
                  intro hu
                  have HBW := hid hB
                  have hsW := hB.size
                  have GB := hid (HB6.out.trans (hB.mono HB6.out.size))
                  have hd2 : (fun W v => QAt W v (cj : Rat) 4) W (us 2) := hd ⟨2, Ground.data⟩ (by simp) rfl
                  obtain ⟨cs2, e2, hcs2, hco2⟩ := hd2.cells
                  rw [e2] at hd2
                  have HH2 := hid hd2
                  clear hd2
                  have hd12 : (fun W v => QAt W v ((kk : Rat) * (sl : Rat) / (n : Rat)) 16) W (us 12) := hd ⟨12, Ground.data⟩ (by simp) rfl
                  obtain ⟨cs12, e12, hcs12, hco12⟩ := hd12.cells
                  rw [e12] at hd12
                  have HH12 := hid hd12
                  clear hd12
                  clear hd hu
                  simp only [putF]
                  rw [hA, e2, e12]
                  go_frame
                  go_wp2_with fail
                  refine (qadd_any _ _ 16 _ _ W (HH2.out.wide (by decide)) HH12.out (by decide)).mono ?_
                  rintro r W' ⟨⟨v, rfl, hv⟩, hb⟩
                  go_wp2_with fail
                  exact hK.out _ _ _ (by rw [hA]; simp only [putF]; rw [e2, e12]; kernel_rfl) hb hv
                · intro K us W hK0 hB hd
                  have hK := hid hK0; clear hK0
                  intro hu
                  have HBW := hid hB
                  have hsW := hB.size
                  have GB := hid (HB6.out.trans (hB.mono HB6.out.size))
                  have hd13 : (fun W v => QAt W v ((cj : Rat) + (kk : Rat) * (sl : Rat) / (n : Rat)) 65) W (us 13) := hd ⟨13, Ground.data⟩ (by simp) rfl
                  obtain ⟨cs13, e13, hcs13, hco13⟩ := hd13.cells
                  rw [e13] at hd13
                  have HH13 := hid hd13
                  clear hd13
                  clear hd hu
                  obtain ⟨_, _, _, _, _, _, _, rfl⟩ := HH13.out.shape
                  simp only [putF]
                  rw [hA, e13]
                  go_frame
                  go_wp2_with fail
                  exact hK.out _ _ _ (by rw [hA]; simp only [putF]; rw [e13]; kernel_rfl) ((Below.refl _ _).alloc (Nat.le_refl _) _) (⟨_, rfl, hsW, _, _, _, _, _, _, _, heap_alloc_at _ _ _ rfl, HH13.out.grow ((Below.refl _ _).alloc (Nat.le_refl _) _)⟩)
              intro us W8 hB hp
              have e0 : us 0 = vl := hp 0 (by decide)
              have hd14 : (FreshQ W6.heap.size ((cj : Rat) + (kk : Rat) * (sl : Rat) / (n : Rat)) 65) W8 (us 14) := hp 14 (by decide)
              obtain ⟨g14, e14, hg14, hh14⟩ := hd14
              have HB8 := hid (HB6.out.trans (hB.mono HB6.out.size))
              have HSW8 := hid (fun n x => @heap_still _ _ n x hB)
              have hzW8 := hB.size
              have hbW8 := hid hB
              clear hp
              clear hB
              simp only [putF]
              rw [hA, e0, e14]
              clear hA e0 e14
              go_frame
              obtain ⟨sq, aq, pq, cq, bq, rq, dq, hqh, hqq⟩ := hh14
              have OQ := hid (NQ.out.grow hbW8.out)
              have OL := hid (NL.out.trans (hbW8.out.mono (by omega)))
              have OS := hid (HSW8.out _ _ NS.out)
              rw [← HFL.out] at hqq
              have hsz8 : W2.heap.size ≤ W8.heap.size := OL.out.size
              refine seq_step rfl ?_
              intro K hK0
              have hK := hid hK0
              clear hK0
              refine wpList_append_q rfl (.tmp 120) (.tmp 134) rfl Q4 65 W2.heap.size (2 * j + l) g14 vl sq aq bq pq cq rq dq rfl OQ.out (by omega) rfl hqh hqq hsz8 ?_
              intro v' W9 hq9 hb9 hk9
              go_wp2_with fail
              refine hK.out v' _ _ (by kernel_rfl) ?_
              clear hK
              refine seq_step rfl ?_
              intro K hK0
              have hK := hid hK0
              clear hK0
              try go_frame
              go_wp2_with fail
              refine hK.out v' _ _ (by kernel_rfl) ?_
              clear hK
              refine seq_end rfl ?_
              try go_frame
              go_wp2_with fail
              refine ⟨⟨l + 1, v', by omega, rfl, by go_num, hq9, OL.out.trans hb9, hk9 _ _ _ OS.out⟩, by simp [intOf]; omega⟩
            · have : l = 2 := by omega
              subst this
              go_wp2_with fail
              refine ⟨⟨j + 1, vl, by omega, rfl, by go_num, by rw [Nat.mul_add]; exact HQ5.out, ML.out⟩, by simp [intOf]; omega⟩
        · have : j = 2 := by omega
          subst this
          obtain ⟨gq, C, cap, rfl, hC, hQC⟩ := QSt.done (m := 3) HQS.out
          go_wp2_with fail
          refine (HARM.out _ C gq cap hC hQC).mono ?_
          rintro r w9 ⟨rfl, hb⟩
          have HB9 := hid (HB3.out.trans (hb.mono HB3.out.size))
          have NL := hid (KL.out.trans ((JL.out.mono (by omega)).trans (hb.mono (by omega))))
          have NG := hid (heap_still hb (heap_below JL.out (by omega) KG.out))
          have NB := hid (heap_still hb (heap_below JL.out (by omega) KB.out))
          have hsz9 := hb.size
          clear hb hC hQC HQS
          have NG2 := hid (heap_alloc_past _ (.cells #[.int .i64 al, .int .i64 be] 44) _ _ NG.out)
          have NB2 := hid (heap_alloc_past _ (.cells #[.int .i64 al, .int .i64 be] 44) _ _ NB.out)
          have hlo : locOk lo hi = (!decide (al - wide < -268435456) && !decide (268435456 < be + wide)) := by
            unfold locOk inB
            rw [hv1, hv2]
            by_cases e1 : al - wide < -268435456
            · simp [e1, show ¬ -268435456 ≤ al - wide by omega]
            · by_cases e2 : 268435456 < be + wide
              · simp [e1, e2, show ¬ be + wide ≤ 268435456 by omega]
              · simp [e1, e2]; omega
          have HLOK := hid hlo
          clear hlo
          by_cases e1 : al - wide < -268435456
          · have hd1 : decide (al - wide < -268435456) = true := by simp [e1]
            have HBAD := hid (HOK.out (by rw [HLOK.out, hd1]; rfl))
            go_wp2_with (refine wpList_store_at rfl 46 (.tmp 6) (.tmp 159) rfl rfl rfl NB2.out size46 rfl rfl rfl ?_)
            refine bodyPost_ret (results_at2 rfl rfl (setRow_heap _ _ _ _ _ _ NB2.out) Try.underlying46 rfl size46 rfl) rfl ?_
            exact ⟨by rw [HBAD.out]; rfl, below_setRow (HB9.out.alloc (by omega) _) (by omega) _⟩
          · have hd1 : decide (al - wide < -268435456) = false := by simp [e1]
            by_cases e2 : 268435456 < be + wide
            · have hd2 : decide (268435456 < be + wide) = true := by simp [e2]
              have HBAD := hid (HOK.out (by rw [HLOK.out, hd1, hd2]; rfl))
              go_wp2_with (refine wpList_store_at rfl 46 (.tmp 6) (.tmp 159) rfl rfl rfl NB2.out size46 rfl rfl rfl ?_)
              refine bodyPost_ret (results_at2 rfl rfl (setRow_heap _ _ _ _ _ _ NB2.out) Try.underlying46 rfl size46 rfl) rfl ?_
              exact ⟨by rw [HBAD.out]; rfl, below_setRow (HB9.out.alloc (by omega) _) (by omega) _⟩
            · have hd2 : decide (268435456 < be + wide) = false := by simp [e2]
              have HGOOD := hid (show locOk lo hi = true by rw [HLOK.out, hd1, hd2]; rfl)
              have HV1 := hid hv1
              have HV2 := hid hv2
              clear hv1 hv2
              go_wp2_with (refine pt_store rfl 44 (.tmp 170) (.tmp 169) rfl _ _ _ rfl rfl NG2.out size44 rfl (by rw [spA_size]; omega) rfl ?_)
              refine ⟨⟨m + 1, by omega, by go_num, ?_, ?_, ?_⟩, by simp [intOf]; omega⟩
              · intro j hj
                rcases Nat.lt_or_ge j m with h | h
                · exact HALL.out j h
                · obtain rfl : j = m := by omega
                  rw [HD1.out, HD2.out]
                  exact HGOOD.out
              · rw [← spA_next v0 v1 v2 v3 v4 v5 hlt, HD1.out, HD2.out, HV1.out, HV2.out]
                exact setRow_heap _ _ _ _ _ _ NG2.out
              · exact below_setRow (NL.out.alloc (by omega) _) (Nat.le_refl _) _
    · have : m = 3 := by omega
      subst this
      have HALLG := hid (show locAll v0 v1 v2 v3 v4 v5 = true by
        unfold locAll; rw [Bool.and_eq_true, Bool.and_eq_true]
        exact ⟨⟨HALL.out 0 (by decide), HALL.out 1 (by decide)⟩, HALL.out 2 (by decide)⟩)
      have FG' := hid (show wr.heap[w8.heap.size]? = some (.cells #[.int .i64 v0, .int .i64 v1, .int .i64 v2, .int .i64 v3, .int .i64 v4, .int .i64 v5] 78) from FG.out)
      have d0 : wr.cell? ⟨w8.heap.size, 0, none⟩ = some (.int .i64 v0) := (cell_row (j := 0) FG'.out).trans rfl
      have d1 : wr.cell? ⟨w8.heap.size, 1, none⟩ = some (.int .i64 v1) := (cell_row (j := 1) FG'.out).trans rfl
      have d2 : wr.cell? ⟨w8.heap.size, 2, none⟩ = some (.int .i64 v2) := (cell_row (j := 2) FG'.out).trans rfl
      have d3 : wr.cell? ⟨w8.heap.size, 3, none⟩ = some (.int .i64 v3) := (cell_row (j := 3) FG'.out).trans rfl
      have d4 : wr.cell? ⟨w8.heap.size, 4, none⟩ = some (.int .i64 v4) := (cell_row (j := 4) FG'.out).trans rfl
      have d5 : wr.cell? ⟨w8.heap.size, 5, none⟩ = some (.int .i64 v5) := (cell_row (j := 5) FG'.out).trans rfl
      go_wp2_with (refine wpList_store_at rfl 46 (.tmp 6) (.tmp 178) rfl rfl rfl FB.out size46 rfl rfl rfl ?_)
      refine bodyPost_ret (results_at2 rfl rfl (setRow_heap _ _ _ _ _ _ FB.out) Try.underlying46 rfl size46 rfl) rfl ?_
      exact ⟨by rw [HALLG.out]; rfl, below_setRow HBR.out (by omega) _⟩
end Go.Proofs.Yteoikaedpgianaa
