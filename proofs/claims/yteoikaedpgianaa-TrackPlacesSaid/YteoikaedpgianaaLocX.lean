/- The program's Locate, for whatever arguments. -/
import Derived.Test.YteoikaedpgianaaLocate
import Derived.Test.YteoikaedpgianaaXNear
namespace Go.Proofs.Yteoikaedpgianaa
open Go.RowKit Limb

theorem ite0 {c : Prop} [Decidable c] {a b : Int} (hb : b ≠ 0) (h : (if c then a else b) = 0) : c ∧ a = 0 := by
  by_cases hc : c
  · rw [if_pos hc] at h; exact ⟨hc, h⟩
  · rw [if_neg hc] at h; exact absurd h hb
/-- what the arguments of Locate are, that are not refused -/
theorem pose_ok {x0 x1 y0 y1 z0 z1 a b c d t e f g h r0 r1 : Int} (hok : poseErr x0 x1 y0 y1 z0 z1 a b c d t e f g h r0 r1 = 0) :
    (spanB x0 x1 = true ∧ [x0, x1].all (inB (-268435456) 268435456) = true) ∧ (spanB y0 y1 = true ∧ [y0, y1].all (inB (-268435456) 268435456) = true) ∧ (spanB z0 z1 = true ∧ [z0, z1].all (inB (-268435456) 268435456) = true) ∧
    inB 0 2147483648 t = true ∧ spanB r0 r1 = true ∧ [r0, r1].all (inB 0 4194304) = true ∧ turnB 1000 a b c d = true ∧ turnB 1000 e f g h = true := by
  unfold poseErr at hok
  obtain ⟨h1, hok⟩ := ite0 (by decide) hok
  obtain ⟨h2, hok⟩ := ite0 (by decide) hok
  obtain ⟨h3, hok⟩ := ite0 (by decide) hok
  obtain ⟨h4, hok⟩ := ite0 (by decide) hok
  obtain ⟨h5, hok⟩ := ite0 (by decide) hok
  obtain ⟨h6, hok⟩ := ite0 (by decide) hok
  obtain ⟨h7, hok⟩ := ite0 (by decide) hok
  obtain ⟨h8, hok⟩ := ite0 (by decide) hok
  obtain ⟨h9, hok⟩ := ite0 (by decide) hok
  obtain ⟨h10, hok⟩ := ite0 (by decide) hok
  obtain ⟨h11, _⟩ := ite0 (by decide) hok
  exact ⟨⟨h1, h2⟩, ⟨h3, h4⟩, ⟨h5, h6⟩, h7, h8, h9, h10, h11⟩
theorem span_in {l u x y : Int} (h : spanB x y = true) (k : [x, y].all (inB l u) = true) : l ≤ x ∧ x ≤ y ∧ y ≤ u := by
  simp [spanB, inB] at h k
  omega
theorem turn_ok {l a b c d : Int} (h : turnB l a b c d = true) : ok4 l a b c d = true ∧ ¬(a = 0 ∧ b = 0 ∧ c = 0 ∧ d = 0) := by
  unfold turnB at h
  rw [Bool.and_eq_true] at h
  refine ⟨h.1, ?_⟩
  rintro ⟨rfl, rfl, rfl, rfl⟩
  exact absurd h.2 (by decide)
/-- what the beam of two such turns is -/
theorem turn_facts {a b c d e f g h : Int} (hp : turnB 1000 a b c d = true) (hq : turnB 1000 e f g h = true) :
    ((-4000000 ≤ Quat.m0 a b c d e f g h ∧ Quat.m0 a b c d e f g h ≤ 4000000) ∧ (-4000000 ≤ Quat.m1 a b c d e f g h ∧ Quat.m1 a b c d e f g h ≤ 4000000) ∧ (-4000000 ≤ Quat.m2 a b c d e f g h ∧ Quat.m2 a b c d e f g h ≤ 4000000) ∧ (-4000000 ≤ Quat.m3 a b c d e f g h ∧ Quat.m3 a b c d e f g h ≤ 4000000)) ∧
    1 ≤ Quat.nn (Quat.m0 a b c d e f g h) (Quat.m1 a b c d e f g h) (Quat.m2 a b c d e f g h) (Quat.m3 a b c d e f g h) ∧ Quat.nn (Quat.m0 a b c d e f g h) (Quat.m1 a b c d e f g h) (Quat.m2 a b c d e f g h) (Quat.m3 a b c d e f g h) ≤ 64000000000000 := by
  obtain ⟨hop, hp0⟩ := turn_ok hp
  obtain ⟨hoq, hq0⟩ := turn_ok hq
  obtain ⟨ha, hb, hc, hd⟩ := ok4_iff.1 hop
  obtain ⟨he, hf, hg, hh⟩ := ok4_iff.1 hoq
  have np := Quat.nn_pos hp0
  have nq := Quat.nn_pos hq0
  have np2 := Quat.nn_bd ha hb hc hd
  have nq2 := Quat.nn_bd he hf hg hh
  have hnm := Quat.nn_mul a b c d e f g h
  have hpr := Quat.prod_bd ha hb hc hd he hf hg hh
  have hn1 : 1 ≤ Quat.nn a b c d * Quat.nn e f g h := by
    have := Int.mul_le_mul np nq (by omega) (by omega)
    omega
  have hn2 : Quat.nn a b c d * Quat.nn e f g h ≤ 4000000 * 4000000 := Int.mul_le_mul np2 nq2 (by omega) (by omega)
  rw [← hnm] at hn1 hn2
  exact ⟨hpr, hn1, by omega⟩
theorem wide_bd {t r : Int} (ht : 0 ≤ t ∧ t ≤ 2147483648) (hr : 0 ≤ r ∧ r ≤ 4194304) : 0 ≤ upV t r 1000000 ∧ upV t r 1000000 ≤ 9007199256 := by
  have h0 : 0 ≤ t * r := Int.mul_nonneg ht.1 hr.1
  have h1 : t * r ≤ 2147483648 * 4194304 := Int.mul_le_mul ht.2 hr.2 hr.1 (by omega)
  unfold upV
  omega
theorem three3 {P : Nat → Prop} (h0 : P 0) (h1 : P 1) (h2 : P 2) : ∀ i, i < 3 → P i
  | 0, _ => h0
  | 1, _ => h1
  | 2, _ => h2
/-- the ends of the box -/
def endsV (x0 x1 y0 y1 z0 z1 a b c d t e f g h r0 r1 : Int) : Value :=
  let m0 := Quat.m0 a b c d e f g h
  let m1 := Quat.m1 a b c d e f g h
  let m2 := Quat.m2 a b c d e f g h
  let m3 := Quat.m3 a b c d e f g h
  let n := Quat.nn m0 m1 m2 m3
  let u := upV t r1 1000000
  let v0 := locLo (Quat.k0 m0 m1 m2 m3) n x0 r0 r1 u
  let v1 := locHi (Quat.k0 m0 m1 m2 m3) n x1 r0 r1 u
  let v2 := locLo (Quat.k1 m0 m1 m2 m3) n y0 r0 r1 u
  let v3 := locHi (Quat.k1 m0 m1 m2 m3) n y1 r0 r1 u
  let v4 := locLo (Quat.k2 m0 m1 m2 m3) n z0 r0 r1 u
  let v5 := locHi (Quat.k2 m0 m1 m2 m3) n z1 r0 r1 u
  locRes (locAll v0 v1 v2 v3 v4 v5) v0 v1 v2 v3 v4 v5
theorem xlocate_ok (x0 x1 y0 y1 z0 z1 a b c d t e f g h r0 r1 : Int) (w : World) (hok : poseErr x0 x1 y0 y1 z0 z1 a b c d t e f g h r0 r1 = 0) :
    Calls Try.prog 49 #[.agg #[.int .i64 x0, .int .i64 x1, .int .i64 y0, .int .i64 y1, .int .i64 z0, .int .i64 z1, .int .i64 a, .int .i64 b, .int .i64 c, .int .i64 d, .int .i64 t], .agg #[.int .i64 e, .int .i64 f, .int .i64 g, .int .i64 h], .agg #[.int .i64 r0, .int .i64 r1]] w
      fun r w' => r = .returned (endsV x0 x1 y0 y1 z0 z1 a b c d t e f g h r0 r1) ∧ Below w.heap.size w w' := by
  obtain ⟨⟨hx, hx'⟩, ⟨hy, hy'⟩, ⟨hz, hz'⟩, ht, hr, hr', hp, hq⟩ := pose_ok hok
  obtain ⟨⟨p0, p1, p2, p3⟩, hn⟩ := turn_facts hp hq
  obtain ⟨b0, b1, b2⟩ := Quat.beam_bd (Quat.m0 a b c d e f g h) (Quat.m1 a b c d e f g h) (Quat.m2 a b c d e f g h) (Quat.m3 a b c d e f g h)
  have sx := span_in hx hx'
  have sy := span_in hy hy'
  have sz := span_in hz hz'
  have sr := span_in hr hr'
  have st : 0 ≤ t ∧ t ≤ 2147483648 := by simp [inB] at ht; omega
  have hu := wide_bd (t := t) (r := r1) st (by omega)
  exact locate_walk x0 x1 y0 y1 z0 z1 a b c d t e f g h r0 r1 _ _ _ _ _ _ _ _ _ _ _ _ _ _ _ w hok
    (fun W => qproduct_any a b c d e f g h W (turn_ok hp).1 (turn_ok hq).1)
    (fun W => qbeam_any _ _ _ _ W p0 p1 p2 p3)
    (three3 ⟨rfl, rfl⟩ ⟨rfl, rfl⟩ ⟨rfl, rfl⟩)
    (three3 b0 b1 b2) hn hu ⟨by omega, by omega⟩
    (three3 ⟨⟨sx.1, by show x0 ≤ _; omega⟩, ⟨by show _ ≤ x1; omega, sx.2.2⟩⟩ ⟨⟨sy.1, by show y0 ≤ _; omega⟩, ⟨by show _ ≤ y1; omega, sy.2.2⟩⟩ ⟨⟨sz.1, by show z0 ≤ _; omega⟩, ⟨by show _ ≤ z1; omega, sz.2.2⟩⟩)
    (fun W => (share_calm t r1 1000000 W (by omega) (by omega) (by decide) (by omega)).mono fun _ _ h => h)
set_option maxRecDepth 100000 in
theorem xlocate_bad (x0 x1 y0 y1 z0 z1 a b c d t e f g h r0 r1 : Int) (w : World) (hok : poseErr x0 x1 y0 y1 z0 z1 a b c d t e f g h r0 r1 ≠ 0) :
    Calls Try.prog 49 #[.agg #[.int .i64 x0, .int .i64 x1, .int .i64 y0, .int .i64 y1, .int .i64 z0, .int .i64 z1, .int .i64 a, .int .i64 b, .int .i64 c, .int .i64 d, .int .i64 t], .agg #[.int .i64 e, .int .i64 f, .int .i64 g, .int .i64 h], .agg #[.int .i64 r0, .int .i64 r1]] w
      fun r w' => r = .returned (.tuple #[.agg (spA 0 0 0 0 0 0 0), .int .i64 (poseErr x0 x1 y0 y1 z0 z1 a b c d t e f g h r0 r1)]) ∧ Below w.heap.size w w' := by
  have HR := hid (refused_any x0 x1 y0 y1 z0 z1 a b c d t e f g h r0 r1)
  generalize poseErr x0 x1 y0 y1 z0 z1 a b c d t e f g h r0 r1 = E at *
  have hd : decide (E = 0) = false := by simp [hok]
  have HBw := hid (Below.refl w.heap.size w)
  go_enter Try.func49, Try.ntmps49
  go_wp2_with fail
  refine (HR.out _).mono ?_
  rintro r w1 ⟨rfl, hb⟩
  have HBw1 := hid (show Below w.heap.size w w1 by have hB0 := HBw.out; refine Below.trans ?_ (hb.mono ?_); (focus ((repeat' (first | (with_reducible exact Below.refl _ _) | (with_reducible assumption) | (with_reducible refine Below.alloc ?_ ?_ _) | (with_reducible refine Below.drew ?_) | (with_reducible refine below_drewN ?_ _) | (with_reducible refine Below.setCell ?_ ?_ _) | (with_reducible refine below_setRow ?_ ?_ _) | go_size)); done)); (focus (first | (simp; done) | (simp; omega) | (have hB1 := hB0.size; simp; omega))))
  have hsw1 := hb.size
  (try simp at hsw1)
  have hzw1 : w.heap.size < w1.heap.size := by omega
  obtain ⟨hcw1, hfw1⟩ := bcell hb
  have hkw1 := hid (fun n x => @heap_still _ _ n x hb)
  clear hb
  have B1 := hid (hkw1.out _ _ (by repeat' (first | (refine heap_alloc_at _ _ _ ?_; (first | rfl | (simp; done) | (simp; omega))) | (refine heap_alloc_past _ _ _ _ ?_))) : w1.heap[w.heap.size + 1 + 1 + 1]? = some (.cells #[.int .i64 0, .int .i64 0, .int .i64 0, .int .i64 0, .int .i64 0, .int .i64 0] 46))
  go_wp2_with (refine wpList_store_at rfl 46 (.tmp 6) (.tmp 24) rfl rfl rfl B1.out size46 rfl rfl rfl ?_)
  refine bodyPost_ret (results_at2 rfl rfl (setRow_heap _ _ _ _ _ _ B1.out) Try.underlying46 rfl size46 rfl) rfl ?_
  exact ⟨rfl, below_setRow HBw1.out (by omega) _⟩
end Go.Proofs.Yteoikaedpgianaa
