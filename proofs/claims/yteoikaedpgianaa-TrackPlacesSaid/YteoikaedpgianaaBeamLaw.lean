/- TrackBeams: the beam's length, the beam of a product, the beam of a multiple. Every input, no condition. -/
import Derived.Test.YteoikaedpgianaaBeamYes
import Derived.Test.YteoikaedpgianaaLawKit
namespace Go.Proofs.Yteoikaedpgianaa
open Go.ChangeShapes Go.WideShapes Go.ChangeAt Go.RowKit Limb

set_option maxRecDepth 100000 in
set_option maxHeartbeats 1600000 in
theorem beams_no (a b c d e f g h k : Int) (w : World) (hok : okP a b c d e f g h = false) :
    Calls Try.prog 4 #[.agg #[.int .i64 a, .int .i64 b, .int .i64 c, .int .i64 d], .agg #[.int .i64 e, .int .i64 f, .int .i64 g, .int .i64 h], .int .i64 k] w
      fun r w' => r = .returned (.bool true) ∧ Below w.heap.size w w' := by
  have HV := hid (prV_no hok)
  clear hok
  have HBw := hid (Below.refl w.heap.size w)
  go_enter Try.func4, Try.ntmps4
  go_wp2_with fail
  refine (product_any _ _ _ _ _ _ _ _ _).mono ?_
  rintro r w1 ⟨rfl, hb⟩
  have HBw1 := hid (show Below w.heap.size w w1 by have hB0 := HBw.out; refine Below.trans ?_ (hb.mono ?_); (focus ((repeat' (first | (with_reducible exact Below.refl _ _) | (with_reducible assumption) | (with_reducible refine Below.alloc ?_ ?_ _) | (with_reducible refine Below.drew ?_) | (with_reducible refine below_drewN ?_ _) | (with_reducible refine Below.setCell ?_ ?_ _) | (with_reducible refine below_setRow ?_ ?_ _) | go_size)); done)); (focus (first | (simp; done) | (simp; omega) | (have hB1 := hB0.size; simp; omega))))
  have hsw1 := hb.size
  (try simp at hsw1)
  have hzw1 : w.heap.size < w1.heap.size := by omega
  obtain ⟨hcw1, hfw1⟩ := bcell hb
  have hkw1 := hid (fun n x => @heap_still _ _ n x hb)
  clear hb
  rw [HV.out]
  have P1 := hid (hkw1.out _ _ (by repeat' (first | (refine heap_alloc_at _ _ _ ?_; (first | rfl | (simp; done) | (simp; omega))) | (refine heap_alloc_past _ _ _ _ ?_))) : w1.heap[w.heap.size]? = some (row4 a b c d))
  have Q1 := hid (hkw1.out _ _ (by repeat' (first | (refine heap_alloc_at _ _ _ ?_; (first | rfl | (simp; done) | (simp; omega))) | (refine heap_alloc_past _ _ _ _ ?_))) : w1.heap[w.heap.size + 1]? = some (row4 e f g h))
  go_wp2_with (first | (refine wpList_load_at rfl 22 (.tmp 3) rfl rfl (heap_alloc_past _ _ _ _ P1.out) Try.underlying22 rfl size22 rfl ?_) | (refine wpList_load_at rfl 22 (.tmp 4) rfl rfl (heap_alloc_past _ _ _ _ Q1.out) Try.underlying22 rfl size22 rfl ?_))
  refine (rproduct_any _ _ _ _ _ _ _ _ _).mono ?_
  rintro r w2 ⟨rfl, hb⟩
  have HBw2 := hid (show Below w.heap.size w w2 by have hB0 := HBw1.out; refine Below.trans ?_ (hb.mono ?_); (focus ((repeat' (first | (with_reducible exact Below.refl _ _) | (with_reducible assumption) | (with_reducible refine Below.alloc ?_ ?_ _) | (with_reducible refine Below.drew ?_) | (with_reducible refine below_drewN ?_ _) | (with_reducible refine Below.setCell ?_ ?_ _) | (with_reducible refine below_setRow ?_ ?_ _) | go_size)); done)); (focus (first | (simp; done) | (simp; omega) | (have hB1 := hB0.size; simp; omega))))
  have hsw2 := hb.size
  (try simp at hsw2)
  have hzw2 : w.heap.size < w2.heap.size := by omega
  obtain ⟨hcw2, hfw2⟩ := bcell hb
  have hkw2 := hid (fun n x => @heap_still _ _ n x hb)
  clear hb
  rw [HV.out]
  go_wp2_with fail
  refine (awake_any _).mono ?_
  rintro r w3 ⟨rfl, hb⟩
  have HBw3 := hid (show Below w.heap.size w w3 by have hB0 := HBw2.out; refine Below.trans ?_ (hb.mono ?_); (focus ((repeat' (first | (with_reducible exact Below.refl _ _) | (with_reducible assumption) | (with_reducible refine Below.alloc ?_ ?_ _) | (with_reducible refine Below.drew ?_) | (with_reducible refine below_drewN ?_ _) | (with_reducible refine Below.setCell ?_ ?_ _) | (with_reducible refine below_setRow ?_ ?_ _) | go_size)); done)); (focus (first | (simp; done) | (simp; omega) | (have hB1 := hB0.size; simp; omega))))
  have hsw3 := hb.size
  (try simp at hsw3)
  have hzw3 : w.heap.size < w3.heap.size := by omega
  obtain ⟨hcw3, hfw3⟩ := bcell hb
  have hkw3 := hid (fun n x => @heap_still _ _ n x hb)
  clear hb
  go_wp2_with fail
  go_ret
  exact ⟨rfl, HBw3.out⟩
theorem beam_zero {a b c d e f g h : Int} (hz : [a, b, c, d] = [0, 0, 0, 0] ∨ [e, f, g, h] = [0, 0, 0, 0]) :
    Quat.m0 a b c d e f g h = 0 ∧ Quat.m1 a b c d e f g h = 0 ∧ Quat.m2 a b c d e f g h = 0 ∧ Quat.m3 a b c d e f g h = 0 := by
  rcases hz with hz | hz
  · simp only [List.cons.injEq, and_true] at hz
    obtain ⟨rfl, rfl, rfl, rfl⟩ := hz
    simp [Quat.m0, Quat.m1, Quat.m2, Quat.m3]
  · simp only [List.cons.injEq, and_true] at hz
    obtain ⟨rfl, rfl, rfl, rfl⟩ := hz
    simp [Quat.m0, Quat.m1, Quat.m2, Quat.m3]
set_option maxRecDepth 100000 in
set_option maxHeartbeats 1600000 in
theorem beams_zero (a b c d e f g h k : Int) (w : World) (hok : okP a b c d e f g h = true) (hz : ([a, b, c, d] == [0, 0, 0, 0] || [e, f, g, h] == [0, 0, 0, 0]) = true) :
    Calls Try.prog 4 #[.agg #[.int .i64 a, .int .i64 b, .int .i64 c, .int .i64 d], .agg #[.int .i64 e, .int .i64 f, .int .i64 g, .int .i64 h], .int .i64 k] w
      fun r w' => r = .returned (.bool true) ∧ Below w.heap.size w w' := by
  have HV := hid (prV_yes hok)
  have hz' : [a, b, c, d] = [0, 0, 0, 0] ∨ [e, f, g, h] = [0, 0, 0, 0] := by simpa using hz
  obtain ⟨z0, z1, z2, z3⟩ := beam_zero hz'
  rw [z0, z1, z2, z3] at HV
  obtain ⟨x0, h0⟩ : ∃ x : Int, x = 0 := ⟨0, rfl⟩
  obtain ⟨x1, h1⟩ : ∃ x : Int, x = 0 := ⟨0, rfl⟩
  obtain ⟨x2, h2⟩ : ∃ x : Int, x = 0 := ⟨0, rfl⟩
  obtain ⟨x3, h3⟩ : ∃ x : Int, x = 0 := ⟨0, rfl⟩
  have HV' := hid (show prV a b c d e f g h = .tuple #[.agg #[.int .i64 x0, .int .i64 x1, .int .i64 x2, .int .i64 x3], .int .i64 0] by rw [h0, h1, h2, h3]; exact HV.out)
  clear HV
  have HV := HV'
  clear HV'
  have HBM := hid (show bmV x0 x1 x2 x3 = .tuple #[.agg #[.int .i64 0, .int .i64 0, .int .i64 0], .int .i64 0, .int .i64 46] by rw [h0, h1, h2, h3]; rfl)
  have q1 := eq22 a b c d 0 0 0 0
  have q2 := eq22 e f g h 0 0 0 0
  have HZ := hid hz
  clear z0 z1 z2 z3 hz hz' h0 h1 h2 h3 hok
  generalize ([a, b, c, d] == [0, 0, 0, 0]) = b1 at *
  generalize ([e, f, g, h] == [0, 0, 0, 0]) = b2 at *
  have HBw := hid (Below.refl w.heap.size w)
  go_enter Try.func4, Try.ntmps4
  go_wp2_with fail
  refine (product_any _ _ _ _ _ _ _ _ _).mono ?_
  rintro r w1 ⟨rfl, hb⟩
  have HBw1 := hid (show Below w.heap.size w w1 by have hB0 := HBw.out; refine Below.trans ?_ (hb.mono ?_); (focus ((repeat' (first | (with_reducible exact Below.refl _ _) | (with_reducible assumption) | (with_reducible refine Below.alloc ?_ ?_ _) | (with_reducible refine Below.drew ?_) | (with_reducible refine below_drewN ?_ _) | (with_reducible refine Below.setCell ?_ ?_ _) | (with_reducible refine below_setRow ?_ ?_ _) | go_size)); done)); (focus (first | (simp; done) | (simp; omega) | (have hB1 := hB0.size; simp; omega))))
  have hsw1 := hb.size
  (try simp at hsw1)
  have hzw1 : w.heap.size < w1.heap.size := by omega
  obtain ⟨hcw1, hfw1⟩ := bcell hb
  have hkw1 := hid (fun n x => @heap_still _ _ n x hb)
  clear hb
  rw [HV.out]
  have P1 := hid (hkw1.out _ _ (by repeat' (first | (refine heap_alloc_at _ _ _ ?_; (first | rfl | (simp; done) | (simp; omega))) | (refine heap_alloc_past _ _ _ _ ?_))) : w1.heap[w.heap.size]? = some (row4 a b c d))
  have Q1 := hid (hkw1.out _ _ (by repeat' (first | (refine heap_alloc_at _ _ _ ?_; (first | rfl | (simp; done) | (simp; omega))) | (refine heap_alloc_past _ _ _ _ ?_))) : w1.heap[w.heap.size + 1]? = some (row4 e f g h))
  go_wp2_with (first | (refine wpList_load_at rfl 22 (.tmp 3) rfl rfl (heap_alloc_past _ _ _ _ P1.out) Try.underlying22 rfl size22 rfl ?_) | (refine wpList_load_at rfl 22 (.tmp 4) rfl rfl (heap_alloc_past _ _ _ _ Q1.out) Try.underlying22 rfl size22 rfl ?_))
  refine (rproduct_any _ _ _ _ _ _ _ _ _).mono ?_
  rintro r w2 ⟨rfl, hb⟩
  have HBw2 := hid (show Below w.heap.size w w2 by have hB0 := HBw1.out; refine Below.trans ?_ (hb.mono ?_); (focus ((repeat' (first | (with_reducible exact Below.refl _ _) | (with_reducible assumption) | (with_reducible refine Below.alloc ?_ ?_ _) | (with_reducible refine Below.drew ?_) | (with_reducible refine below_drewN ?_ _) | (with_reducible refine Below.setCell ?_ ?_ _) | (with_reducible refine below_setRow ?_ ?_ _) | go_size)); done)); (focus (first | (simp; done) | (simp; omega) | (have hB1 := hB0.size; simp; omega))))
  have hsw2 := hb.size
  (try simp at hsw2)
  have hzw2 : w.heap.size < w2.heap.size := by omega
  obtain ⟨hcw2, hfw2⟩ := bcell hb
  have hkw2 := hid (fun n x => @heap_still _ _ n x hb)
  clear hb
  rw [HV.out]
  have P2 := hid (hkw2.out _ _ (heap_alloc_past _ _ _ _ P1.out))
  have Q2 := hid (hkw2.out _ _ (heap_alloc_past _ _ _ _ Q1.out))
  have A2 := hid (hkw2.out _ _ (heap_alloc_at _ _ _ rfl) : w2.heap[w1.heap.size]? = some (row4 x0 x1 x2 x3))
  go_wp2_with (first | (refine wpList_load_at rfl 22 (.tmp 7) rfl rfl (heap_alloc_past _ _ _ _ A2.out) Try.underlying22 rfl size22 rfl ?_))
  refine (xbeam_any _ _ _ _ _).mono ?_
  rintro r w3 ⟨rfl, hb⟩
  have HBw3 := hid (show Below w.heap.size w w3 by have hB0 := HBw2.out; refine Below.trans ?_ (hb.mono ?_); (focus ((repeat' (first | (with_reducible exact Below.refl _ _) | (with_reducible assumption) | (with_reducible refine Below.alloc ?_ ?_ _) | (with_reducible refine Below.drew ?_) | (with_reducible refine below_drewN ?_ _) | (with_reducible refine Below.setCell ?_ ?_ _) | (with_reducible refine below_setRow ?_ ?_ _) | go_size)); done)); (focus (first | (simp; done) | (simp; omega) | (have hB1 := hB0.size; simp; omega))))
  have hsw3 := hb.size
  (try simp at hsw3)
  have hzw3 : w.heap.size < w3.heap.size := by omega
  obtain ⟨hcw3, hfw3⟩ := bcell hb
  have hkw3 := hid (fun n x => @heap_still _ _ n x hb)
  clear hb
  have P3 := hid (hkw3.out _ _ (heap_alloc_past _ _ _ _ P2.out))
  have Q3 := hid (hkw3.out _ _ (heap_alloc_past _ _ _ _ Q2.out))
  have A3 := hid (hkw3.out _ _ (heap_alloc_past _ _ _ _ A2.out))
  rw [HBM.out]
  cases b1
  · have hb2 : b2 = true := by simpa using HZ.out
    subst hb2
    clear HZ
    go_wp2_with (first | (refine wpList_load_at rfl 22 (.tmp 3) rfl rfl (heap_alloc_past _ _ _ _ P3.out) Try.underlying22 rfl size22 rfl ?_) | (refine wpList_load_at rfl 22 (.tmp 4) rfl rfl (heap_alloc_past _ _ _ _ Q3.out) Try.underlying22 rfl size22 rfl ?_))
    refine (awake_any _).mono ?_
    rintro r w4 ⟨rfl, hb⟩
    have HBw4 := hid (show Below w.heap.size w w4 by have hB0 := HBw3.out; refine Below.trans ?_ (hb.mono ?_); (focus ((repeat' (first | (with_reducible exact Below.refl _ _) | (with_reducible assumption) | (with_reducible refine Below.alloc ?_ ?_ _) | (with_reducible refine Below.drew ?_) | (with_reducible refine below_drewN ?_ _) | (with_reducible refine Below.setCell ?_ ?_ _) | (with_reducible refine below_setRow ?_ ?_ _) | go_size)); done)); (focus (first | (simp; done) | (simp; omega) | (have hB1 := hB0.size; simp; omega))))
    have hsw4 := hb.size
    (try simp at hsw4)
    have hzw4 : w.heap.size < w4.heap.size := by omega
    obtain ⟨hcw4, hfw4⟩ := bcell hb
    have hkw4 := hid (fun n x => @heap_still _ _ n x hb)
    clear hb
    go_wp2_with fail
    go_ret
    exact ⟨rfl, HBw4.out⟩
  · clear HZ
    go_wp2_with (first | (refine wpList_load_at rfl 22 (.tmp 3) rfl rfl (heap_alloc_past _ _ _ _ P3.out) Try.underlying22 rfl size22 rfl ?_) | (refine wpList_load_at rfl 22 (.tmp 4) rfl rfl (heap_alloc_past _ _ _ _ Q3.out) Try.underlying22 rfl size22 rfl ?_))
    refine (awake_any _).mono ?_
    rintro r w4 ⟨rfl, hb⟩
    have HBw4 := hid (show Below w.heap.size w w4 by have hB0 := HBw3.out; refine Below.trans ?_ (hb.mono ?_); (focus ((repeat' (first | (with_reducible exact Below.refl _ _) | (with_reducible assumption) | (with_reducible refine Below.alloc ?_ ?_ _) | (with_reducible refine Below.drew ?_) | (with_reducible refine below_drewN ?_ _) | (with_reducible refine Below.setCell ?_ ?_ _) | (with_reducible refine below_setRow ?_ ?_ _) | go_size)); done)); (focus (first | (simp; done) | (simp; omega) | (have hB1 := hB0.size; simp; omega))))
    have hsw4 := hb.size
    (try simp at hsw4)
    have hzw4 : w.heap.size < w4.heap.size := by omega
    obtain ⟨hcw4, hfw4⟩ := bcell hb
    have hkw4 := hid (fun n x => @heap_still _ _ n x hb)
    clear hb
    go_wp2_with fail
    go_ret
    exact ⟨rfl, HBw4.out⟩
theorem two3 {P : Nat → Prop} (h0 : P 0) (h1 : P 1) (h2 : P 2) : ∀ i, i < 3 → P i
  | 0, _ => h0
  | 1, _ => h1
  | 2, _ => h2
theorem nz4 {a b c d : Int} (h : ([a, b, c, d] == [0, 0, 0, 0]) = false) : ¬(a = 0 ∧ b = 0 ∧ c = 0 ∧ d = 0) := by
  rintro ⟨rfl, rfl, rfl, rfl⟩
  simp at h
theorem z4 {a b c d : Int} (h : 1 ≤ Quat.nn a b c d) : ([a, b, c, d] == [0, 0, 0, 0]) = false := by
  rw [beq_eq_false_iff_ne]
  intro h2
  simp only [List.cons.injEq, and_true] at h2
  have := Quat.nn_zero h2
  omega
theorem bmV_of {a b c d : Int} (h : 1 ≤ Quat.nn a b c d) (hb : ok4 4000000 a b c d = true) : bmV a b c d = .tuple #[.agg #[.int .i64 (Quat.k0 a b c d), .int .i64 (Quat.k1 a b c d), .int .i64 (Quat.k2 a b c d)], .int .i64 (Quat.nn a b c d), .int .i64 0] :=
  bmV_yes (by rw [turnB_ok (z4 h)]; exact hb)
theorem beams_law (a b c d e f g h k : Int) (w : World) :
    Calls Try.prog 4 #[.agg #[.int .i64 a, .int .i64 b, .int .i64 c, .int .i64 d], .agg #[.int .i64 e, .int .i64 f, .int .i64 g, .int .i64 h], .int .i64 k] w
      fun r w' => r = .returned (.bool true) ∧ Below w.heap.size w w' := by
  by_cases hok : okP a b c d e f g h = true
  · by_cases hz : ([a, b, c, d] == [0, 0, 0, 0] || [e, f, g, h] == [0, 0, 0, 0]) = true
    · exact beams_zero a b c d e f g h k w hok hz
    · rw [Bool.not_eq_true, Bool.or_eq_false_iff] at hz
      obtain ⟨hp0, hq0⟩ := hz
      have hok2 := hok
      unfold okP at hok2
      rw [Bool.and_eq_true] at hok2
      obtain ⟨hop, hoq⟩ := hok2
      obtain ⟨ha, hb, hc, hd⟩ := ok4_iff.1 hop
      obtain ⟨he, hf, hg, hh⟩ := ok4_iff.1 hoq
      have np := Quat.nn_pos (nz4 hp0)
      have nq := Quat.nn_pos (nz4 hq0)
      have np2 := Quat.nn_bd ha hb hc hd
      have nq2 := Quat.nn_bd he hf hg hh
      have hnm := Quat.nn_mul a b c d e f g h
      have hpr := Quat.prod_bd ha hb hc hd he hf hg hh
      have hn1 : 1 ≤ Quat.nn a b c d * Quat.nn e f g h := by
        have := Int.mul_le_mul np nq (by omega) (by omega)
        omega
      have hn2 : Quat.nn a b c d * Quat.nn e f g h ≤ 4000000 * 4000000 := Int.mul_le_mul np2 nq2 (by omega) (by omega)
      rw [← hnm] at hn1 hn2
      have hbd := Quat.beam_bd (Quat.m0 a b c d e f g h) (Quat.m1 a b c d e f g h) (Quat.m2 a b c d e f g h) (Quat.m3 a b c d e f g h)
      have hbu := Quat.beam_bd e f g h
      have hlen := Quat.beam_length (Quat.m0 a b c d e f g h) (Quat.m1 a b c d e f g h) (Quat.m2 a b c d e f g h) (Quat.m3 a b c d e f g h)
      have hK : ∃ K, wrap64 (1 + wrap64 ((IntKind.u64.wrap k).tmod 4000)) = K ∧ 1 ≤ K ∧ K ≤ 4000 := by
        have h0 : 0 ≤ IntKind.u64.wrap k := by rw [IntKind.wrap_u64]; omega
        have h1 : (IntKind.u64.wrap k).tmod 4000 = IntKind.u64.wrap k % 4000 := Int.tmod_eq_emod_of_nonneg h0
        rw [h1]
        refine ⟨1 + IntKind.u64.wrap k % 4000, ?_, by omega, by omega⟩
        unfold wrap64
        omega
      obtain ⟨K, hKe, hK0, hK1⟩ := hK
      have hKK : 1 ≤ K * K ∧ K * K ≤ 16000000 := by
        have h1 := Int.mul_le_mul hK1 hK1 (by omega) (by omega)
        have h2 := Int.mul_le_mul hK0 hK0 (by omega) (by omega)
        omega
      have hB3 := bmV_of (a := -K * e) (b := -K * f) (c := -K * g) (d := -K * h) (by
        rw [Quat.scale_n]
        have := Int.mul_le_mul hKK.1 nq (by omega) (by omega)
        omega) (ok4_iff.2 ⟨Quat.mul_bd (a := -K) (l := 4000) (m := 1000) (by omega) he, Quat.mul_bd (a := -K) (l := 4000) (m := 1000) (by omega) hf, Quat.mul_bd (a := -K) (l := 4000) (m := 1000) (by omega) hg, Quat.mul_bd (a := -K) (l := 4000) (m := 1000) (by omega) hh⟩)
      rw [Quat.scale_0, Quat.scale_1, Quat.scale_2, Quat.scale_n] at hB3
      refine beams_walk a b c d e f g h k _ _ _ _ _ _ _ _ _ _ _ _ K w hop hoq hp0 hq0 (prV_yes hok) (bmV_of hn1 (ok4_iff.2 ⟨hpr.1, hpr.2.1, hpr.2.2.1, hpr.2.2.2⟩)) (bmV_of nq (ok4_iff.2 ⟨by omega, by omega, by omega, by omega⟩)) ?_ hn1 (by omega)
        (two3 ⟨by show _ ≤ Quat.k0 _ _ _ _; omega, by show Quat.k0 _ _ _ _ ≤ _; omega⟩ ⟨by show _ ≤ Quat.k1 _ _ _ _; omega, by show Quat.k1 _ _ _ _ ≤ _; omega⟩ ⟨by show _ ≤ Quat.k2 _ _ _ _; omega, by show Quat.k2 _ _ _ _ ≤ _; omega⟩) (by omega) (by omega) (by omega) (two3 ?_ ?_ ?_) ?_ hKe hK0 hK1 (by omega) hB3
      · rw [hnm]; rfl
      · simp only [rotS, rotM, List.getD_cons_zero, List.getD_cons_succ, Nat.reduceMul, Nat.reduceAdd, Int.zero_add]
        exact Quat.rot_0 a b c d e f g h
      · simp only [rotS, rotM, List.getD_cons_zero, List.getD_cons_succ, Nat.reduceMul, Nat.reduceAdd, Int.zero_add]
        exact Quat.rot_1 a b c d e f g h
      · simp only [rotS, rotM, List.getD_cons_zero, List.getD_cons_succ, Nat.reduceMul, Nat.reduceAdd, Int.zero_add]
        exact Quat.rot_2 a b c d e f g h
      · simp only [sqS, List.getD_cons_zero, List.getD_cons_succ, Int.zero_add]
        exact hlen
  · exact beams_no a b c d e f g h k w (Bool.eq_false_iff.2 hok)
theorem beams_args (W : World) (xs ys : List Int) (k : Int) (hx : xs.length = 4) (hy : ys.length = 4) :
    Calls Try.prog 4 #[.agg (xs.map (Value.int .i64)).toArray, .agg (ys.map (Value.int .i64)).toArray, .int .i64 k] W fun r w' => r = .returned (.bool true) ∧ Below W.heap.size W w' := by
  match xs, hx, ys, hy with
  | [a, b, c, d], _, [e, f, g, h], _ => exact beams_law a b c d e f g h k W
set_option maxRecDepth 100000 in
theorem trackBeams_lifted (os : Os) (started : os.Started) (H : Type) (enc : TypeId × Value → H) :
    ReturnsInHanded {} Try.checked os 4 .any (Rows.trackBeamsSpec.pre6 enc Try.prog Try.f4 Rows.trackBeamsRow.domain false) (Rows.trackBeamsSpec.post enc Try.prog Try.f4 false true false false) := by
  refine law_lifted (C := Try.checked) (tb := 4) lawOwn started (by kernel_rfl) Try.func4 rfl ?_ (show Try.f4.resultTypes = #[4] by kernel_rfl) Try.underlying4 lawLaid ?_
    (ChangeSpec.witness6 (enc := enc) (C := Try.checked) false ⟨#[], #[.agg #[.int .i64 0, .int .i64 0, .int .i64 0, .int .i64 0], .agg #[.int .i64 0, .int .i64 0, .int .i64 0, .int .i64 0], .int .i64 0], []⟩ 8 (by kernel_rfl) (by kernel_rfl) (by kernel_rfl) (by kernel_rfl)) ?_
  · intro ds hds
    match ds, hds with
    | [d1, d2, d3], _ => exact ⟨rfl, rfl, rfl⟩
  · rw [Try.params4]
    intro t ht
    simp at ht
    rcases ht with rfl | rfl
    all_goals exact ⟨by kernel_rfl, of_decide_eq_true (by kernel_rfl)⟩
  · intro W base args ds p hval hA hlt _
    change DataW.TrodAll enc Try.prog W 0 (fun _ => true) true Try.f4.params.toList args.toList ds p at hA
    change ∀ (j : Nat) t v, Try.f4.params[j]? = some t → args[j]? = some v → Value.okWide Try.prog W .any base t v at hval
    rw [Try.params4] at hA hval
    obtain ⟨v0, vs0, d0, ds0, p0, q0, hargs, rfl, rfl, h0, r0⟩ := trodAll_cons hA
    obtain ⟨v1, vs1, d1, ds1, p1, q1, rfl, rfl, rfl, h1, r1⟩ := trodAll_cons r0
    obtain ⟨v2, vs2, d2, ds2, p2, q2, rfl, rfl, rfl, h2, r2⟩ := trodAll_cons r1
    obtain ⟨rfl, rfl, rfl⟩ := trodAll_nil r2
    obtain rfl : args = #[v0, v1, v2] := by cases args; simp_all
    obtain ⟨c0, e0, f0⟩ := open_flat lawFlat22 lawSize22 (by kernel_rfl) (hval 0 22 v0 rfl rfl) h0
    obtain ⟨c1, e1, f1⟩ := open_flat lawFlat22 lawSize22 (by kernel_rfl) (hval 1 22 v1 rfl rfl) h1
    obtain ⟨z, rfl, _, _⟩ := open_int Try.underlying3 (hval 2 3 v2 rfl rfl) h2
    obtain ⟨xs, hx, rfl⟩ := lawCells f0
    obtain ⟨ys, hy, rfl⟩ := lawCells f1
    subst e0
    subst e1
    exact beams_args W xs ys z hx hy

/-- TrackBeams, whatever the input. -/
theorem trackBeams_holds : Rows.TrackBeamsSaid :=
  OpenClaim.holds_of_wide 4 Try.f4 rfl rfl rfl rfl rfl rfl rfl ⟨rfl, rfl, rfl, rfl, rfl⟩ rfl rfl rfl rfl rfl (by kernel_rfl) Try.func4 (by kernel_rfl)
    (of_decide_eq_true (by kernel_rfl)) (by unfold Func.isWrapper; rw [if_neg (of_decide_eq_false (by kernel_rfl))]; exact ⟨rfl, rfl⟩)
    (fun os started H enc _ => trackBeams_lifted os started H enc)
#print axioms trackBeams_holds
end Go.Proofs.Yteoikaedpgianaa
