/- TrackMoves: a motion with a constant acceleration within the rules is within the pose at every time between two fixes. Every input, no condition. -/
import Derived.Test.YteoikaedpgianaaMoveM
import Derived.Test.YteoikaedpgianaaBoxes
import Derived.Test.YteoikaedpgianaaLawKit
import Derived.Test.YteoikaedpgianaaStrip
import Derived.Deep.Light
namespace Go.Proofs.Yteoikaedpgianaa
open Go.ChangeShapes Go.WideShapes Go.ChangeAt Go.RowKit Limb

theorem two_cells (a b : Nat → Int) : ∀ i, i < 2 → ∀ j, j < 10 → (#[.int .i64 (a 0), .int .i64 (a 1), .int .i64 (a 2), .int .i64 (a 3), .int .i64 (a 4), .int .i64 (a 5), .int .i64 (a 6), .int .i64 (a 7), .int .i64 (a 8), .int .i64 (a 9), .int .i64 (b 0), .int .i64 (b 1), .int .i64 (b 2), .int .i64 (b 3), .int .i64 (b 4), .int .i64 (b 5), .int .i64 (b 6), .int .i64 (b 7), .int .i64 (b 8), .int .i64 (b 9)] : Array Value)[i * 10 + j]? = some (.int .i64 (two a b 0 i j))
  | 0, _, 0, _ => rfl
  | 0, _, 1, _ => rfl
  | 0, _, 2, _ => rfl
  | 0, _, 3, _ => rfl
  | 0, _, 4, _ => rfl
  | 0, _, 5, _ => rfl
  | 0, _, 6, _ => rfl
  | 0, _, 7, _ => rfl
  | 0, _, 8, _ => rfl
  | 0, _, 9, _ => rfl
  | 1, _, 0, _ => rfl
  | 1, _, 1, _ => rfl
  | 1, _, 2, _ => rfl
  | 1, _, 3, _ => rfl
  | 1, _, 4, _ => rfl
  | 1, _, 5, _ => rfl
  | 1, _, 6, _ => rfl
  | 1, _, 7, _ => rfl
  | 1, _, 8, _ => rfl
  | 1, _, 9, _ => rfl
theorem two_any (a b : Nat → Int) (w : World) : trackAny ((w.alloc (.cells #[.int .i64 (a 0), .int .i64 (a 1), .int .i64 (a 2), .int .i64 (a 3), .int .i64 (a 4), .int .i64 (a 5), .int .i64 (a 6), .int .i64 (a 7), .int .i64 (a 8), .int .i64 (a 9), .int .i64 (b 0), .int .i64 (b 1), .int .i64 (b 2), .int .i64 (b 3), .int .i64 (b 4), .int .i64 (b 5), .int .i64 (b 6), .int .i64 (b 7), .int .i64 (b 8), .int .i64 (b 9)] 55)).alloc (.cells #[.slice (some ⟨w.heap.size, 0, none⟩) 2 2] 106)) (some ⟨w.heap.size + 1, 0, none⟩) 1 (fun _ => some ⟨w.heap.size, 0, none⟩) (fun _ => 2) (fun _ => 2) (two a b) := by
  intro _
  refine ⟨w.heap.size + 1, 0, rfl, by simp, fun p hp => ?_⟩
  obtain rfl : p = 0 := by omega
  refine ⟨(cell_row (heap_alloc_at _ _ _ (by simp))).trans rfl, fun _ => ⟨w.heap.size, 0, rfl, by simp; omega, fun i hi j hj => ?_⟩⟩
  rw [Nat.zero_add]
  exact (cell_row (heap_alloc_past _ _ _ _ (heap_alloc_at w _ _ rfl))).trans (two_cells a b i hi j hj)
theorem fix_at (a : Nat → Int) : ∀ m, m < 3 → (#[.int .i64 (a 0), .int .i64 (a 1), .int .i64 (a 2), .int .i64 (a 3), .int .i64 (a 4), .int .i64 (a 5), .int .i64 (a 6), .int .i64 (a 7), .int .i64 (a 8), .int .i64 (a 9)] : Array Value)[1 + m]? = some (.int .i64 (a (m + 1)))
  | 0, _ => rfl
  | 1, _ => rfl
  | 2, _ => rfl
theorem lo_at (l h : Nat → Int) (q0 q1 q2 q3 gg : Int) : ∀ m, m < 3 → (#[.int .i64 (l 0), .int .i64 (h 0), .int .i64 (l 1), .int .i64 (h 1), .int .i64 (l 2), .int .i64 (h 2), .int .i64 q0, .int .i64 q1, .int .i64 q2, .int .i64 q3, .int .i64 gg] : Array Value)[m * 2]? = some (.int .i64 (l m))
  | 0, _ => rfl
  | 1, _ => rfl
  | 2, _ => rfl
theorem hi_at (l h : Nat → Int) (q0 q1 q2 q3 gg : Int) : ∀ m, m < 3 → (#[.int .i64 (l 0), .int .i64 (h 0), .int .i64 (l 1), .int .i64 (h 1), .int .i64 (l 2), .int .i64 (h 2), .int .i64 q0, .int .i64 q1, .int .i64 q2, .int .i64 q3, .int .i64 gg] : Array Value)[m * 2 + 1]? = some (.int .i64 (h m))
  | 0, _ => rfl
  | 1, _ => rfl
  | 2, _ => rfl
theorem mnum_lt (x : Rat) : x.num.sign < 0 ↔ x < 0 := by
  rw [Int.sign_neg_iff, ← Int.not_le, Rat.num_nonneg, Rat.not_le]
theorem mnum_gt (x : Rat) : 0 < x.num.sign ↔ 0 < x := by
  have h := mnum_lt (-x)
  rw [Rat.neg_num, Int.sign_neg] at h
  constructor
  · intro hx; have := h.1 (by omega); grind
  · intro hx; have := h.2 (by grind); omega
theorem mcmp_lt (x y : Rat) : cmpQ x y < 0 ↔ x < y := by
  unfold cmpQ; rw [mnum_lt]; grind
theorem mcmp_gt (x y : Rat) : 0 < cmpQ x y ↔ y < x := by
  unfold cmpQ; rw [mnum_gt]; grind
theorem qshape {W : World} {cs : Array Value} {q : Rat} {k : Nat} (h : QAt W (.agg cs) q k) : ∃ s a p c b r d, cs = #[.bool s, .slice a p c, .slice b r d] := by
  obtain ⟨_, _, h1, h2, h3, _⟩ := h
  obtain ⟨_, _, rfl, _, _⟩ := h2.open
  obtain ⟨_, _, rfl, _, _⟩ := h3.open
  cases h1
  exact ⟨_, _, _, _, _, _, _, rfl⟩
def Fresh35 (B : Nat) (W : World) (v : Value) : Prop := ∃ g, v = .pointer (some ⟨g, 0, none⟩) ∧ B ≤ g ∧ W.heap[g]? = some (.cells #[.bool false, .slice none 0 0, .slice none 0 0] 35)
theorem Fresh35.stb (B : Nat) : Stb (Fresh35 B) := fun _ _ _ hB ⟨g, h1, h2, h3⟩ => ⟨g, h1, h2, heap_still hB h3⟩
theorem draw_bd (z : Int) {d : Int} (hd : 0 ≤ d ∧ d ≤ 1125899906842624) : 0 ≤ wrap64 ((IntKind.u64.wrap z).tmod (d + 1)) ∧ wrap64 ((IntKind.u64.wrap z).tmod (d + 1)) ≤ d := by
  have h0 : 0 ≤ IntKind.u64.wrap z := by rw [IntKind.wrap_u64]; omega
  rw [Int.tmod_eq_emod_of_nonneg h0]
  have h1 := Int.emod_nonneg (IntKind.u64.wrap z) (show d + 1 ≠ 0 by omega)
  have h2 := Int.emod_lt_of_pos (IntKind.u64.wrap z) (show 0 < d + 1 by omega)
  unfold wrap64
  omega
theorem size101 : (Try.prog.info? 101).map (·.size) = some 2 := by kernel_rfl
set_option maxRecDepth 100000 in
set_option maxHeartbeats 12800000 in
theorem moves_law (a b : Nat → Int) (m0 m1 m2 m3 f0 f1 ac : Int) (w : World) :
    Calls Try.prog 14 #[.agg #[.int .i64 (a 0), .int .i64 (a 1), .int .i64 (a 2), .int .i64 (a 3), .int .i64 (a 4), .int .i64 (a 5), .int .i64 (a 6), .int .i64 (a 7), .int .i64 (a 8), .int .i64 (a 9), .int .i64 (b 0), .int .i64 (b 1), .int .i64 (b 2), .int .i64 (b 3), .int .i64 (b 4), .int .i64 (b 5), .int .i64 (b 6), .int .i64 (b 7), .int .i64 (b 8), .int .i64 (b 9), .int .i64 m0, .int .i64 m1, .int .i64 m2, .int .i64 m3, .int .i64 f0, .int .i64 f1, .int .i64 ac]] w fun r w' => r = .returned (.bool true) ∧ Below w.heap.size w w' := by
  have HBw := hid (Below.refl w.heap.size w)
  go_enter Try.func14, Try.ntmps14
  go_wp2_with fail
  refine gen_world (fun W0 hW => ?_)
  have HB0 := hid (show Below w.heap.size w W0 by rw [hW]; (repeat' (first | (with_reducible exact Below.refl _ _) | (with_reducible assumption) | (with_reducible refine Below.alloc ?_ ?_ _) | (with_reducible refine Below.drew ?_) | (with_reducible refine below_drewN ?_ _) | (with_reducible refine Below.setCell ?_ ?_ _) | (with_reducible refine below_setRow ?_ ?_ _) | go_size)))
  have FV := hid (show W0.heap[w.heap.size]? = some (.cells #[.int .i64 (a 0), .int .i64 (a 1), .int .i64 (a 2), .int .i64 (a 3), .int .i64 (a 4), .int .i64 (a 5), .int .i64 (a 6), .int .i64 (a 7), .int .i64 (a 8), .int .i64 (a 9), .int .i64 (b 0), .int .i64 (b 1), .int .i64 (b 2), .int .i64 (b 3), .int .i64 (b 4), .int .i64 (b 5), .int .i64 (b 6), .int .i64 (b 7), .int .i64 (b 8), .int .i64 (b 9), .int .i64 m0, .int .i64 m1, .int .i64 m2, .int .i64 m3, .int .i64 f0, .int .i64 f1, .int .i64 ac] 103) by rw [hW]; exact (by repeat' (first | (refine heap_alloc_at _ _ _ ?_; (first | rfl | (simp; done) | (simp; omega))) | (refine heap_alloc_past _ _ _ _ ?_))))
  have hs0 : w.heap.size < W0.heap.size := (Array.getElem?_eq_some_iff.1 FV.out).1
  clear hW
  refine gen_act (fun A0 hA => ?_)
  refine wp_region_by (by kernel_rfl) (by kernel_rfl) [some 14, some 15, some 16, some 17, some 18, some 19, some 20, some 21, some 3, some 4, some 5, some 6, none, none, none, none] rfl (by decide) (BoxR W0 8 4 (fun j => [.pointer (some ⟨w.heap.size, 0, none⟩), .agg #[.int .i64 (a 0), .int .i64 (a 1), .int .i64 (a 2), .int .i64 (a 3), .int .i64 (a 4), .int .i64 (a 5), .int .i64 (a 6), .int .i64 (a 7), .int .i64 (a 8), .int .i64 (a 9)], .pointer (some ⟨w.heap.size, 10, none⟩), .agg #[.int .i64 (b 0), .int .i64 (b 1), .int .i64 (b 2), .int .i64 (b 3), .int .i64 (b 4), .int .i64 (b 5), .int .i64 (b 6), .int .i64 (b 7), .int .i64 (b 8), .int .i64 (b 9)], .pointer (some ⟨w.heap.size, 20, none⟩), .agg #[.int .i64 m0, .int .i64 m1, .int .i64 m2, .int .i64 m3], .pointer (some ⟨w.heap.size, 24, none⟩), .agg #[.int .i64 f0, .int .i64 f1]].getD j undef) (fun i => [#[.int .i64 0, .int .i64 0, .int .i64 0, .int .i64 0, .int .i64 0, .int .i64 0, .int .i64 0, .int .i64 0, .int .i64 0, .int .i64 0], #[.int .i64 0, .int .i64 0, .int .i64 0, .int .i64 0, .int .i64 0, .int .i64 0, .int .i64 0, .int .i64 0, .int .i64 0, .int .i64 0], #[.int .i64 0, .int .i64 0, .int .i64 0, .int .i64 0], #[.int .i64 0, .int .i64 0]].getD i #[]) (fun i => [#[.int .i64 (a 0), .int .i64 (a 1), .int .i64 (a 2), .int .i64 (a 3), .int .i64 (a 4), .int .i64 (a 5), .int .i64 (a 6), .int .i64 (a 7), .int .i64 (a 8), .int .i64 (a 9)], #[.int .i64 (b 0), .int .i64 (b 1), .int .i64 (b 2), .int .i64 (b 3), .int .i64 (b 4), .int .i64 (b 5), .int .i64 (b 6), .int .i64 (b 7), .int .i64 (b 8), .int .i64 (b 9)], #[.int .i64 m0, .int .i64 m1, .int .i64 m2, .int .i64 m3], #[.int .i64 f0, .int .i64 f1]].getD i #[]) (fun i => ([55, 55, 61, 101] : List Nat).getD i 0)) (selfF A0 _) (putF_self A0 _) BoxR.start ?hs1_1_w1 ?hend_1_w1
  case hs1_1_w1 =>
    refine ⟨?_, ?_, ?_, ?_, ?_, ?_, ?_, ?_, ?_, ?_, ?_, ?_, ?_, ?_, ?_, ?_, trivial⟩
    · intro K L us W hK0 hL hd hR
      have hK := hid (fun v A' W' h1 h2 h3 => hK0 v A' W' h1 (hR.pure (k := 0) (by decide) h2 h3)); clear hK0
      (try simp [Region.binds] at hd)
      have hB := hR.grow
      have GB := hid hB
      clear hd hR hB
      simp only [putF]
      rw [hA]
      go_frame
      go_wp2_with fail
      exact hK.out _ _ _ (by rw [hA]; simp only [putF]; kernel_rfl) (Below.refl _ _) rfl
    · intro K L us W hK0 hL hd hR
      have hK := hid (fun v A' W' h1 h2 h3 => hK0 v A' W' h1 (hR.pure (k := 1) (by decide) h2 h3)); clear hK0
      (try simp [Region.binds] at hd)
      have hB := hR.grow
      have GB := hid hB
      have e0 : us 0 = .pointer (some ⟨w.heap.size, 0, none⟩) := hR.vals 0 (by decide) (by first | exact hd | exact hd.1 | exact hd.2.1 | simp_all)
      have G0 := hid (heap_still hB FV.out)
      have c0 : W.cell? ⟨w.heap.size, 0, none⟩ = some (.int .i64 (a 0)) := (cell_row (j := 0) G0.out).trans rfl
      have c1 : W.cell? ⟨w.heap.size, 1, none⟩ = some (.int .i64 (a 1)) := (cell_row (j := 1) G0.out).trans rfl
      have c2 : W.cell? ⟨w.heap.size, 2, none⟩ = some (.int .i64 (a 2)) := (cell_row (j := 2) G0.out).trans rfl
      have c3 : W.cell? ⟨w.heap.size, 3, none⟩ = some (.int .i64 (a 3)) := (cell_row (j := 3) G0.out).trans rfl
      have c4 : W.cell? ⟨w.heap.size, 4, none⟩ = some (.int .i64 (a 4)) := (cell_row (j := 4) G0.out).trans rfl
      have c5 : W.cell? ⟨w.heap.size, 5, none⟩ = some (.int .i64 (a 5)) := (cell_row (j := 5) G0.out).trans rfl
      have c6 : W.cell? ⟨w.heap.size, 6, none⟩ = some (.int .i64 (a 6)) := (cell_row (j := 6) G0.out).trans rfl
      have c7 : W.cell? ⟨w.heap.size, 7, none⟩ = some (.int .i64 (a 7)) := (cell_row (j := 7) G0.out).trans rfl
      have c8 : W.cell? ⟨w.heap.size, 8, none⟩ = some (.int .i64 (a 8)) := (cell_row (j := 8) G0.out).trans rfl
      have c9 : W.cell? ⟨w.heap.size, 9, none⟩ = some (.int .i64 (a 9)) := (cell_row (j := 9) G0.out).trans rfl
      clear hd hR hB
      simp only [putF]
      rw [hA, e0]
      go_frame
      go_wp2_with fail
      exact hK.out _ _ _ (by rw [hA]; simp only [putF]; rw [e0]; kernel_rfl) (Below.refl _ _) rfl
    · intro K L us W hK0 hL hd hR
      have hK := hid (fun v A' W' h1 h2 h3 => hK0 v A' W' h1 (hR.pure (k := 2) (by decide) h2 h3)); clear hK0
      (try simp [Region.binds] at hd)
      have hB := hR.grow
      have GB := hid hB
      clear hd hR hB
      simp only [putF]
      rw [hA]
      go_frame
      go_wp2_with fail
      exact hK.out _ _ _ (by rw [hA]; simp only [putF]; kernel_rfl) (Below.refl _ _) rfl
    · intro K L us W hK0 hL hd hR
      have hK := hid (fun v A' W' h1 h2 h3 => hK0 v A' W' h1 (hR.pure (k := 3) (by decide) h2 h3)); clear hK0
      (try simp [Region.binds] at hd)
      have hB := hR.grow
      have GB := hid hB
      have e2 : us 2 = .pointer (some ⟨w.heap.size, 10, none⟩) := hR.vals 2 (by decide) (by first | exact hd | exact hd.1 | exact hd.2.1 | simp_all)
      have G0 := hid (heap_still hB FV.out)
      have c0 : W.cell? ⟨w.heap.size, 10, none⟩ = some (.int .i64 (b 0)) := (cell_row (j := 10) G0.out).trans rfl
      have c1 : W.cell? ⟨w.heap.size, 11, none⟩ = some (.int .i64 (b 1)) := (cell_row (j := 11) G0.out).trans rfl
      have c2 : W.cell? ⟨w.heap.size, 12, none⟩ = some (.int .i64 (b 2)) := (cell_row (j := 12) G0.out).trans rfl
      have c3 : W.cell? ⟨w.heap.size, 13, none⟩ = some (.int .i64 (b 3)) := (cell_row (j := 13) G0.out).trans rfl
      have c4 : W.cell? ⟨w.heap.size, 14, none⟩ = some (.int .i64 (b 4)) := (cell_row (j := 14) G0.out).trans rfl
      have c5 : W.cell? ⟨w.heap.size, 15, none⟩ = some (.int .i64 (b 5)) := (cell_row (j := 15) G0.out).trans rfl
      have c6 : W.cell? ⟨w.heap.size, 16, none⟩ = some (.int .i64 (b 6)) := (cell_row (j := 16) G0.out).trans rfl
      have c7 : W.cell? ⟨w.heap.size, 17, none⟩ = some (.int .i64 (b 7)) := (cell_row (j := 17) G0.out).trans rfl
      have c8 : W.cell? ⟨w.heap.size, 18, none⟩ = some (.int .i64 (b 8)) := (cell_row (j := 18) G0.out).trans rfl
      have c9 : W.cell? ⟨w.heap.size, 19, none⟩ = some (.int .i64 (b 9)) := (cell_row (j := 19) G0.out).trans rfl
      clear hd hR hB
      simp only [putF]
      rw [hA, e2]
      go_frame
      go_wp2_with fail
      exact hK.out _ _ _ (by rw [hA]; simp only [putF]; rw [e2]; kernel_rfl) (Below.refl _ _) rfl
    · intro K L us W hK0 hL hd hR
      have hK := hid (fun v A' W' h1 h2 h3 => hK0 v A' W' h1 (hR.pure (k := 4) (by decide) h2 h3)); clear hK0
      (try simp [Region.binds] at hd)
      have hB := hR.grow
      have GB := hid hB
      clear hd hR hB
      simp only [putF]
      rw [hA]
      go_frame
      go_wp2_with fail
      exact hK.out _ _ _ (by rw [hA]; simp only [putF]; kernel_rfl) (Below.refl _ _) rfl
    · intro K L us W hK0 hL hd hR
      have hK := hid (fun v A' W' h1 h2 h3 => hK0 v A' W' h1 (hR.pure (k := 5) (by decide) h2 h3)); clear hK0
      (try simp [Region.binds] at hd)
      have hB := hR.grow
      have GB := hid hB
      have e4 : us 4 = .pointer (some ⟨w.heap.size, 20, none⟩) := hR.vals 4 (by decide) (by first | exact hd | exact hd.1 | exact hd.2.1 | simp_all)
      have G0 := hid (heap_still hB FV.out)
      have c0 : W.cell? ⟨w.heap.size, 20, none⟩ = some (.int .i64 m0) := (cell_row (j := 20) G0.out).trans rfl
      have c1 : W.cell? ⟨w.heap.size, 21, none⟩ = some (.int .i64 m1) := (cell_row (j := 21) G0.out).trans rfl
      have c2 : W.cell? ⟨w.heap.size, 22, none⟩ = some (.int .i64 m2) := (cell_row (j := 22) G0.out).trans rfl
      have c3 : W.cell? ⟨w.heap.size, 23, none⟩ = some (.int .i64 m3) := (cell_row (j := 23) G0.out).trans rfl
      clear hd hR hB
      simp only [putF]
      rw [hA, e4]
      go_frame
      go_wp2_with fail
      exact hK.out _ _ _ (by rw [hA]; simp only [putF]; rw [e4]; kernel_rfl) (Below.refl _ _) rfl
    · intro K L us W hK0 hL hd hR
      have hK := hid (fun v A' W' h1 h2 h3 => hK0 v A' W' h1 (hR.pure (k := 6) (by decide) h2 h3)); clear hK0
      (try simp [Region.binds] at hd)
      have hB := hR.grow
      have GB := hid hB
      clear hd hR hB
      simp only [putF]
      rw [hA]
      go_frame
      go_wp2_with fail
      exact hK.out _ _ _ (by rw [hA]; simp only [putF]; kernel_rfl) (Below.refl _ _) rfl
    · intro K L us W hK0 hL hd hR
      have hK := hid (fun v A' W' h1 h2 h3 => hK0 v A' W' h1 (hR.pure (k := 7) (by decide) h2 h3)); clear hK0
      (try simp [Region.binds] at hd)
      have hB := hR.grow
      have GB := hid hB
      have e6 : us 6 = .pointer (some ⟨w.heap.size, 24, none⟩) := hR.vals 6 (by decide) (by first | exact hd | exact hd.1 | exact hd.2.1 | simp_all)
      have G0 := hid (heap_still hB FV.out)
      have c0 : W.cell? ⟨w.heap.size, 24, none⟩ = some (.int .i64 f0) := (cell_row (j := 24) G0.out).trans rfl
      have c1 : W.cell? ⟨w.heap.size, 25, none⟩ = some (.int .i64 f1) := (cell_row (j := 25) G0.out).trans rfl
      clear hd hR hB
      simp only [putF]
      rw [hA, e6]
      go_frame
      go_wp2_with fail
      exact hK.out _ _ _ (by rw [hA]; simp only [putF]; rw [e6]; kernel_rfl) (Below.refl _ _) rfl
    · intro K L us W hK0 hL hd hR
      have hK := hid hK0; clear hK0
      have hR2 := hid (hR.alloc (i := 0) (by decide) hL)
      clear hd hR
      simp only [putF]
      rw [hA]
      go_frame
      go_wp2_with fail
      exact hK.out (.pointer (some ⟨W.heap.size, 0, none⟩)) _ _ (by rw [hA]; kernel_rfl) hR2.out
    · intro K L us W hK0 hL hd hR
      have hK := hid hK0; clear hK0
      have hR2 := hid (hR.alloc (i := 1) (by decide) hL)
      clear hd hR
      simp only [putF]
      rw [hA]
      go_frame
      go_wp2_with fail
      exact hK.out (.pointer (some ⟨W.heap.size, 0, none⟩)) _ _ (by rw [hA]; kernel_rfl) hR2.out
    · intro K L us W hK0 hL hd hR
      have hK := hid hK0; clear hK0
      have hR2 := hid (hR.alloc (i := 2) (by decide) hL)
      clear hd hR
      simp only [putF]
      rw [hA]
      go_frame
      go_wp2_with fail
      exact hK.out (.pointer (some ⟨W.heap.size, 0, none⟩)) _ _ (by rw [hA]; kernel_rfl) hR2.out
    · intro K L us W hK0 hL hd hR
      have hK := hid hK0; clear hK0
      have hR2 := hid (hR.alloc (i := 3) (by decide) hL)
      clear hd hR
      simp only [putF]
      rw [hA]
      go_frame
      go_wp2_with fail
      exact hK.out (.pointer (some ⟨W.heap.size, 0, none⟩)) _ _ (by rw [hA]; kernel_rfl) hR2.out
    · intro K L us W hK0 hL hd hR
      have hK := hid hK0; clear hK0
      (try simp [Region.binds] at hd)
      have hla : L 8 = true := by first | exact hd.1 | exact hd | exact hd.2.1 | simp_all
      have hls : L 1 = true := by first | exact hd.2.1 | exact hd.2 | exact hd.1 | simp_all
      obtain ⟨gbx, e0, hg, hh⟩ := hR.box 0 (by decide) hla
      have hL2 : L (8 + 4 + 0) = false := hL
      rw [hL2, if_neg (by decide)] at hh
      have e1 : us 1 = .agg #[.int .i64 (a 0), .int .i64 (a 1), .int .i64 (a 2), .int .i64 (a 3), .int .i64 (a 4), .int .i64 (a 5), .int .i64 (a 6), .int .i64 (a 7), .int .i64 (a 8), .int .i64 (a 9)] := hR.vals 1 (by decide) hls
      have hR2 := hid (hR.store (i := 0) (v := undef) (by decide) hla e0 hg hh)
      have hh2 : W.heap[gbx]? = some (.cells #[.int .i64 0, .int .i64 0, .int .i64 0, .int .i64 0, .int .i64 0, .int .i64 0, .int .i64 0, .int .i64 0, .int .i64 0, .int .i64 0] 55) := hh
      have e2 : us 8 = .pointer (some ⟨gbx, 0, none⟩) := e0
      have HH := hid hh2
      clear hd hR hh e0 hL2
      simp only [putF]
      rw [hA, e2, e1]
      go_frame
      go_wp2_with (refine wpList_store_at rfl 55 (.tmp 3) (.tmp 15) rfl rfl rfl HH.out size55 rfl rfl rfl ?_)
      exact hK.out undef _ _ (by rw [hA]; simp only [putF]; rw [e2, e1]; kernel_rfl) hR2.out
    · intro K L us W hK0 hL hd hR
      have hK := hid hK0; clear hK0
      (try simp [Region.binds] at hd)
      have hla : L 9 = true := by first | exact hd.1 | exact hd | exact hd.2.1 | simp_all
      have hls : L 3 = true := by first | exact hd.2.1 | exact hd.2 | exact hd.1 | simp_all
      obtain ⟨gbx, e0, hg, hh⟩ := hR.box 1 (by decide) hla
      have hL2 : L (8 + 4 + 1) = false := hL
      rw [hL2, if_neg (by decide)] at hh
      have e1 : us 3 = .agg #[.int .i64 (b 0), .int .i64 (b 1), .int .i64 (b 2), .int .i64 (b 3), .int .i64 (b 4), .int .i64 (b 5), .int .i64 (b 6), .int .i64 (b 7), .int .i64 (b 8), .int .i64 (b 9)] := hR.vals 3 (by decide) hls
      have hR2 := hid (hR.store (i := 1) (v := undef) (by decide) hla e0 hg hh)
      have hh2 : W.heap[gbx]? = some (.cells #[.int .i64 0, .int .i64 0, .int .i64 0, .int .i64 0, .int .i64 0, .int .i64 0, .int .i64 0, .int .i64 0, .int .i64 0, .int .i64 0] 55) := hh
      have e2 : us 9 = .pointer (some ⟨gbx, 0, none⟩) := e0
      have HH := hid hh2
      clear hd hR hh e0 hL2
      simp only [putF]
      rw [hA, e2, e1]
      go_frame
      go_wp2_with (refine wpList_store_at rfl 55 (.tmp 4) (.tmp 17) rfl rfl rfl HH.out size55 rfl rfl rfl ?_)
      exact hK.out undef _ _ (by rw [hA]; simp only [putF]; rw [e2, e1]; kernel_rfl) hR2.out
    · intro K L us W hK0 hL hd hR
      have hK := hid hK0; clear hK0
      (try simp [Region.binds] at hd)
      have hla : L 10 = true := by first | exact hd.1 | exact hd | exact hd.2.1 | simp_all
      have hls : L 5 = true := by first | exact hd.2.1 | exact hd.2 | exact hd.1 | simp_all
      obtain ⟨gbx, e0, hg, hh⟩ := hR.box 2 (by decide) hla
      have hL2 : L (8 + 4 + 2) = false := hL
      rw [hL2, if_neg (by decide)] at hh
      have e1 : us 5 = .agg #[.int .i64 m0, .int .i64 m1, .int .i64 m2, .int .i64 m3] := hR.vals 5 (by decide) hls
      have hR2 := hid (hR.store (i := 2) (v := undef) (by decide) hla e0 hg hh)
      have hh2 : W.heap[gbx]? = some (.cells #[.int .i64 0, .int .i64 0, .int .i64 0, .int .i64 0] 61) := hh
      have e2 : us 10 = .pointer (some ⟨gbx, 0, none⟩) := e0
      have HH := hid hh2
      clear hd hR hh e0 hL2
      simp only [putF]
      rw [hA, e2, e1]
      go_frame
      go_wp2_with (refine wpList_store_at rfl 61 (.tmp 5) (.tmp 19) rfl rfl rfl HH.out size61 rfl rfl rfl ?_)
      exact hK.out undef _ _ (by rw [hA]; simp only [putF]; rw [e2, e1]; kernel_rfl) hR2.out
    · intro K L us W hK0 hL hd hR
      have hK := hid hK0; clear hK0
      (try simp [Region.binds] at hd)
      have hla : L 11 = true := by first | exact hd.1 | exact hd | exact hd.2.1 | simp_all
      have hls : L 7 = true := by first | exact hd.2.1 | exact hd.2 | exact hd.1 | simp_all
      obtain ⟨gbx, e0, hg, hh⟩ := hR.box 3 (by decide) hla
      have hL2 : L (8 + 4 + 3) = false := hL
      rw [hL2, if_neg (by decide)] at hh
      have e1 : us 7 = .agg #[.int .i64 f0, .int .i64 f1] := hR.vals 7 (by decide) hls
      have hR2 := hid (hR.store (i := 3) (v := undef) (by decide) hla e0 hg hh)
      have hh2 : W.heap[gbx]? = some (.cells #[.int .i64 0, .int .i64 0] 101) := hh
      have e2 : us 11 = .pointer (some ⟨gbx, 0, none⟩) := e0
      have HH := hid hh2
      clear hd hR hh e0 hL2
      simp only [putF]
      rw [hA, e2, e1]
      go_frame
      go_wp2_with (refine wpList_store_at rfl 101 (.tmp 6) (.tmp 21) rfl rfl rfl HH.out size101 rfl rfl rfl ?_)
      exact hK.out undef _ _ (by rw [hA]; simp only [putF]; rw [e2, e1]; kernel_rfl) hR2.out
  intro L us w1 hL hR
  obtain ⟨g3, e3, hg3, hh3⟩ := hR.box 0 (by decide) (hL _ (by decide))
  rw [if_pos (hL _ (by decide))] at hh3
  have HH3 := hid (show w1.heap[g3]? = some (.cells #[.int .i64 (a 0), .int .i64 (a 1), .int .i64 (a 2), .int .i64 (a 3), .int .i64 (a 4), .int .i64 (a 5), .int .i64 (a 6), .int .i64 (a 7), .int .i64 (a 8), .int .i64 (a 9)] 55) from hh3)
  have e3 : us 8 = .pointer (some ⟨g3, 0, none⟩) := e3
  obtain ⟨g4, e4, hg4, hh4⟩ := hR.box 1 (by decide) (hL _ (by decide))
  rw [if_pos (hL _ (by decide))] at hh4
  have HH4 := hid (show w1.heap[g4]? = some (.cells #[.int .i64 (b 0), .int .i64 (b 1), .int .i64 (b 2), .int .i64 (b 3), .int .i64 (b 4), .int .i64 (b 5), .int .i64 (b 6), .int .i64 (b 7), .int .i64 (b 8), .int .i64 (b 9)] 55) from hh4)
  have e4 : us 9 = .pointer (some ⟨g4, 0, none⟩) := e4
  obtain ⟨g5, e5, hg5, hh5⟩ := hR.box 2 (by decide) (hL _ (by decide))
  rw [if_pos (hL _ (by decide))] at hh5
  have HH5 := hid (show w1.heap[g5]? = some (.cells #[.int .i64 m0, .int .i64 m1, .int .i64 m2, .int .i64 m3] 61) from hh5)
  have e5 : us 10 = .pointer (some ⟨g5, 0, none⟩) := e5
  obtain ⟨g6, e6, hg6, hh6⟩ := hR.box 3 (by decide) (hL _ (by decide))
  rw [if_pos (hL _ (by decide))] at hh6
  have HH6 := hid (show w1.heap[g6]? = some (.cells #[.int .i64 f0, .int .i64 f1] 101) from hh6)
  have e6 : us 11 = .pointer (some ⟨g6, 0, none⟩) := e6
  have hne3_4 : g3 ≠ g4 := fun h => hR.ne 0 1 (by decide) (by decide) (by decide) (hL _ (by decide)) (hL _ (by decide)) (by rw [show us (8 + 0) = _ from e3, show us (8 + 1) = _ from e4, h])
  have hne3_5 : g3 ≠ g5 := fun h => hR.ne 0 2 (by decide) (by decide) (by decide) (hL _ (by decide)) (hL _ (by decide)) (by rw [show us (8 + 0) = _ from e3, show us (8 + 2) = _ from e5, h])
  have hne3_6 : g3 ≠ g6 := fun h => hR.ne 0 3 (by decide) (by decide) (by decide) (hL _ (by decide)) (hL _ (by decide)) (by rw [show us (8 + 0) = _ from e3, show us (8 + 3) = _ from e6, h])
  have hne4_5 : g4 ≠ g5 := fun h => hR.ne 1 2 (by decide) (by decide) (by decide) (hL _ (by decide)) (hL _ (by decide)) (by rw [show us (8 + 1) = _ from e4, show us (8 + 2) = _ from e5, h])
  have hne4_6 : g4 ≠ g6 := fun h => hR.ne 1 3 (by decide) (by decide) (by decide) (hL _ (by decide)) (hL _ (by decide)) (by rw [show us (8 + 1) = _ from e4, show us (8 + 3) = _ from e6, h])
  have hne5_6 : g5 ≠ g6 := fun h => hR.ne 2 3 (by decide) (by decide) (by decide) (hL _ (by decide)) (hL _ (by decide)) (by rw [show us (8 + 2) = _ from e5, show us (8 + 3) = _ from e6, h])
  have HBw1 := hid (HB0.out.trans (hR.grow.mono HB0.out.size))
  have HSw1 := hid (fun n x => @heap_still _ _ n x hR.grow)
  have hzw1 := hR.grow.size
  simp only [putF]
  rw [hA, e3, e4, e5, e6]
  clear hA hR hL hh3 e3 hh4 e4 hh5 e5 hh6 e6
  go_frame
  have Vw1 := hid (HSw1.out _ _ FV.out)
  have Aw1 := hid HH3.out
  have Bw1 := hid HH4.out
  have Mw1 := hid HH5.out
  have Ow1 := hid HH6.out
  clear HH3 HH4 HH5 HH6 FV
  go_wp2_with (first | (refine wpList_load_at rfl 55 (.tmp 3) rfl rfl Aw1.out Try.underlying55 rfl size55 rfl ?_))
  refine (rFix_any _ _ _ _ _ _ _ _ _ _ _).mono ?_
  rintro r w2 ⟨rfl, hb⟩
  have HBw2 := hid (show Below w.heap.size w w2 by have hB0 := HBw1.out; refine Below.trans ?_ (hb.mono ?_); (focus ((repeat' (first | (with_reducible exact Below.refl _ _) | (with_reducible assumption) | (with_reducible refine Below.alloc ?_ ?_ _) | (with_reducible refine Below.drew ?_) | (with_reducible refine below_drewN ?_ _) | (with_reducible refine Below.setCell ?_ ?_ _) | (with_reducible refine below_setRow ?_ ?_ _) | go_size)); done)); (focus (first | (simp; done) | (simp; omega) | (have hB1 := hB0.size; simp; omega))))
  have hsw2 := hb.size
  (try simp at hsw2)
  have hzw2 : w.heap.size < w2.heap.size := by omega
  obtain ⟨hcw2, hfw2⟩ := bcell hb
  have hkw2 := hid (fun n x => @heap_still _ _ n x hb)
  clear hb
  have Vw2 := hid (hkw2.out _ _ Vw1.out)
  have Aw2 := hid (hkw2.out _ _ Aw1.out)
  have Bw2 := hid (hkw2.out _ _ Bw1.out)
  have Mw2 := hid (hkw2.out _ _ Mw1.out)
  have Ow2 := hid (hkw2.out _ _ Ow1.out)
  clear hcw2 hfw2
  by_cases h1 : fixF a = true
  · rw [show fixB (a 0) (a 1) (a 2) (a 3) (a 4) (a 5) (a 6) (a 7) (a 8) (a 9) = true from h1]
    go_wp2_with (first | (refine wpList_load_at rfl 55 (.tmp 4) rfl rfl Bw2.out Try.underlying55 rfl size55 rfl ?_))
    refine (rFix_any _ _ _ _ _ _ _ _ _ _ _).mono ?_
    rintro r w3 ⟨rfl, hb⟩
    have HBw3 := hid (show Below w.heap.size w w3 by have hB0 := HBw2.out; refine Below.trans ?_ (hb.mono ?_); (focus ((repeat' (first | (with_reducible exact Below.refl _ _) | (with_reducible assumption) | (with_reducible refine Below.alloc ?_ ?_ _) | (with_reducible refine Below.drew ?_) | (with_reducible refine below_drewN ?_ _) | (with_reducible refine Below.setCell ?_ ?_ _) | (with_reducible refine below_setRow ?_ ?_ _) | go_size)); done)); (focus (first | (simp; done) | (simp; omega) | (have hB1 := hB0.size; simp; omega))))
    have hsw3 := hb.size
    (try simp at hsw3)
    have hzw3 : w.heap.size < w3.heap.size := by omega
    obtain ⟨hcw3, hfw3⟩ := bcell hb
    have hkw3 := hid (fun n x => @heap_still _ _ n x hb)
    clear hb
    have Vw3 := hid (hkw3.out _ _ Vw2.out)
    have Aw3 := hid (hkw3.out _ _ Aw2.out)
    have Bw3 := hid (hkw3.out _ _ Bw2.out)
    have Mw3 := hid (hkw3.out _ _ Mw2.out)
    have Ow3 := hid (hkw3.out _ _ Ow2.out)
    clear hcw3 hfw3
    by_cases h2 : fixF b = true
    · rw [show fixB (b 0) (b 1) (b 2) (b 3) (b 4) (b 5) (b 6) (b 7) (b 8) (b 9) = true from h2]
      go_wp2_with (first | (refine wpList_load_at rfl 61 (.tmp 5) rfl rfl Mw3.out Try.underlying61 rfl size61 rfl ?_))
      refine (rRules_any _ _ _ _ _).mono ?_
      rintro r w4 ⟨rfl, hb⟩
      have HBw4 := hid (show Below w.heap.size w w4 by have hB0 := HBw3.out; refine Below.trans ?_ (hb.mono ?_); (focus ((repeat' (first | (with_reducible exact Below.refl _ _) | (with_reducible assumption) | (with_reducible refine Below.alloc ?_ ?_ _) | (with_reducible refine Below.drew ?_) | (with_reducible refine below_drewN ?_ _) | (with_reducible refine Below.setCell ?_ ?_ _) | (with_reducible refine below_setRow ?_ ?_ _) | go_size)); done)); (focus (first | (simp; done) | (simp; omega) | (have hB1 := hB0.size; simp; omega))))
      have hsw4 := hb.size
      (try simp at hsw4)
      have hzw4 : w.heap.size < w4.heap.size := by omega
      obtain ⟨hcw4, hfw4⟩ := bcell hb
      have hkw4 := hid (fun n x => @heap_still _ _ n x hb)
      clear hb
      have Vw4 := hid (hkw4.out _ _ Vw3.out)
      have Aw4 := hid (hkw4.out _ _ Aw3.out)
      have Bw4 := hid (hkw4.out _ _ Bw3.out)
      have Mw4 := hid (hkw4.out _ _ Mw3.out)
      have Ow4 := hid (hkw4.out _ _ Ow3.out)
      clear hcw4 hfw4
      by_cases h3 : rulesB m0 m1 m2 m3 = true
      · rw [h3]
        have pa := fix_place h1
        have pb := fix_place h2
        have hmb : (1 ≤ m0 ∧ m0 ≤ 10000000) ∧ (0 ≤ m2 ∧ m2 ≤ 100000) ∧ (0 ≤ m3 ∧ m3 ≤ 10000000) := by simp [rulesB, inB] at h3; omega
        have H1 := hid h1
        have H2 := hid h2
        have H3 := hid h3
        clear h1 h2 h3
        have ca0 : w4.cell? ⟨g3, 0, none⟩ = some (.int .i64 (a 0)) := (cell_row (j := 0) Aw4.out).trans rfl
        have cb0 : w4.cell? ⟨g4, 0, none⟩ = some (.int .i64 (b 0)) := (cell_row (j := 0) Bw4.out).trans rfl
        have cm0 : w4.cell? ⟨g5, 0, none⟩ = some (.int .i64 m0) := (cell_row (j := 0) Mw4.out).trans rfl
        have cm2 : w4.cell? ⟨g5, 2, none⟩ = some (.int .i64 m2) := (cell_row (j := 2) Mw4.out).trans rfl
        have cac : w4.cell? ⟨w.heap.size, 26, none⟩ = some (.int .i64 ac) := (cell_row (j := 26) Vw4.out).trans rfl
        by_cases h4 : a 0 < b 0
        · by_cases h5 : b 0 - a 0 ≤ m0
          · have htk := tmod_bd ac hmb.2.1.1
            obtain ⟨kk, hkk⟩ : ∃ kk, ac.tmod (m2 + 1) = kk := ⟨_, rfl⟩
            rw [hkk] at htk
            go_wp2_with fail
            clear ca0 cb0 cm0 cm2 cac
            have qa0 := cellsRn Aw4.out 0 _ rfl
            have qo0 := cellsRn Ow4.out 0 _ rfl
            have qo1 := cellsRn Ow4.out 1 _ rfl
            refine wp_region_quiet_below (by kernel_rfl) (by kernel_rfl) ?_
            repeat (first | go_big_quiet_step (fail) | quiet_step (fail))
            refine wpQuiet_nil ?_
            intro _ hww
            obtain ⟨⟨dq, osq⟩, hww'⟩ := hww
            subst hww'
            clear qa0 qo0 qo1
            have hbq := below_regrown w4 dq osq
            have HBw5 := hid (HBw4.out.trans (hbq.mono HBw4.out.size))
            have V5 := hid (heap_still hbq Vw4.out)
            have A5 := hid (heap_still hbq Aw4.out)
            have B5 := hid (heap_still hbq Bw4.out)
            have M5 := hid (heap_still hbq Mw4.out)
            have O5 := hid (heap_still hbq Ow4.out)
            have hz5 := hbq.size
            clear hbq
            generalize Sort.grow (redrawn w4 dq) osq = w5 at *
            have hdr := draw_bd (bits BinOp.xor IntKind.i64 f0 f1) (d := b 0 - a 0) (by omega)
            generalize wrap64 ((IntKind.u64.wrap (bits BinOp.xor IntKind.i64 f0 f1)).tmod (b 0 - a 0 + 1)) = uu at *
            rw [show wrap64 (a 0 + uu) = a 0 + uu by unfold wrap64; omega]
            obtain ⟨l, h, q0, q1, q2, q3, gg, hpv, hlh, hin⟩ := move_pose (m1 := m1) (m3 := m3) (time := a 0 + uu) H3.out H1.out H2.out h4 h5 (by omega)
            have HPA := hid (fun W ad c A' C' (ht : trackAny W ad 1 A' (fun _ => 2) C' (two a b)) => hpv ▸ xPoseAt_any ad 1 c A' (fun _ => 2) C' (two a b) m0 m1 m2 m3 (a 0 + uu) W (by decide) (fun _ => by decide) ht)
            have HLH := hid hlh
            have HIN := hid hin
            clear hpv hlh hin
            go_wp2_with (first | (refine wpList_load_at rfl 55 (.tmp 3) rfl rfl A5.out Try.underlying55 rfl size55 rfl ?_) | (refine wpList_load_at rfl 55 (.tmp 4) rfl rfl B5.out Try.underlying55 rfl size55 rfl ?_) | (refine wpList_load_at rfl 61 (.tmp 5) rfl rfl (heap_alloc_past _ _ _ _ (heap_alloc_past _ _ _ _ M5.out)) Try.underlying61 rfl size61 rfl ?_))
            refine (HPA.out _ _ _ _ _ (two_any a b w5)).mono ?_
            rintro r w6 ⟨rfl, hb⟩
            have HBw6 := hid (show Below w.heap.size w w6 by have hB0 := HBw5.out; refine Below.trans ?_ (hb.mono ?_); (focus ((repeat' (first | (with_reducible exact Below.refl _ _) | (with_reducible assumption) | (with_reducible refine Below.alloc ?_ ?_ _) | (with_reducible refine Below.drew ?_) | (with_reducible refine below_drewN ?_ _) | (with_reducible refine Below.setCell ?_ ?_ _) | (with_reducible refine below_setRow ?_ ?_ _) | go_size)); done)); (focus (first | (simp; done) | (simp; omega) | (have hB1 := hB0.size; simp; omega))))
            have hsw6 := hb.size
            (try simp at hsw6)
            have hzw6 : w.heap.size < w6.heap.size := by omega
            have hkw6 := hid (fun n x => @heap_still _ _ n x hb)
            have hbw6 := hid hb
            clear hb
            have A6 := hid (hkw6.out _ _ (heap_alloc_past _ _ _ _ (heap_alloc_past _ _ _ _ A5.out)))
            have B6 := hid (hkw6.out _ _ (heap_alloc_past _ _ _ _ (heap_alloc_past _ _ _ _ B5.out)))
            have O6 := hid (hkw6.out _ _ (heap_alloc_past _ _ _ _ (heap_alloc_past _ _ _ _ O5.out)))
            clear A5 B5 M5 O5 V5 HPA
            have hoa := tmod_bd f0 pa.2.2.2.2.1
            have hob := tmod_bd f1 pb.2.2.2.2.1
            obtain ⟨oa, hoa2⟩ : ∃ z, f0.tmod (a 4 + 1) = z := ⟨_, rfl⟩
            obtain ⟨ob, hob2⟩ : ∃ z, f1.tmod (b 4 + 1) = z := ⟨_, rfl⟩
            rw [hoa2] at hoa
            rw [hob2] at hob
            go_wp2_with (first | (refine wpList_store_new rfl 80 (.tmp 10) (.tmp 87) rfl rfl rfl rfl size80b rfl rfl rfl ?_))
            go_loopw [91] (fun i W => ∃ (m : Nat), m ≤ 3 ∧ i = .int .i64 m ∧ Below w.heap.size w W ∧ W.heap[g3]? = some (.cells #[.int .i64 (a 0), .int .i64 (a 1), .int .i64 (a 2), .int .i64 (a 3), .int .i64 (a 4), .int .i64 (a 5), .int .i64 (a 6), .int .i64 (a 7), .int .i64 (a 8), .int .i64 (a 9)] 55) ∧ W.heap[g4]? = some (.cells #[.int .i64 (b 0), .int .i64 (b 1), .int .i64 (b 2), .int .i64 (b 3), .int .i64 (b 4), .int .i64 (b 5), .int .i64 (b 6), .int .i64 (b 7), .int .i64 (b 8), .int .i64 (b 9)] 55) ∧ W.heap[g6]? = some (.cells #[.int .i64 f0, .int .i64 f1] 101) ∧ W.heap[w6.heap.size]? = some (.cells #[.int .i64 (l 0), .int .i64 (h 0), .int .i64 (l 1), .int .i64 (h 1), .int .i64 (l 2), .int .i64 (h 2), .int .i64 q0, .int .i64 q1, .int .i64 q2, .int .i64 q3, .int .i64 gg] 80)) (fun i _ => 3 - (intOf i).toNat)
            case atStart => exact ⟨0, by omega, rfl, (by have hB0 := HBw6.out; have hB1 := hB0.size; exact hB0.alloc hB1 _), heap_alloc_past _ _ _ _ A6.out, heap_alloc_past _ _ _ _ B6.out, heap_alloc_past _ _ _ _ O6.out, heap_alloc_at _ _ _ rfl⟩
            case round =>
              obtain ⟨m, hm, rfl, hB, hA, hBB, hO, hP⟩ := hrel
              have hszr : w6.heap.size < wr.heap.size := (Array.getElem?_eq_some_iff.1 hP).1
              have HBwr := hid hB
              have LA := hid hA
              have LB := hid hBB
              have LO := hid hO
              have LP := hid hP
              clear hB hA hBB hO hP
              by_cases hlt : m < 3
              · have hdm : decide ((m : Int) < 3) = true := by simp; omega
                have FA := hid (fix_at a m hlt)
                have FB := hid (fix_at b m hlt)
                have FL := hid (lo_at l h q0 q1 q2 q3 gg m hlt)
                have FH := hid (hi_at l h q0 q1 q2 q3 gg m hlt)
                have hin := HIN.out oa ob kk (by omega) (by omega) (by omega) (by omega) (by omega) (by omega) m hlt
                have hbl := HLH.out m hlt
                have hab : (-134217728 ≤ a (m + 1) ∧ a (m + 1) ≤ 134217728) ∧ (-134217728 ≤ b (m + 1) ∧ b (m + 1) ≤ 134217728) := by
                  match m, hlt with
                  | 0, _ => exact ⟨pa.1, pb.1⟩
                  | 1, _ => exact ⟨pa.2.1, pb.2.1⟩
                  | 2, _ => exact ⟨pa.2.2.1, pb.2.2.1⟩
                have HQ := hid (fun W => quad_any (a (m + 1) + oa) (b (m + 1) + ob) kk (b 0 - a 0) (a 0 + uu - a 0) W (by omega) (by omega) (by omega) (by omega) (by omega))
                generalize quadQ (a (m + 1) + oa) (b (m + 1) + ob) kk (b 0 - a 0) (a 0 + uu - a 0) = QM at *
                have HC1 := hid (show decide (cmpQ QM ((l m : Int) : Rat) < 0) = false from decide_eq_false (fun hh => absurd ((mcmp_lt _ _).1 hh) (Rat.not_lt.2 hin.1)))
                have HC2 := hid (show decide (0 < cmpQ QM ((h m : Int) : Rat)) = false from decide_eq_false (fun hh => absurd ((mcmp_gt _ _).1 hh) (Rat.not_lt.2 hin.2)))
                have HWL := hid (fun W => whole_any (l m) W (by omega))
                have HWH := hid (fun W => whole_any (h m) W (by omega))
                clear hin hbl
                go_wp2_with fail
                refine gen_act (fun A0 hA => ?_)
                refine wp_region_last (by kernel_rfl) (by kernel_rfl) [some 94, some 95, some 96, some 97, some 98, some 99, some 100, some 101, some 102, some 103, some 104, some 105, some 106, some 107, some 108, some 109, some 110, some 111, some 112, some 113, some 114, some 115, some 116, some 117, some 118, some 119, some 120, some 121, some 122, some 13, none] rfl (by decide) 30 rfl (by kernel_rfl) (by kernel_rfl)
                  [IsV (.int .i64 (m : Int)), IsV (.pointer (some ⟨g3, 1, none⟩)), IsV (.pointer (some ⟨g3, 1 + m, none⟩)), IsV (.int .i64 (a (m + 1))), IsV (.pointer (some ⟨g6, 0, none⟩)), IsV (.int .i64 f0), IsV (.pointer (some ⟨g3, 4, none⟩)), IsV (.int .i64 (a 4)), IsV (.int .i64 (a 4 + 1)), IsV (.int .i64 oa), IsV (.int .i64 (a (m + 1) + oa)), IsV (.int .i64 (m : Int)), IsV (.pointer (some ⟨g4, 1, none⟩)), IsV (.pointer (some ⟨g4, 1 + m, none⟩)), IsV (.int .i64 (b (m + 1))), IsV (.pointer (some ⟨g6, 1, none⟩)), IsV (.int .i64 f1), IsV (.pointer (some ⟨g4, 4, none⟩)), IsV (.int .i64 (b 4)), IsV (.int .i64 (b 4 + 1)), IsV (.int .i64 ob), IsV (.int .i64 (b (m + 1) + ob)), IsV (.int .i64 kk), IsV (.int .i64 (b 0 - a 0)), IsV (.int .i64 (a 0 + uu)), IsV (.pointer (some ⟨g3, 0, none⟩)), IsV (.int .i64 (a 0)), IsV (.int .i64 (a 0 + uu - a 0)), fun W v => QAt W v QM 265, Fresh35 wr.heap.size]
                  ⟨IsV.stb _, IsV.stb _, IsV.stb _, IsV.stb _, IsV.stb _, IsV.stb _, IsV.stb _, IsV.stb _, IsV.stb _, IsV.stb _, IsV.stb _, IsV.stb _, IsV.stb _, IsV.stb _, IsV.stb _, IsV.stb _, IsV.stb _, IsV.stb _, IsV.stb _, IsV.stb _, IsV.stb _, IsV.stb _, IsV.stb _, IsV.stb _, IsV.stb _, IsV.stb _, IsV.stb _, IsV.stb _, QAt.stb _ _, Fresh35.stb _, trivial⟩ ?hs1_13_W7 ?hlast_13_W7
                case hs1_13_W7 =>
                  refine ⟨?_, ?_, ?_, ?_, ?_, ?_, ?_, ?_, ?_, ?_, ?_, ?_, ?_, ?_, ?_, ?_, ?_, ?_, ?_, ?_, ?_, ?_, ?_, ?_, ?_, ?_, ?_, ?_, ?_, ?_, trivial⟩
                  · intro K us W hK0 hB hd
                    have hK := hid hK0; clear hK0
                    have HBW := hid hB
                    have hsW := hB.size
                    have GB := hid (HBwr.out.trans (hB.mono HBwr.out.size))
                    clear hd
                    go_light
                    simp only [putF]
                    rw [hA]
                    go_frame
                    go_wp2_with fail
                    exact hK.out _ _ _ (by rw [hA]; simp only [putF]; kernel_rfl) (Below.refl _ _) rfl
                  · intro K us W hK0 hB hd
                    have hK := hid hK0; clear hK0
                    have HBW := hid hB
                    have hsW := hB.size
                    have GB := hid (HBwr.out.trans (hB.mono HBwr.out.size))
                    clear hd
                    go_light
                    simp only [putF]
                    rw [hA]
                    go_frame
                    go_wp2_with fail
                    exact hK.out _ _ _ (by rw [hA]; simp only [putF]; kernel_rfl) (Below.refl _ _) rfl
                  · intro K us W hK0 hB hd
                    have hK := hid hK0; clear hK0
                    have HBW := hid hB
                    have hsW := hB.size
                    have GB := hid (HBwr.out.trans (hB.mono HBwr.out.size))
                    have e1 : us 1 = .pointer (some ⟨g3, 1, none⟩) := hd ⟨1, Ground.data⟩ (by simp) rfl
                    have e0 : us 0 = .int .i64 (m : Int) := hd ⟨0, Ground.data⟩ (by simp) rfl
                    clear hd
                    go_light
                    simp only [putF]
                    rw [hA, e1, e0]
                    go_frame
                    go_wp2_with fail
                    exact hK.out _ _ _ (by rw [hA]; simp only [putF]; rw [e1, e0]; kernel_rfl) (Below.refl _ _) rfl
                  · intro K us W hK0 hB hd
                    have hK := hid hK0; clear hK0
                    have HBW := hid hB
                    have hsW := hB.size
                    have GB := hid (HBwr.out.trans (hB.mono HBwr.out.size))
                    have e2 : us 2 = .pointer (some ⟨g3, 1 + m, none⟩) := hd ⟨2, Ground.data⟩ (by simp) rfl
                    clear hd
                    go_light
                    have c0 : W.cell? ⟨g3, 1 + m, none⟩ = some (.int .i64 (a (m + 1))) := (cell_row (heap_still hB LA.out)).trans FA.out
                    simp only [putF]
                    rw [hA, e2]
                    go_frame
                    go_wp2_with fail
                    exact hK.out _ _ _ (by rw [hA]; simp only [putF]; rw [e2]; kernel_rfl) (Below.refl _ _) rfl
                  · intro K us W hK0 hB hd
                    have hK := hid hK0; clear hK0
                    have HBW := hid hB
                    have hsW := hB.size
                    have GB := hid (HBwr.out.trans (hB.mono HBwr.out.size))
                    clear hd
                    go_light
                    simp only [putF]
                    rw [hA]
                    go_frame
                    go_wp2_with fail
                    exact hK.out _ _ _ (by rw [hA]; simp only [putF]; kernel_rfl) (Below.refl _ _) rfl
                  · intro K us W hK0 hB hd
                    have hK := hid hK0; clear hK0
                    have HBW := hid hB
                    have hsW := hB.size
                    have GB := hid (HBwr.out.trans (hB.mono HBwr.out.size))
                    have e4 : us 4 = .pointer (some ⟨g6, 0, none⟩) := hd ⟨4, Ground.data⟩ (by simp) rfl
                    clear hd
                    go_light
                    have G0 := hid (heap_still hB LO.out)
                    have c0 : W.cell? ⟨g6, 0, none⟩ = some (.int .i64 f0) := (cell_row (j := 0) G0.out).trans rfl
                    simp only [putF]
                    rw [hA, e4]
                    go_frame
                    go_wp2_with fail
                    exact hK.out _ _ _ (by rw [hA]; simp only [putF]; rw [e4]; kernel_rfl) (Below.refl _ _) rfl
                  · intro K us W hK0 hB hd
                    have hK := hid hK0; clear hK0
                    have HBW := hid hB
                    have hsW := hB.size
                    have GB := hid (HBwr.out.trans (hB.mono HBwr.out.size))
                    clear hd
                    go_light
                    simp only [putF]
                    rw [hA]
                    go_frame
                    go_wp2_with fail
                    exact hK.out _ _ _ (by rw [hA]; simp only [putF]; kernel_rfl) (Below.refl _ _) rfl
                  · intro K us W hK0 hB hd
                    have hK := hid hK0; clear hK0
                    have HBW := hid hB
                    have hsW := hB.size
                    have GB := hid (HBwr.out.trans (hB.mono HBwr.out.size))
                    have e6 : us 6 = .pointer (some ⟨g3, 4, none⟩) := hd ⟨6, Ground.data⟩ (by simp) rfl
                    clear hd
                    go_light
                    have G0 := hid (heap_still hB LA.out)
                    have c0 : W.cell? ⟨g3, 4, none⟩ = some (.int .i64 (a 4)) := (cell_row (j := 4) G0.out).trans rfl
                    simp only [putF]
                    rw [hA, e6]
                    go_frame
                    go_wp2_with fail
                    exact hK.out _ _ _ (by rw [hA]; simp only [putF]; rw [e6]; kernel_rfl) (Below.refl _ _) rfl
                  · intro K us W hK0 hB hd
                    have hK := hid hK0; clear hK0
                    have HBW := hid hB
                    have hsW := hB.size
                    have GB := hid (HBwr.out.trans (hB.mono HBwr.out.size))
                    have e7 : us 7 = .int .i64 (a 4) := hd ⟨7, Ground.data⟩ (by simp) rfl
                    clear hd
                    go_light
                    simp only [putF]
                    rw [hA, e7]
                    go_frame
                    go_wp2_with fail
                    exact hK.out _ _ _ (by rw [hA]; simp only [putF]; rw [e7]; kernel_rfl) (Below.refl _ _) rfl
                  · intro K us W hK0 hB hd
                    have hK := hid hK0; clear hK0
                    have HBW := hid hB
                    have hsW := hB.size
                    have GB := hid (HBwr.out.trans (hB.mono HBwr.out.size))
                    have e5 : us 5 = .int .i64 f0 := hd ⟨5, Ground.data⟩ (by simp) rfl
                    have e8 : us 8 = .int .i64 (a 4 + 1) := hd ⟨8, Ground.data⟩ (by simp) rfl
                    clear hd
                    go_light
                    simp only [putF]
                    rw [hA, e5, e8]
                    go_frame
                    go_wp2_with fail
                    exact hK.out _ _ _ (by rw [hA]; simp only [putF]; rw [e5, e8]; kernel_rfl) (Below.refl _ _) rfl
                  · intro K us W hK0 hB hd
                    have hK := hid hK0; clear hK0
                    have HBW := hid hB
                    have hsW := hB.size
                    have GB := hid (HBwr.out.trans (hB.mono HBwr.out.size))
                    have e3 : us 3 = .int .i64 (a (m + 1)) := hd ⟨3, Ground.data⟩ (by simp) rfl
                    have e9 : us 9 = .int .i64 oa := hd ⟨9, Ground.data⟩ (by simp) rfl
                    clear hd
                    go_light
                    simp only [putF]
                    rw [hA, e3, e9]
                    go_frame
                    go_wp2_with fail
                    exact hK.out _ _ _ (by rw [hA]; simp only [putF]; rw [e3, e9]; kernel_rfl) (Below.refl _ _) rfl
                  · intro K us W hK0 hB hd
                    have hK := hid hK0; clear hK0
                    have HBW := hid hB
                    have hsW := hB.size
                    have GB := hid (HBwr.out.trans (hB.mono HBwr.out.size))
                    clear hd
                    go_light
                    simp only [putF]
                    rw [hA]
                    go_frame
                    go_wp2_with fail
                    exact hK.out _ _ _ (by rw [hA]; simp only [putF]; kernel_rfl) (Below.refl _ _) rfl
                  · intro K us W hK0 hB hd
                    have hK := hid hK0; clear hK0
                    have HBW := hid hB
                    have hsW := hB.size
                    have GB := hid (HBwr.out.trans (hB.mono HBwr.out.size))
                    clear hd
                    go_light
                    simp only [putF]
                    rw [hA]
                    go_frame
                    go_wp2_with fail
                    exact hK.out _ _ _ (by rw [hA]; simp only [putF]; kernel_rfl) (Below.refl _ _) rfl
                  · intro K us W hK0 hB hd
                    have hK := hid hK0; clear hK0
                    have HBW := hid hB
                    have hsW := hB.size
                    have GB := hid (HBwr.out.trans (hB.mono HBwr.out.size))
                    have e12 : us 12 = .pointer (some ⟨g4, 1, none⟩) := hd ⟨12, Ground.data⟩ (by simp) rfl
                    have e11 : us 11 = .int .i64 (m : Int) := hd ⟨11, Ground.data⟩ (by simp) rfl
                    clear hd
                    go_light
                    simp only [putF]
                    rw [hA, e12, e11]
                    go_frame
                    go_wp2_with fail
                    exact hK.out _ _ _ (by rw [hA]; simp only [putF]; rw [e12, e11]; kernel_rfl) (Below.refl _ _) rfl
                  · intro K us W hK0 hB hd
                    have hK := hid hK0; clear hK0
                    have HBW := hid hB
                    have hsW := hB.size
                    have GB := hid (HBwr.out.trans (hB.mono HBwr.out.size))
                    have e13 : us 13 = .pointer (some ⟨g4, 1 + m, none⟩) := hd ⟨13, Ground.data⟩ (by simp) rfl
                    clear hd
                    go_light
                    have c0 : W.cell? ⟨g4, 1 + m, none⟩ = some (.int .i64 (b (m + 1))) := (cell_row (heap_still hB LB.out)).trans FB.out
                    simp only [putF]
                    rw [hA, e13]
                    go_frame
                    go_wp2_with fail
                    exact hK.out _ _ _ (by rw [hA]; simp only [putF]; rw [e13]; kernel_rfl) (Below.refl _ _) rfl
                  · intro K us W hK0 hB hd
                    have hK := hid hK0; clear hK0
                    have HBW := hid hB
                    have hsW := hB.size
                    have GB := hid (HBwr.out.trans (hB.mono HBwr.out.size))
                    clear hd
                    go_light
                    simp only [putF]
                    rw [hA]
                    go_frame
                    go_wp2_with fail
                    exact hK.out _ _ _ (by rw [hA]; simp only [putF]; kernel_rfl) (Below.refl _ _) rfl
                  · intro K us W hK0 hB hd
                    have hK := hid hK0; clear hK0
                    have HBW := hid hB
                    have hsW := hB.size
                    have GB := hid (HBwr.out.trans (hB.mono HBwr.out.size))
                    have e15 : us 15 = .pointer (some ⟨g6, 1, none⟩) := hd ⟨15, Ground.data⟩ (by simp) rfl
                    clear hd
                    go_light
                    have G0 := hid (heap_still hB LO.out)
                    have c0 : W.cell? ⟨g6, 1, none⟩ = some (.int .i64 f1) := (cell_row (j := 1) G0.out).trans rfl
                    simp only [putF]
                    rw [hA, e15]
                    go_frame
                    go_wp2_with fail
                    exact hK.out _ _ _ (by rw [hA]; simp only [putF]; rw [e15]; kernel_rfl) (Below.refl _ _) rfl
                  · intro K us W hK0 hB hd
                    have hK := hid hK0; clear hK0
                    have HBW := hid hB
                    have hsW := hB.size
                    have GB := hid (HBwr.out.trans (hB.mono HBwr.out.size))
                    clear hd
                    go_light
                    simp only [putF]
                    rw [hA]
                    go_frame
                    go_wp2_with fail
                    exact hK.out _ _ _ (by rw [hA]; simp only [putF]; kernel_rfl) (Below.refl _ _) rfl
                  · intro K us W hK0 hB hd
                    have hK := hid hK0; clear hK0
                    have HBW := hid hB
                    have hsW := hB.size
                    have GB := hid (HBwr.out.trans (hB.mono HBwr.out.size))
                    have e17 : us 17 = .pointer (some ⟨g4, 4, none⟩) := hd ⟨17, Ground.data⟩ (by simp) rfl
                    clear hd
                    go_light
                    have G0 := hid (heap_still hB LB.out)
                    have c0 : W.cell? ⟨g4, 4, none⟩ = some (.int .i64 (b 4)) := (cell_row (j := 4) G0.out).trans rfl
                    simp only [putF]
                    rw [hA, e17]
                    go_frame
                    go_wp2_with fail
                    exact hK.out _ _ _ (by rw [hA]; simp only [putF]; rw [e17]; kernel_rfl) (Below.refl _ _) rfl
                  · intro K us W hK0 hB hd
                    have hK := hid hK0; clear hK0
                    have HBW := hid hB
                    have hsW := hB.size
                    have GB := hid (HBwr.out.trans (hB.mono HBwr.out.size))
                    have e18 : us 18 = .int .i64 (b 4) := hd ⟨18, Ground.data⟩ (by simp) rfl
                    clear hd
                    go_light
                    simp only [putF]
                    rw [hA, e18]
                    go_frame
                    go_wp2_with fail
                    exact hK.out _ _ _ (by rw [hA]; simp only [putF]; rw [e18]; kernel_rfl) (Below.refl _ _) rfl
                  · intro K us W hK0 hB hd
                    have hK := hid hK0; clear hK0
                    have HBW := hid hB
                    have hsW := hB.size
                    have GB := hid (HBwr.out.trans (hB.mono HBwr.out.size))
                    have e16 : us 16 = .int .i64 f1 := hd ⟨16, Ground.data⟩ (by simp) rfl
                    have e19 : us 19 = .int .i64 (b 4 + 1) := hd ⟨19, Ground.data⟩ (by simp) rfl
                    clear hd
                    go_light
                    simp only [putF]
                    rw [hA, e16, e19]
                    go_frame
                    go_wp2_with fail
                    exact hK.out _ _ _ (by rw [hA]; simp only [putF]; rw [e16, e19]; kernel_rfl) (Below.refl _ _) rfl
                  · intro K us W hK0 hB hd
                    have hK := hid hK0; clear hK0
                    have HBW := hid hB
                    have hsW := hB.size
                    have GB := hid (HBwr.out.trans (hB.mono HBwr.out.size))
                    have e14 : us 14 = .int .i64 (b (m + 1)) := hd ⟨14, Ground.data⟩ (by simp) rfl
                    have e20 : us 20 = .int .i64 ob := hd ⟨20, Ground.data⟩ (by simp) rfl
                    clear hd
                    go_light
                    simp only [putF]
                    rw [hA, e14, e20]
                    go_frame
                    go_wp2_with fail
                    exact hK.out _ _ _ (by rw [hA]; simp only [putF]; rw [e14, e20]; kernel_rfl) (Below.refl _ _) rfl
                  · intro K us W hK0 hB hd
                    have hK := hid hK0; clear hK0
                    have HBW := hid hB
                    have hsW := hB.size
                    have GB := hid (HBwr.out.trans (hB.mono HBwr.out.size))
                    clear hd
                    go_light
                    simp only [putF]
                    rw [hA]
                    go_frame
                    go_wp2_with fail
                    exact hK.out _ _ _ (by rw [hA]; simp only [putF]; kernel_rfl) (Below.refl _ _) rfl
                  · intro K us W hK0 hB hd
                    have hK := hid hK0; clear hK0
                    have HBW := hid hB
                    have hsW := hB.size
                    have GB := hid (HBwr.out.trans (hB.mono HBwr.out.size))
                    clear hd
                    go_light
                    simp only [putF]
                    rw [hA]
                    go_frame
                    go_wp2_with fail
                    exact hK.out _ _ _ (by rw [hA]; simp only [putF]; kernel_rfl) (Below.refl _ _) rfl
                  · intro K us W hK0 hB hd
                    have hK := hid hK0; clear hK0
                    have HBW := hid hB
                    have hsW := hB.size
                    have GB := hid (HBwr.out.trans (hB.mono HBwr.out.size))
                    clear hd
                    go_light
                    simp only [putF]
                    rw [hA]
                    go_frame
                    go_wp2_with fail
                    exact hK.out _ _ _ (by rw [hA]; simp only [putF]; kernel_rfl) (Below.refl _ _) rfl
                  · intro K us W hK0 hB hd
                    have hK := hid hK0; clear hK0
                    have HBW := hid hB
                    have hsW := hB.size
                    have GB := hid (HBwr.out.trans (hB.mono HBwr.out.size))
                    clear hd
                    go_light
                    simp only [putF]
                    rw [hA]
                    go_frame
                    go_wp2_with fail
                    exact hK.out _ _ _ (by rw [hA]; simp only [putF]; kernel_rfl) (Below.refl _ _) rfl
                  · intro K us W hK0 hB hd
                    have hK := hid hK0; clear hK0
                    have HBW := hid hB
                    have hsW := hB.size
                    have GB := hid (HBwr.out.trans (hB.mono HBwr.out.size))
                    have e25 : us 25 = .pointer (some ⟨g3, 0, none⟩) := hd ⟨25, Ground.data⟩ (by simp) rfl
                    clear hd
                    go_light
                    have G0 := hid (heap_still hB LA.out)
                    have c0 : W.cell? ⟨g3, 0, none⟩ = some (.int .i64 (a 0)) := (cell_row (j := 0) G0.out).trans rfl
                    simp only [putF]
                    rw [hA, e25]
                    go_frame
                    go_wp2_with fail
                    exact hK.out _ _ _ (by rw [hA]; simp only [putF]; rw [e25]; kernel_rfl) (Below.refl _ _) rfl
                  · intro K us W hK0 hB hd
                    have hK := hid hK0; clear hK0
                    have HBW := hid hB
                    have hsW := hB.size
                    have GB := hid (HBwr.out.trans (hB.mono HBwr.out.size))
                    have e24 : us 24 = .int .i64 (a 0 + uu) := hd ⟨24, Ground.data⟩ (by simp) rfl
                    have e26 : us 26 = .int .i64 (a 0) := hd ⟨26, Ground.data⟩ (by simp) rfl
                    clear hd
                    go_light
                    simp only [putF]
                    rw [hA, e24, e26]
                    go_frame
                    go_wp2_with fail
                    exact hK.out _ _ _ (by rw [hA]; simp only [putF]; rw [e24, e26]; kernel_rfl) (Below.refl _ _) rfl
                  · intro K us W hK0 hB hd
                    have hK := hid hK0; clear hK0
                    have HBW := hid hB
                    have hsW := hB.size
                    have GB := hid (HBwr.out.trans (hB.mono HBwr.out.size))
                    have e10 : us 10 = .int .i64 (a (m + 1) + oa) := hd ⟨10, Ground.data⟩ (by simp) rfl
                    have e21 : us 21 = .int .i64 (b (m + 1) + ob) := hd ⟨21, Ground.data⟩ (by simp) rfl
                    have e22 : us 22 = .int .i64 kk := hd ⟨22, Ground.data⟩ (by simp) rfl
                    have e23 : us 23 = .int .i64 (b 0 - a 0) := hd ⟨23, Ground.data⟩ (by simp) rfl
                    have e27 : us 27 = .int .i64 (a 0 + uu - a 0) := hd ⟨27, Ground.data⟩ (by simp) rfl
                    clear hd
                    go_light
                    simp only [putF]
                    rw [hA, e10, e21, e22, e23, e27]
                    go_frame
                    go_wp2_with fail
                    refine (HQ.out W).mono ?_
                    rintro r W' ⟨⟨v, rfl, hv⟩, hb⟩
                    go_wp2_with fail
                    exact hK.out _ _ _ (by rw [hA]; simp only [putF]; rw [e10, e21, e22, e23, e27]; kernel_rfl) hb hv
                  · intro K us W hK0 hB hd
                    have hK := hid hK0; clear hK0
                    have HBW := hid hB
                    have hsW := hB.size
                    have GB := hid (HBwr.out.trans (hB.mono HBwr.out.size))
                    clear hd
                    go_light
                    simp only [putF]
                    rw [hA]
                    go_frame
                    go_wp2_with fail
                    exact hK.out _ _ _ (by rw [hA]; simp only [putF]; kernel_rfl) ((Below.refl _ _).alloc (Nat.le_refl _) _) (⟨_, rfl, hsW, heap_alloc_at _ _ _ rfl⟩)
                intro K us W7 hK0 hB hp
                have hK := hid hK0
                clear hK0
                have hd29 : (Fresh35 wr.heap.size) W7 (us 29) := hp 29 (by decide)
                obtain ⟨g29, e29, hg29, hh29⟩ := hd29
                have hd28 : (fun W v => QAt W v QM 265) W7 (us 28) := hp 28 (by decide)
                obtain ⟨cs28, e28, hcs28, hco28⟩ := hd28.cells
                rw [e28] at hd28
                have HH28 := hid hd28
                clear hd28
                have HBW7 := hid (HBwr.out.trans (hB.mono HBwr.out.size))
                have HSW7 := hid (fun n x => @heap_still _ _ n x hB)
                have hzW7 := hB.size
                have hbW7 := hid hB
                clear hp
                simp only [putF]
                rw [hA, e29, e28]
                skip
                go_frame
                go_wp2_with (refine wpList_store_at rfl 35 (.tmp 13) (.tmp 122) rfl rfl rfl hh29 size35 hcs28 rfl hco28 ?_)
                refine hK.out undef _ _ (by rw [hA]; simp only [putF]; rw [e29, e28]; kernel_rfl) ?_
                clear hK hB hA e29 e28
                obtain ⟨sq, aq, pq, cq, bq, rq, dq, hsh⟩ := qshape HH28.out
                subst hsh
                have hg29 : g29 < W7.heap.size := (Array.getElem?_eq_some_iff.1 hh29).1
                have hn29 : ∀ n o, wr.heap[n]? = some o → n ≠ g29 := fun n o ho => by have := (Array.getElem?_eq_some_iff.1 ho).1; omega
                have MA := hid (setRow_past (cells := #[.bool sq, .slice aq pq cq, .slice bq rq dq]) (HSW7.out _ _ LA.out) (hn29 _ _ LA.out))
                have MB := hid (setRow_past (cells := #[.bool sq, .slice aq pq cq, .slice bq rq dq]) (HSW7.out _ _ LB.out) (hn29 _ _ LB.out))
                have MO := hid (setRow_past (cells := #[.bool sq, .slice aq pq cq, .slice bq rq dq]) (HSW7.out _ _ LO.out) (hn29 _ _ LO.out))
                have MP := hid (setRow_past (cells := #[.bool sq, .slice aq pq cq, .slice bq rq dq]) (HSW7.out _ _ LP.out) (hn29 _ _ LP.out))
                have MQ := hid (setRow_heap _ _ _ #[.bool sq, .slice aq pq cq, .slice bq rq dq] _ _ hh29)
                have MQA := hid (HH28.out.row (cs := #[.bool sq, .slice aq pq cq, .slice bq rq dq]) hh29 (by decide))
                have HBW8 := hid (below_setRow HBW7.out (by omega : w.heap.size ≤ g29) #[.bool sq, .slice aq pq cq, .slice bq rq dq])
                clear hh29 LA LB LO LP HH28
                go_wp2_with fail
                generalize W7.setRow g29 #[.bool sq, .slice aq pq cq, .slice bq rq dq] = W8 at *
                clear hoa hob htk hdr hmb hoa2 hob2 hkk h4 h5 hab pa pb hg3 hg4 hg5 hg6 hne3_4 hne3_5 hne3_6 hne4_5 hne4_6 hne5_6 HIN HLH HQ H1 H2 H3
                refine gen_act (fun A0 hA => ?_)
                refine wp_region_pl (by kernel_rfl) (by kernel_rfl) [some 123, some 124, some 125, some 126, some 127, some 128, some 129, some 130, some 131, some 132, some 133, some 134, some 135, some 136, some 137, some 138, some 139, some 140, some 141, some 142] rfl (by decide)
                  [IsV (.agg #[.bool sq, .slice aq pq cq, .slice bq rq dq]), IsV (.int .i64 (m : Int)), IsV (.pointer (some ⟨w6.heap.size, 0, none⟩)), IsV (.pointer (some ⟨w6.heap.size, m * 2, none⟩)), IsV (.pointer (some ⟨w6.heap.size, m * 2, none⟩)), IsV (.int .i64 (l m)), fun W v => QAt W v ((l m : Int) : Rat) 4, IsV (.int .i64 (cmpQ QM ((l m : Int) : Rat))), IsV (.bool false), IsV (.bool false), IsV (.agg #[.bool sq, .slice aq pq cq, .slice bq rq dq]), IsV (.int .i64 (m : Int)), IsV (.pointer (some ⟨w6.heap.size, 0, none⟩)), IsV (.pointer (some ⟨w6.heap.size, m * 2, none⟩)), IsV (.pointer (some ⟨w6.heap.size, m * 2 + 1, none⟩)), IsV (.int .i64 (h m)), fun W v => QAt W v ((h m : Int) : Rat) 4, IsV (.int .i64 (cmpQ QM ((h m : Int) : Rat))), IsV (.bool false), IsV (.bool false)]
                  ⟨IsV.stb _, IsV.stb _, IsV.stb _, IsV.stb _, IsV.stb _, IsV.stb _, QAt.stb _ _, IsV.stb _, IsV.stb _, IsV.stb _, IsV.stb _, IsV.stb _, IsV.stb _, IsV.stb _, IsV.stb _, IsV.stb _, QAt.stb _ _, IsV.stb _, IsV.stb _, IsV.stb _, trivial⟩ ?hs1_14_W9 ?hend_14_W9
                case hs1_14_W9 =>
                  refine ⟨?_, ?_, ?_, ?_, ?_, ?_, ?_, ?_, ?_, ?_, ?_, ?_, ?_, ?_, ?_, ?_, ?_, ?_, ?_, ?_, trivial⟩
                  · intro K us W hK0 hB hd
                    have hK := hid hK0; clear hK0
                    have HBW := hid hB
                    have hsW := hB.size
                    have GB := hid (HBW8.out.trans (hB.mono HBW8.out.size))
                    clear hd
                    go_light
                    have G0 := hid (heap_still hB MQ.out)
                    have c0 : W.cell? ⟨g29, 0, none⟩ = some (.bool sq) := (cell_row (j := 0) G0.out).trans rfl
                    have c1 : W.cell? ⟨g29, 1, none⟩ = some (.slice aq pq cq) := (cell_row (j := 1) G0.out).trans rfl
                    have c2 : W.cell? ⟨g29, 2, none⟩ = some (.slice bq rq dq) := (cell_row (j := 2) G0.out).trans rfl
                    simp only [putF]
                    rw [hA]
                    go_frame
                    go_wp2_with fail
                    exact hK.out _ _ _ (by rw [hA]; simp only [putF]; kernel_rfl) (Below.refl _ _) rfl
                  · intro K us W hK0 hB hd
                    have hK := hid hK0; clear hK0
                    have HBW := hid hB
                    have hsW := hB.size
                    have GB := hid (HBW8.out.trans (hB.mono HBW8.out.size))
                    clear hd
                    go_light
                    simp only [putF]
                    rw [hA]
                    go_frame
                    go_wp2_with fail
                    exact hK.out _ _ _ (by rw [hA]; simp only [putF]; kernel_rfl) (Below.refl _ _) rfl
                  · intro K us W hK0 hB hd
                    have hK := hid hK0; clear hK0
                    have HBW := hid hB
                    have hsW := hB.size
                    have GB := hid (HBW8.out.trans (hB.mono HBW8.out.size))
                    clear hd
                    go_light
                    simp only [putF]
                    rw [hA]
                    go_frame
                    go_wp2_with fail
                    exact hK.out _ _ _ (by rw [hA]; simp only [putF]; kernel_rfl) (Below.refl _ _) rfl
                  · intro K us W hK0 hB hd
                    have hK := hid hK0; clear hK0
                    have HBW := hid hB
                    have hsW := hB.size
                    have GB := hid (HBW8.out.trans (hB.mono HBW8.out.size))
                    have e2 : us 2 = .pointer (some ⟨w6.heap.size, 0, none⟩) := hd ⟨2, Ground.data⟩ (by simp) rfl
                    have e1 : us 1 = .int .i64 (m : Int) := hd ⟨1, Ground.data⟩ (by simp) rfl
                    clear hd
                    go_light
                    simp only [putF]
                    rw [hA, e2, e1]
                    go_frame
                    go_wp2_with fail
                    exact hK.out _ _ _ (by rw [hA]; simp only [putF]; rw [e2, e1]; kernel_rfl) (Below.refl _ _) rfl
                  · intro K us W hK0 hB hd
                    have hK := hid hK0; clear hK0
                    have HBW := hid hB
                    have hsW := hB.size
                    have GB := hid (HBW8.out.trans (hB.mono HBW8.out.size))
                    have e3 : us 3 = .pointer (some ⟨w6.heap.size, m * 2, none⟩) := hd ⟨3, Ground.data⟩ (by simp) rfl
                    clear hd
                    go_light
                    simp only [putF]
                    rw [hA, e3]
                    go_frame
                    go_wp2_with fail
                    exact hK.out _ _ _ (by rw [hA]; simp only [putF]; rw [e3]; kernel_rfl) (Below.refl _ _) rfl
                  · intro K us W hK0 hB hd
                    have hK := hid hK0; clear hK0
                    have HBW := hid hB
                    have hsW := hB.size
                    have GB := hid (HBW8.out.trans (hB.mono HBW8.out.size))
                    have e4 : us 4 = .pointer (some ⟨w6.heap.size, m * 2, none⟩) := hd ⟨4, Ground.data⟩ (by simp) rfl
                    clear hd
                    go_light
                    have c0 : W.cell? ⟨w6.heap.size, m * 2, none⟩ = some (.int .i64 (l m)) := (cell_row (heap_still hB MP.out)).trans FL.out
                    simp only [putF]
                    rw [hA, e4]
                    go_frame
                    go_wp2_with fail
                    exact hK.out _ _ _ (by rw [hA]; simp only [putF]; rw [e4]; kernel_rfl) (Below.refl _ _) rfl
                  · intro K us W hK0 hB hd
                    have hK := hid hK0; clear hK0
                    have HBW := hid hB
                    have hsW := hB.size
                    have GB := hid (HBW8.out.trans (hB.mono HBW8.out.size))
                    have e5 : us 5 = .int .i64 (l m) := hd ⟨5, Ground.data⟩ (by simp) rfl
                    clear hd
                    go_light
                    simp only [putF]
                    rw [hA, e5]
                    go_frame
                    go_wp2_with fail
                    refine (HWL.out W).mono ?_
                    rintro r W' ⟨⟨v, rfl, hv⟩, hb⟩
                    go_wp2_with fail
                    exact hK.out _ _ _ (by rw [hA]; simp only [putF]; rw [e5]; kernel_rfl) hb hv
                  · intro K us W hK0 hB hd
                    have hK := hid hK0; clear hK0
                    have HBW := hid hB
                    have hsW := hB.size
                    have GB := hid (HBW8.out.trans (hB.mono HBW8.out.size))
                    have e0 : us 0 = .agg #[.bool sq, .slice aq pq cq, .slice bq rq dq] := hd ⟨0, Ground.data⟩ (by simp) rfl
                    have hd6 : (fun W v => QAt W v ((l m : Int) : Rat) 4) W (us 6) := hd ⟨6, Ground.data⟩ (by simp) rfl
                    obtain ⟨cs6, e6, hcs6, hco6⟩ := hd6.cells
                    rw [e6] at hd6
                    have HH6 := hid hd6
                    clear hd6
                    clear hd
                    go_light
                    simp only [putF]
                    rw [hA, e0, e6]
                    go_frame
                    go_wp2_with fail
                    refine (qcmp_any _ _ 265 _ _ W (MQA.out.grow hB) (HH6.out.wide (by decide)) (by decide)).mono ?_
                    rintro r W' ⟨rfl, hb⟩
                    go_wp2_with fail
                    exact hK.out _ _ _ (by rw [hA]; simp only [putF]; rw [e0, e6]; kernel_rfl) hb rfl
                  · intro K us W hK0 hB hd
                    have hK := hid hK0; clear hK0
                    have HBW := hid hB
                    have hsW := hB.size
                    have GB := hid (HBW8.out.trans (hB.mono HBW8.out.size))
                    have e7 : us 7 = .int .i64 (cmpQ QM ((l m : Int) : Rat)) := hd ⟨7, Ground.data⟩ (by simp) rfl
                    clear hd
                    go_light
                    have hc1 := HC1.out
                    simp only [putF]
                    rw [hA, e7]
                    go_frame
                    go_wp2_with fail
                    exact hK.out _ _ _ (by rw [hA]; simp only [putF]; rw [e7]; kernel_rfl) (Below.refl _ _) rfl
                  · intro K us W hK0 hB hd
                    have hK := hid hK0; clear hK0
                    have HBW := hid hB
                    have hsW := hB.size
                    have GB := hid (HBW8.out.trans (hB.mono HBW8.out.size))
                    have e8 : us 8 = .bool false := hd ⟨8, Ground.data⟩ (by simp) rfl
                    clear hd
                    go_light
                    simp only [putF]
                    rw [hA, e8]
                    go_frame
                    go_wp2_with fail
                    exact hK.out _ _ _ (by rw [hA]; simp only [putF]; rw [e8]; kernel_rfl) (Below.refl _ _) rfl
                  · intro K us W hK0 hB hd
                    have hK := hid hK0; clear hK0
                    have HBW := hid hB
                    have hsW := hB.size
                    have GB := hid (HBW8.out.trans (hB.mono HBW8.out.size))
                    have e9 : us 9 = .bool false := hd ⟨9, Ground.guard⟩ (by simp) rfl
                    simp only [putF]
                    rw [hA, e9]
                    go_frame
                    refine wpList_strip (by kernel_rfl) ?_
                    clear hd
                    go_light
                    have G0 := hid (heap_still hB MQ.out)
                    have c0 : W.cell? ⟨g29, 0, none⟩ = some (.bool sq) := (cell_row (j := 0) G0.out).trans rfl
                    have c1 : W.cell? ⟨g29, 1, none⟩ = some (.slice aq pq cq) := (cell_row (j := 1) G0.out).trans rfl
                    have c2 : W.cell? ⟨g29, 2, none⟩ = some (.slice bq rq dq) := (cell_row (j := 2) G0.out).trans rfl
                    go_wp2_with fail
                    exact hK.out _ _ _ (by rw [hA]; simp only [putF]; rw [e9]; kernel_rfl) (Below.refl _ _) rfl
                  · intro K us W hK0 hB hd
                    have hK := hid hK0; clear hK0
                    have HBW := hid hB
                    have hsW := hB.size
                    have GB := hid (HBW8.out.trans (hB.mono HBW8.out.size))
                    have e9 : us 9 = .bool false := hd ⟨9, Ground.guard⟩ (by simp) rfl
                    simp only [putF]
                    rw [hA, e9]
                    go_frame
                    refine wpList_strip (by kernel_rfl) ?_
                    clear hd
                    go_light
                    go_wp2_with fail
                    exact hK.out _ _ _ (by rw [hA]; simp only [putF]; rw [e9]; kernel_rfl) (Below.refl _ _) rfl
                  · intro K us W hK0 hB hd
                    have hK := hid hK0; clear hK0
                    have HBW := hid hB
                    have hsW := hB.size
                    have GB := hid (HBW8.out.trans (hB.mono HBW8.out.size))
                    have e9 : us 9 = .bool false := hd ⟨9, Ground.guard⟩ (by simp) rfl
                    simp only [putF]
                    rw [hA, e9]
                    go_frame
                    refine wpList_strip (by kernel_rfl) ?_
                    clear hd
                    go_light
                    go_wp2_with fail
                    exact hK.out _ _ _ (by rw [hA]; simp only [putF]; rw [e9]; kernel_rfl) (Below.refl _ _) rfl
                  · intro K us W hK0 hB hd
                    have hK := hid hK0; clear hK0
                    have HBW := hid hB
                    have hsW := hB.size
                    have GB := hid (HBW8.out.trans (hB.mono HBW8.out.size))
                    have e9 : us 9 = .bool false := hd ⟨9, Ground.guard⟩ (by simp) rfl
                    simp only [putF]
                    rw [hA, e9]
                    go_frame
                    refine wpList_strip (by kernel_rfl) ?_
                    have e12 : us 12 = .pointer (some ⟨w6.heap.size, 0, none⟩) := hd ⟨12, Ground.data⟩ (by simp) rfl
                    have e11 : us 11 = .int .i64 (m : Int) := hd ⟨11, Ground.data⟩ (by simp) rfl
                    clear hd
                    go_light
                    rw [e12, e11]
                    go_wp2_with fail
                    exact hK.out _ _ _ (by rw [hA]; simp only [putF]; rw [e9, e12, e11]; kernel_rfl) (Below.refl _ _) rfl
                  · intro K us W hK0 hB hd
                    have hK := hid hK0; clear hK0
                    have HBW := hid hB
                    have hsW := hB.size
                    have GB := hid (HBW8.out.trans (hB.mono HBW8.out.size))
                    have e9 : us 9 = .bool false := hd ⟨9, Ground.guard⟩ (by simp) rfl
                    simp only [putF]
                    rw [hA, e9]
                    go_frame
                    refine wpList_strip (by kernel_rfl) ?_
                    have e13 : us 13 = .pointer (some ⟨w6.heap.size, m * 2, none⟩) := hd ⟨13, Ground.data⟩ (by simp) rfl
                    clear hd
                    go_light
                    rw [e13]
                    go_wp2_with fail
                    exact hK.out _ _ _ (by rw [hA]; simp only [putF]; rw [e9, e13]; kernel_rfl) (Below.refl _ _) rfl
                  · intro K us W hK0 hB hd
                    have hK := hid hK0; clear hK0
                    have HBW := hid hB
                    have hsW := hB.size
                    have GB := hid (HBW8.out.trans (hB.mono HBW8.out.size))
                    have e9 : us 9 = .bool false := hd ⟨9, Ground.guard⟩ (by simp) rfl
                    simp only [putF]
                    rw [hA, e9]
                    go_frame
                    refine wpList_strip (by kernel_rfl) ?_
                    have e14 : us 14 = .pointer (some ⟨w6.heap.size, m * 2 + 1, none⟩) := hd ⟨14, Ground.data⟩ (by simp) rfl
                    clear hd
                    go_light
                    have c0 : W.cell? ⟨w6.heap.size, m * 2 + 1, none⟩ = some (.int .i64 (h m)) := (cell_row (heap_still hB MP.out)).trans FH.out
                    rw [e14]
                    go_wp2_with fail
                    exact hK.out _ _ _ (by rw [hA]; simp only [putF]; rw [e9, e14]; kernel_rfl) (Below.refl _ _) rfl
                  · intro K us W hK0 hB hd
                    have hK := hid hK0; clear hK0
                    have HBW := hid hB
                    have hsW := hB.size
                    have GB := hid (HBW8.out.trans (hB.mono HBW8.out.size))
                    have e9 : us 9 = .bool false := hd ⟨9, Ground.chain⟩ (by simp) rfl
                    simp only [putF]
                    rw [hA, e9]
                    go_frame
                    refine wpList_strip (by kernel_rfl) ?_
                    have e15 : us 15 = .int .i64 (h m) := hd ⟨15, Ground.data⟩ (by simp) rfl
                    clear hd
                    go_light
                    rw [e15]
                    go_wp2_with fail
                    refine (HWH.out W).mono ?_
                    rintro r W' ⟨⟨v, rfl, hv⟩, hb⟩
                    go_wp2_with fail
                    exact hK.out _ _ _ (by rw [hA]; simp only [putF]; rw [e9, e15]; kernel_rfl) hb hv
                  · intro K us W hK0 hB hd
                    have hK := hid hK0; clear hK0
                    have HBW := hid hB
                    have hsW := hB.size
                    have GB := hid (HBW8.out.trans (hB.mono HBW8.out.size))
                    have e9 : us 9 = .bool false := hd ⟨9, Ground.guard⟩ (by simp) rfl
                    simp only [putF]
                    rw [hA, e9]
                    go_frame
                    refine wpList_strip (by kernel_rfl) ?_
                    have e10 : us 10 = .agg #[.bool sq, .slice aq pq cq, .slice bq rq dq] := hd ⟨10, Ground.data⟩ (by simp) rfl
                    have hd16 : (fun W v => QAt W v ((h m : Int) : Rat) 4) W (us 16) := hd ⟨16, Ground.data⟩ (by simp) rfl
                    obtain ⟨cs16, e16, hcs16, hco16⟩ := hd16.cells
                    rw [e16] at hd16
                    have HH16 := hid hd16
                    clear hd16
                    clear hd
                    go_light
                    rw [e10, e16]
                    go_wp2_with fail
                    refine (qcmp_any _ _ 265 _ _ W (MQA.out.grow hB) (HH16.out.wide (by decide)) (by decide)).mono ?_
                    rintro r W' ⟨rfl, hb⟩
                    go_wp2_with fail
                    exact hK.out _ _ _ (by rw [hA]; simp only [putF]; rw [e9, e10, e16]; kernel_rfl) hb rfl
                  · intro K us W hK0 hB hd
                    have hK := hid hK0; clear hK0
                    have HBW := hid hB
                    have hsW := hB.size
                    have GB := hid (HBW8.out.trans (hB.mono HBW8.out.size))
                    have e9 : us 9 = .bool false := hd ⟨9, Ground.guard⟩ (by simp) rfl
                    simp only [putF]
                    rw [hA, e9]
                    go_frame
                    refine wpList_strip (by kernel_rfl) ?_
                    have e17 : us 17 = .int .i64 (cmpQ QM ((h m : Int) : Rat)) := hd ⟨17, Ground.data⟩ (by simp) rfl
                    clear hd
                    go_light
                    have hc2 := HC2.out
                    rw [e17]
                    go_wp2_with fail
                    exact hK.out _ _ _ (by rw [hA]; simp only [putF]; rw [e9, e17]; kernel_rfl) (Below.refl _ _) rfl
                  · intro K us W hK0 hB hd
                    have hK := hid hK0; clear hK0
                    have HBW := hid hB
                    have hsW := hB.size
                    have GB := hid (HBW8.out.trans (hB.mono HBW8.out.size))
                    have e9 : us 9 = .bool false := hd ⟨9, Ground.data⟩ (by simp) rfl
                    have e18 : us 18 = .bool false := hd ⟨18, Ground.data⟩ (by simp) rfl
                    clear hd
                    go_light
                    simp only [putF]
                    rw [hA, e9, e18]
                    go_frame
                    go_wp2_with fail
                    exact hK.out _ _ _ (by rw [hA]; simp only [putF]; rw [e9, e18]; kernel_rfl) (Below.refl _ _) rfl
                intro us W9 hB hp
                have e19 : us 19 = .bool false := hp 19 (by decide)
                have HBW9 := hid (HBW8.out.trans (hB.mono HBW8.out.size))
                have HSW9 := hid (fun n x => @heap_still _ _ n x hB)
                have hzW9 := hB.size
                have hbW9 := hid hB
                clear hp
                clear hB
                simp only [putF]
                rw [hA, e19]
                clear hA e19
                go_frame
                go_wp2_with fail
                refine ⟨⟨m + 1, by omega, by go_num, HBW9.out, HSW9.out _ _ MA.out, HSW9.out _ _ MB.out, HSW9.out _ _ MO.out, HSW9.out _ _ MP.out⟩, by simp [intOf]; omega⟩
              · obtain rfl : m = 3 := by omega
                go_wp2_with fail
                refine (awake_any _).mono ?_
                rintro r wz ⟨rfl, hb⟩
                have HBwz := hid (show Below w.heap.size w wz by have hB0 := HBwr.out; refine Below.trans ?_ (hb.mono ?_); (focus ((repeat' (first | (with_reducible exact Below.refl _ _) | (with_reducible assumption) | (with_reducible refine Below.alloc ?_ ?_ _) | (with_reducible refine Below.drew ?_) | (with_reducible refine below_drewN ?_ _) | (with_reducible refine Below.setCell ?_ ?_ _) | (with_reducible refine below_setRow ?_ ?_ _) | go_size)); done)); (focus (first | (simp; done) | (simp; omega) | (have hB1 := hB0.size; simp; omega))))
                have hswz := hb.size
                (try simp at hswz)
                have hzwz : w.heap.size < wz.heap.size := by omega
                obtain ⟨hcwz, hfwz⟩ := bcell hb
                have hkwz := hid (fun n x => @heap_still _ _ n x hb)
                clear hb
                go_wp2_with fail
                go_ret
                exact ⟨rfl, HBwz.out⟩
          · have h5' : m0 < b 0 - a 0 := by omega
            clear h5
            go_wp2_with fail
            refine (awake_any _).mono ?_
            rintro r wz ⟨rfl, hb⟩
            have HBwz := hid (show Below w.heap.size w wz by have hB0 := HBw4.out; refine Below.trans ?_ (hb.mono ?_); (focus ((repeat' (first | (with_reducible exact Below.refl _ _) | (with_reducible assumption) | (with_reducible refine Below.alloc ?_ ?_ _) | (with_reducible refine Below.drew ?_) | (with_reducible refine below_drewN ?_ _) | (with_reducible refine Below.setCell ?_ ?_ _) | (with_reducible refine below_setRow ?_ ?_ _) | go_size)); done)); (focus (first | (simp; done) | (simp; omega) | (have hB1 := hB0.size; simp; omega))))
            have hswz := hb.size
            (try simp at hswz)
            have hzwz : w.heap.size < wz.heap.size := by omega
            obtain ⟨hcwz, hfwz⟩ := bcell hb
            have hkwz := hid (fun n x => @heap_still _ _ n x hb)
            clear hb
            go_wp2_with fail
            go_ret
            exact ⟨rfl, HBwz.out⟩
        · have h4' : b 0 ≤ a 0 := by omega
          clear h4
          go_wp2_with fail
          refine (awake_any _).mono ?_
          rintro r wz ⟨rfl, hb⟩
          have HBwz := hid (show Below w.heap.size w wz by have hB0 := HBw4.out; refine Below.trans ?_ (hb.mono ?_); (focus ((repeat' (first | (with_reducible exact Below.refl _ _) | (with_reducible assumption) | (with_reducible refine Below.alloc ?_ ?_ _) | (with_reducible refine Below.drew ?_) | (with_reducible refine below_drewN ?_ _) | (with_reducible refine Below.setCell ?_ ?_ _) | (with_reducible refine below_setRow ?_ ?_ _) | go_size)); done)); (focus (first | (simp; done) | (simp; omega) | (have hB1 := hB0.size; simp; omega))))
          have hswz := hb.size
          (try simp at hswz)
          have hzwz : w.heap.size < wz.heap.size := by omega
          obtain ⟨hcwz, hfwz⟩ := bcell hb
          have hkwz := hid (fun n x => @heap_still _ _ n x hb)
          clear hb
          go_wp2_with fail
          go_ret
          exact ⟨rfl, HBwz.out⟩
      · rw [Bool.eq_false_iff.2 h3]
        go_wp2_with fail
        refine (awake_any _).mono ?_
        rintro r wz ⟨rfl, hb⟩
        have HBwz := hid (show Below w.heap.size w wz by have hB0 := HBw4.out; refine Below.trans ?_ (hb.mono ?_); (focus ((repeat' (first | (with_reducible exact Below.refl _ _) | (with_reducible assumption) | (with_reducible refine Below.alloc ?_ ?_ _) | (with_reducible refine Below.drew ?_) | (with_reducible refine below_drewN ?_ _) | (with_reducible refine Below.setCell ?_ ?_ _) | (with_reducible refine below_setRow ?_ ?_ _) | go_size)); done)); (focus (first | (simp; done) | (simp; omega) | (have hB1 := hB0.size; simp; omega))))
        have hswz := hb.size
        (try simp at hswz)
        have hzwz : w.heap.size < wz.heap.size := by omega
        obtain ⟨hcwz, hfwz⟩ := bcell hb
        have hkwz := hid (fun n x => @heap_still _ _ n x hb)
        clear hb
        go_wp2_with fail
        go_ret
        exact ⟨rfl, HBwz.out⟩
    · rw [show fixB (b 0) (b 1) (b 2) (b 3) (b 4) (b 5) (b 6) (b 7) (b 8) (b 9) = false from Bool.eq_false_iff.2 h2]
      go_wp2_with fail
      refine (awake_any _).mono ?_
      rintro r wz ⟨rfl, hb⟩
      have HBwz := hid (show Below w.heap.size w wz by have hB0 := HBw3.out; refine Below.trans ?_ (hb.mono ?_); (focus ((repeat' (first | (with_reducible exact Below.refl _ _) | (with_reducible assumption) | (with_reducible refine Below.alloc ?_ ?_ _) | (with_reducible refine Below.drew ?_) | (with_reducible refine below_drewN ?_ _) | (with_reducible refine Below.setCell ?_ ?_ _) | (with_reducible refine below_setRow ?_ ?_ _) | go_size)); done)); (focus (first | (simp; done) | (simp; omega) | (have hB1 := hB0.size; simp; omega))))
      have hswz := hb.size
      (try simp at hswz)
      have hzwz : w.heap.size < wz.heap.size := by omega
      obtain ⟨hcwz, hfwz⟩ := bcell hb
      have hkwz := hid (fun n x => @heap_still _ _ n x hb)
      clear hb
      go_wp2_with fail
      go_ret
      exact ⟨rfl, HBwz.out⟩
  · rw [show fixB (a 0) (a 1) (a 2) (a 3) (a 4) (a 5) (a 6) (a 7) (a 8) (a 9) = false from Bool.eq_false_iff.2 h1]
    go_wp2_with fail
    refine (awake_any _).mono ?_
    rintro r wz ⟨rfl, hb⟩
    have HBwz := hid (show Below w.heap.size w wz by have hB0 := HBw2.out; refine Below.trans ?_ (hb.mono ?_); (focus ((repeat' (first | (with_reducible exact Below.refl _ _) | (with_reducible assumption) | (with_reducible refine Below.alloc ?_ ?_ _) | (with_reducible refine Below.drew ?_) | (with_reducible refine below_drewN ?_ _) | (with_reducible refine Below.setCell ?_ ?_ _) | (with_reducible refine below_setRow ?_ ?_ _) | go_size)); done)); (focus (first | (simp; done) | (simp; omega) | (have hB1 := hB0.size; simp; omega))))
    have hswz := hb.size
    (try simp at hswz)
    have hzwz : w.heap.size < wz.heap.size := by omega
    obtain ⟨hcwz, hfwz⟩ := bcell hb
    have hkwz := hid (fun n x => @heap_still _ _ n x hb)
    clear hb
    go_wp2_with fail
    go_ret
    exact ⟨rfl, HBwz.out⟩
end Go.Proofs.Yteoikaedpgianaa
