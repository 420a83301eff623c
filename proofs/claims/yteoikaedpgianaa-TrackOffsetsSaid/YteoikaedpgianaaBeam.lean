/- Beams of quaternions, and the sanity check of the laws. -/
import Derived.Test.YteoikaedpgianaaProd
import Derived.Test.YteoikaedpgianaaFlat
import Derived.Test.YteoikaedpgianaaReg
namespace Go.Proofs.Yteoikaedpgianaa
open Go.RowKit
theorem flat22 : flatOf Try.prog 10 22 = some [some .i64, some .i64, some .i64, some .i64] := by kernel_rfl
theorem flat26 : flatOf Try.prog 10 26 = some [some .i64, some .i64, some .i64] := by kernel_rfl
theorem size26 : (Try.prog.info? 26).map (·.size) = some 3 := by kernel_rfl
theorem eq22 (a b c d e f g h : Int) (W : World) : (Op.equalIn 10000 22 (.agg #[.int .i64 a, .int .i64 b, .int .i64 c, .int .i64 d]) (.agg #[.int .i64 e, .int .i64 f, .int .i64 g, .int .i64 h])).run Try.prog W = .ok ([a, b, c, d] == [e, f, g, h]) W := by
  rw [equal_array Try.underlying22 flat22 [.int .i64 a, .int .i64 b, .int .i64 c, .int .i64 d] [.int .i64 e, .int .i64 f, .int .i64 g, .int .i64 h] rfl rfl W]
  rw [show sameL [.int .i64 a, .int .i64 b, .int .i64 c, .int .i64 d] [.int .i64 e, .int .i64 f, .int .i64 g, .int .i64 h] = ([a, b, c, d] == [e, f, g, h]) from sameL_ints (a := [a, b, c, d]) (b := [e, f, g, h]) rfl]
theorem eq26 (a b c e f g : Int) (W : World) : (Op.equalIn 10000 26 (.agg #[.int .i64 a, .int .i64 b, .int .i64 c]) (.agg #[.int .i64 e, .int .i64 f, .int .i64 g])).run Try.prog W = .ok ([a, b, c] == [e, f, g]) W := by
  rw [equal_array Try.underlying26 flat26 [.int .i64 a, .int .i64 b, .int .i64 c] [.int .i64 e, .int .i64 f, .int .i64 g] rfl rfl W]
  rw [show sameL [.int .i64 a, .int .i64 b, .int .i64 c] [.int .i64 e, .int .i64 f, .int .i64 g] = ([a, b, c] == [e, f, g]) from sameL_ints (a := [a, b, c]) (b := [e, f, g]) rfl]

/-- what a beam returns -/
def bmV (a b c d : Int) : Value := if turnB 4000000 a b c d = true then .tuple #[.agg #[.int .i64 (Quat.k0 a b c d), .int .i64 (Quat.k1 a b c d), .int .i64 (Quat.k2 a b c d)], .int .i64 (Quat.nn a b c d), .int .i64 0]
  else .tuple #[.agg #[.int .i64 0, .int .i64 0, .int .i64 0], .int .i64 0, .int .i64 46]
theorem bmV_yes {a b c d : Int} (h : turnB 4000000 a b c d = true) : bmV a b c d = .tuple #[.agg #[.int .i64 (Quat.k0 a b c d), .int .i64 (Quat.k1 a b c d), .int .i64 (Quat.k2 a b c d)], .int .i64 (Quat.nn a b c d), .int .i64 0] := by
  unfold bmV; rw [if_pos h]
theorem bmV_no {a b c d : Int} (h : turnB 4000000 a b c d = false) : bmV a b c d = .tuple #[.agg #[.int .i64 0, .int .i64 0, .int .i64 0], .int .i64 0, .int .i64 46] := by
  unfold bmV; rw [if_neg (by simp [h])]
theorem nz_any {a b c d : Int} : [a, b, c, d].any nz = !([a, b, c, d] == [0, 0, 0, 0]) := by
  simp [nz]
theorem turnB_zero {l a b c d : Int} (h : ([a, b, c, d] == [0, 0, 0, 0]) = true) : turnB l a b c d = false := by
  unfold turnB; rw [nz_any, h, Bool.not_true, Bool.and_false]
theorem turnB_ok {l a b c d : Int} (h : ([a, b, c, d] == [0, 0, 0, 0]) = false) : turnB l a b c d = ok4 l a b c d := by
  unfold turnB ok4; rw [nz_any, h, Bool.not_false, Bool.and_true]

set_option maxRecDepth 100000 in
theorem xbeam_any (a b c d : Int) (w : World) :
    Calls Try.prog 22 #[.agg #[.int .i64 a, .int .i64 b, .int .i64 c, .int .i64 d]] w
      fun r w' => r = .returned (bmV a b c d) ∧ Below w.heap.size w w' := by
  have hq := eq22 a b c d 0 0 0 0
  by_cases hz : ([a, b, c, d] == [0, 0, 0, 0]) = true
  · have HT := hid (turnB_zero (l := 4000000) hz)
    rw [hz] at hq
    clear hz
    go_enter Try.func22, Try.ntmps22
    go_wp2
    go_returns
    refine ⟨by rw [bmV_no HT.out], ?_⟩
    (repeat' (first | (with_reducible exact Below.refl _ _) | (with_reducible assumption) | (with_reducible refine Below.alloc ?_ ?_ _) | (with_reducible refine Below.drew ?_) | (with_reducible refine below_drewN ?_ _) | (with_reducible refine Below.setCell ?_ ?_ _) | (with_reducible refine below_setRow ?_ ?_ _) | go_size))
  · have hz' := Bool.eq_false_iff.2 hz
    have HT := hid (turnB_ok (l := 4000000) hz')
    rw [hz'] at hq
    clear hz hz'
    by_cases h1 : ok4 4000000 a b c d = true
    · have H1 := hid h1; clear h1
      go_enter Try.func22, Try.ntmps22
      go_wp2_with fail
      refine (within_any _ _ _ _ _ _ [a, b, c, d] _ rfl (by simp) (cells_ints _ (by repeat' (first | (refine heap_alloc_at _ _ _ ?_; (first | rfl | (simp; done) | (simp; omega))) | (refine heap_alloc_past _ _ _ _ ?_))) rfl)).mono ?_
      rintro r w' ⟨rfl, rfl⟩
      rw [show [a, b, c, d].all (inB (-4000000) 4000000) = true from H1.out]
      go_wp2_with fail
      have h2 := ok4_iff.1 H1.out
      refine (qbeam_any a b c d _ h2.1 h2.2.1 h2.2.2.1 h2.2.2.2).mono ?_
      clear h2
      rintro r w1 ⟨rfl, hb⟩
      have G2 := hid (heap_below hb (by first | (simp; done) | (simp; omega)) (by repeat' (first | (refine heap_alloc_at _ _ _ ?_; (first | rfl | (simp; done) | (simp; omega))) | (refine heap_alloc_past _ _ _ _ ?_))) : w1.heap[w.heap.size + 1]? = some (.cells #[.int .i64 0, .int .i64 0, .int .i64 0] 26))
      have HB := hid ((by refine Below.trans ?_ (hb.mono ?_); (focus ((repeat' (first | (with_reducible exact Below.refl _ _) | (with_reducible assumption) | (with_reducible refine Below.alloc ?_ ?_ _) | (with_reducible refine Below.drew ?_) | (with_reducible refine below_drewN ?_ _) | (with_reducible refine Below.setCell ?_ ?_ _) | (with_reducible refine below_setRow ?_ ?_ _) | go_size)); done)); (focus (first | (simp; done) | (simp; omega)))) : Below w.heap.size w w1)
      have hlt : w.heap.size + 1 < w1.heap.size := (Array.getElem?_eq_some_iff.1 G2.out).1
      clear hb hq
      go_wp2_with (refine wpList_store_at rfl 26 (.tmp 2) (.tmp 21) rfl rfl rfl (heap_alloc_past _ _ _ _ G2.out) size26 rfl rfl rfl ?_)
      refine bodyPost_ret (results_at3 rfl rfl (setRow_heap _ _ _ _ _ _ (heap_alloc_past _ _ _ _ G2.out)) Try.underlying26 rfl size26 rfl) rfl ?_
      refine ⟨by rw [bmV_yes (HT.out.trans H1.out)]; rfl, below_setRow (HB.out.alloc (by omega) _) (by omega) _⟩
    · have H1 := hid (Bool.eq_false_iff.2 h1); clear h1
      go_enter Try.func22, Try.ntmps22
      go_wp2_with fail
      refine (within_any _ _ _ _ _ _ [a, b, c, d] _ rfl (by simp) (cells_ints _ (by repeat' (first | (refine heap_alloc_at _ _ _ ?_; (first | rfl | (simp; done) | (simp; omega))) | (refine heap_alloc_past _ _ _ _ ?_))) rfl)).mono ?_
      rintro r w' ⟨rfl, rfl⟩
      rw [show [a, b, c, d].all (inB (-4000000) 4000000) = false from H1.out]
      go_wp2
      go_returns
      refine ⟨by rw [bmV_no (HT.out.trans H1.out)], ?_⟩
      (repeat' (first | (with_reducible exact Below.refl _ _) | (with_reducible assumption) | (with_reducible refine Below.alloc ?_ ?_ _) | (with_reducible refine Below.drew ?_) | (with_reducible refine below_drewN ?_ _) | (with_reducible refine Below.setCell ?_ ?_ _) | (with_reducible refine below_setRow ?_ ?_ _) | go_size))

theorem bounds4 {l a b c d : Int} (h : (-l ≤ a ∧ a ≤ l) ∧ (-l ≤ b ∧ b ≤ l) ∧ (-l ≤ c ∧ c ≤ l) ∧ (-l ≤ d ∧ d ≤ l)) (i : Nat) (hi : i < 4) : -l ≤ [a, b, c, d].getD i 0 ∧ [a, b, c, d].getD i 0 ≤ l := by
  match i, hi with
  | 0, _ => exact h.1
  | 1, _ => exact h.2.1
  | 2, _ => exact h.2.2.1
  | 3, _ => exact h.2.2.2
theorem turnB_bd {l a b c d : Int} (h : turnB l a b c d = true) : (-l ≤ a ∧ a ≤ l) ∧ (-l ≤ b ∧ b ≤ l) ∧ (-l ≤ c ∧ c ≤ l) ∧ (-l ≤ d ∧ d ≤ l) := by
  unfold turnB at h
  rw [Bool.and_eq_true] at h
  exact ok4_iff.1 h.1

/-- four integers as a value -/
abbrev v4 (a b c d : Int) : Value := .agg #[.int .i64 a, .int .i64 b, .int .i64 c, .int .i64 d]
theorem bcell {W w1 : World} (hb : Below W.heap.size W w1) : (∀ b o, b < W.heap.size → w1.cell? ⟨b, o, none⟩ = W.cell? ⟨b, o, none⟩) ∧ (∀ b o, b < W.heap.size → w1.frozen? ⟨b, o, none⟩ = W.frozen? ⟨b, o, none⟩) :=
  ⟨fun b o h => hb.cell (p := ⟨b, o, none⟩) h, fun b o h => hb.frozen (p := ⟨b, o, none⟩) h⟩
theorem keepRow {B b : Nat} {W w' : World} (hb : Below B W w') (h : b < B) : w'.cell? ⟨b, 0, none⟩ = W.cell? ⟨b, 0, none⟩ ∧ w'.cell? ⟨b, 1, none⟩ = W.cell? ⟨b, 1, none⟩ ∧ w'.cell? ⟨b, 2, none⟩ = W.cell? ⟨b, 2, none⟩ ∧ w'.cell? ⟨b, 3, none⟩ = W.cell? ⟨b, 3, none⟩ :=
  ⟨hb.cell (p := ⟨b, 0, none⟩) h, hb.cell (p := ⟨b, 1, none⟩) h, hb.cell (p := ⟨b, 2, none⟩) h, hb.cell (p := ⟨b, 3, none⟩) h⟩
set_option maxRecDepth 100000 in
set_option maxHeartbeats 1600000 in
theorem rbeam_yes (a b c d : Int) (w : World) (hok : turnB 4000000 a b c d = true) :
    Calls Try.prog 23 #[.agg #[.int .i64 a, .int .i64 b, .int .i64 c, .int .i64 d]] w
      fun r w' => r = .returned (bmV a b c d) ∧ Below w.heap.size w w' := by
  have HO := hid hok; clear hok
  go_enter Try.func23, Try.ntmps23
  go_wp2_with fail
  refine (turns_any _ _ _ _ _ (by decide) _).mono ?_
  rintro r w1 ⟨rfl, hb⟩
  rw [HO.out]
  have G1 := hid (heap_below hb (by first | (simp; done) | (simp; omega)) (by repeat' (first | (refine heap_alloc_at _ _ _ ?_; (first | rfl | (simp; done) | (simp; omega))) | (refine heap_alloc_past _ _ _ _ ?_))) : w1.heap[w.heap.size]? = some (row4 a b c d))
  have G2 := hid (heap_below hb (by first | (simp; done) | (simp; omega)) (by repeat' (first | (refine heap_alloc_at _ _ _ ?_; (first | rfl | (simp; done) | (simp; omega))) | (refine heap_alloc_past _ _ _ _ ?_))) : w1.heap[w.heap.size + 1]? = some (.cells #[.int .i64 0, .int .i64 0, .int .i64 0] 26))
  have HB := hid ((by refine Below.trans ?_ (hb.mono ?_); (focus ((repeat' (first | (with_reducible exact Below.refl _ _) | (with_reducible assumption) | (with_reducible refine Below.alloc ?_ ?_ _) | (with_reducible refine Below.drew ?_) | (with_reducible refine below_drewN ?_ _) | (with_reducible refine Below.setCell ?_ ?_ _) | (with_reducible refine below_setRow ?_ ?_ _) | go_size)); done)); (focus (first | (simp; done) | (simp; omega)))) : Below w.heap.size w w1)
  have hlt : w.heap.size + 1 < w1.heap.size := (Array.getElem?_eq_some_iff.1 G2.out).1
  have hlt0 : w.heap.size < w1.heap.size := by omega
  clear hb
  have hbd := turnB_bd HO.out
  have c0 := cell_row (j := 0) G1.out
  have c1 := cell_row (j := 1) G1.out
  have c2 := cell_row (j := 2) G1.out
  have c3 := cell_row (j := 3) G1.out
  simp at c0 c1 c2 c3
  go_wp2_with fail
  refine (times_any _ _ _ _ _ _ _ _ _ (bounds4 hbd) (bounds4 (by omega))).mono ?_
  rintro r w2 ⟨rfl, hb2⟩
  have G1' := hid (heap_below hb2 (by first | (simp; done) | (simp; omega)) (heap_alloc_past _ _ _ _ G1.out))
  have G2' := hid (heap_below hb2 (by first | (simp; done) | (simp; omega)) (heap_alloc_past _ _ _ _ G2.out))
  have G5 := hid (heap_below hb2 (by first | (simp; done) | (simp; omega)) (heap_alloc_at _ _ _ rfl) : w2.heap[w1.heap.size]? = some (row4 a (-b) (-c) (-d)))
  have HB2 := hid (show Below w.heap.size w w2 by
    refine (Below.alloc HB.out (by omega) _).trans (hb2.mono ?_)
    simp; omega)
  have ix := index4_0
  clear hb2 c0 c1 c2 c3
  go_wp2
  have hlt1 : w1.heap.size < w2.heap.size := (Array.getElem?_eq_some_iff.1 G5.out).1
  have hlt2 : w.heap.size < w2.heap.size := by omega
  have hb4 := hbd
  have HM := hid (show (-4000000 ≤ Quat.m0 a b c d 0 0 0 (-1) ∧ Quat.m0 a b c d 0 0 0 (-1) ≤ 4000000) ∧ (-4000000 ≤ Quat.m1 a b c d 0 0 0 (-1) ∧ Quat.m1 a b c d 0 0 0 (-1) ≤ 4000000) ∧ (-4000000 ≤ Quat.m2 a b c d 0 0 0 (-1) ∧ Quat.m2 a b c d 0 0 0 (-1) ≤ 4000000) ∧ (-4000000 ≤ Quat.m3 a b c d 0 0 0 (-1) ∧ Quat.m3 a b c d 0 0 0 (-1) ≤ 4000000) by
    simp [Quat.m0, Quat.m1, Quat.m2, Quat.m3]; omega)
  refine gen_act (fun A0 hA => ?_)
  refine wp_region_inv (by kernel_rfl) (by kernel_rfl) (fun L A W => ∃ u28 u29 u30 u31 u32 u7, A = (((((A0.put (some 28) u28).put (some 29) u29).put (some 30) u30).put (some 31) u31).put (some 32) u32).put (some 7) u7 ∧ Below w2.heap.size w2 W ∧
    (L 0 = true → u28 = v4 a b c d) ∧ (L 1 = true → u29 = v4 0 0 0 (-1)) ∧ (L 2 = true → u30 = v4 (Quat.m0 a b c d 0 0 0 (-1)) (Quat.m1 a b c d 0 0 0 (-1)) (Quat.m2 a b c d 0 0 0 (-1)) (Quat.m3 a b c d 0 0 0 (-1))) ∧
    (L 3 = true → u31 = v4 a (-b) (-c) (-d)) ∧
    (L 4 = true → u32 = v4 (Quat.m0 (Quat.m0 a b c d 0 0 0 (-1)) (Quat.m1 a b c d 0 0 0 (-1)) (Quat.m2 a b c d 0 0 0 (-1)) (Quat.m3 a b c d 0 0 0 (-1)) a (-b) (-c) (-d)) (Quat.k0 a b c d) (Quat.k1 a b c d) (Quat.k2 a b c d)) ∧
    (L 5 = true → ∃ g, u7 = .pointer (some ⟨g, 0, none⟩) ∧ w2.heap.size ≤ g ∧ (L 6 = false → W.heap[g]? = some (row4 0 0 0 0)) ∧
      (L 6 = true → W.heap[g]? = some (row4 (Quat.m0 (Quat.m0 a b c d 0 0 0 (-1)) (Quat.m1 a b c d 0 0 0 (-1)) (Quat.m2 a b c d 0 0 0 (-1)) (Quat.m3 a b c d 0 0 0 (-1)) a (-b) (-c) (-d)) (Quat.k0 a b c d) (Quat.k1 a b c d) (Quat.k2 a b c d)))) ∧ (L 6 = true → L 0 = true ∧ L 1 = true ∧ L 2 = true ∧ L 3 = true ∧ L 4 = true ∧ L 5 = true)) ?h0 ?hJ ?hs ?hend
  case h0 => exact ⟨undef, undef, undef, undef, undef, undef, by rw [hA]; rfl, (Below.refl _ _).drew, nofun, nofun, nofun, nofun, nofun, nofun, nofun⟩
  case hJ =>
    rintro L L' hL A W ⟨u28, u29, u30, u31, u32, u7, h⟩
    rw [hL 0 (by decide), hL 1 (by decide), hL 2 (by decide), hL 3 (by decide), hL 4 (by decide), hL 5 (by decide), hL 6 (by decide)] at h
    exact ⟨u28, u29, u30, u31, u32, u7, h⟩
  case hs =>
    intro KJ hKJ0
    have hKJ := hid hKJ0; clear hKJ0
    refine ⟨?_, ?_, ?_, ?_, ?_, ?_, ?_, trivial⟩
    · rintro L hL hd A W ⟨u28, u29, u30, u31, u32, u7, rfl, hB, f0, f1, f2, f3, f4, f5, f6⟩
      rw [hA]
      go_frame
      refine wpList_load_at rfl 22 (.tmp 1) rfl rfl (heap_below hB hlt2 G1'.out) Try.underlying22 rfl size22 rfl ?_
      exact hKJ.out _ _ _ ⟨v4 a b c d, u29, u30, u31, u32, u7, (by rw [hA]; rfl), hB, fun _ => rfl, fun h => f1 (by simpa using h), fun h => f2 (by simpa using h), fun h => f3 (by simpa using h), fun h => f4 (by simpa using h), fun h => by simpa using f5 (by simpa using h), fun h => by have := f6 (by simpa using h); simp [this]⟩
    · rintro L hL hd A W ⟨u28, u29, u30, u31, u32, u7, rfl, hB, f0, f1, f2, f3, f4, f5, f6⟩
      rw [hA]
      go_frame
      refine wpList_built rfl 22 _ rfl #[.int .i64 0, .int .i64 0, .int .i64 0, .int .i64 (-1)] (by kernel_rfl) ?_
      exact hKJ.out _ _ _ ⟨u28, v4 0 0 0 (-1), u30, u31, u32, u7, (by rw [hA]; rfl), hB, fun h => f0 (by simpa using h), fun _ => rfl, fun h => f2 (by simpa using h), fun h => f3 (by simpa using h), fun h => f4 (by simpa using h), fun h => by simpa using f5 (by simpa using h), fun h => by have := f6 (by simpa using h); simp [this]⟩
    · rintro L hL hd A W ⟨u28, u29, u30, u31, u32, u7, rfl, hB, f0, f1, f2, f3, f4, f5, f6⟩
      simp [Region.binds] at hd
      obtain rfl := f0 hd.1
      obtain rfl := f1 hd.2
      have F := hid (And.intro f3 (And.intro f4 f5))
      have HL6 := hid f6
      have HB := hid hB
      clear f0 f1 f2 f3 f4 f5 f6 hB
      rw [hA]
      go_frame
      go_wp2_with fail
      refine (times_any _ _ _ _ _ _ _ _ _ (bounds4 hbd) (bounds4 (by omega))).mono ?_
      rintro r W' ⟨rfl, hb⟩
      go_wp2_with fail
      refine hKJ.out _ _ _ ⟨_, _, _, u31, u32, u7, (by rw [hA]; rfl), HB.out.trans (hb.mono HB.out.size), fun _ => rfl, fun _ => rfl, fun _ => rfl, fun h => F.out.1 (by simpa using h), fun h => F.out.2.1 (by simpa using h), fun h => ?_, fun h => by have := HL6.out (by simpa using h); simp [this]⟩
      obtain ⟨g, e, hg, z, o⟩ := F.out.2.2 (by simpa using h)
      exact ⟨g, e, hg, fun h6 => heap_still hb (z (by simpa using h6)), fun h6 => heap_still hb (o (by simpa using h6))⟩
    · rintro L hL hd A W ⟨u28, u29, u30, u31, u32, u7, rfl, hB, f0, f1, f2, f3, f4, f5, f6⟩
      rw [hA]
      go_frame
      refine wpList_load_at rfl 22 (.tmp 5) rfl rfl (heap_below hB hlt1 G5.out) Try.underlying22 rfl size22 rfl ?_
      exact hKJ.out _ _ _ ⟨u28, u29, u30, v4 a (-b) (-c) (-d), u32, u7, (by rw [hA]; rfl), hB, fun h => f0 (by simpa using h), fun h => f1 (by simpa using h), fun h => f2 (by simpa using h), fun _ => rfl, fun h => f4 (by simpa using h), fun h => by simpa using f5 (by simpa using h), fun h => by have := f6 (by simpa using h); simp [this]⟩
    · rintro L hL hd A W ⟨u28, u29, u30, u31, u32, u7, rfl, hB, f0, f1, f2, f3, f4, f5, f6⟩
      simp [Region.binds] at hd
      obtain rfl := f2 hd.1
      obtain rfl := f3 hd.2.1
      have F := hid (And.intro f0 (And.intro f1 f5))
      have HL6 := hid f6
      have HB := hid hB
      clear f0 f1 f2 f3 f4 f5 f6 hB
      rw [hA]
      go_frame
      go_wp2_with fail
      refine (times_any _ _ _ _ _ _ _ _ _ (bounds4 HM.out) (bounds4 (by omega))).mono ?_
      rintro r W' ⟨rfl, hb⟩
      rw [Quat.back_1, Quat.back_2, Quat.back_3]
      go_wp2_with fail
      refine hKJ.out _ _ _ ⟨u28, u29, _, _, _, u7, (by rw [hA]; rfl), HB.out.trans (hb.mono HB.out.size), fun h => F.out.1 (by simpa using h), fun h => F.out.2.1 (by simpa using h), fun _ => rfl, fun _ => rfl, fun _ => rfl, fun h => ?_, fun h => by have := HL6.out (by simpa using h); simp [this]⟩
      obtain ⟨g, e, hg, z, o⟩ := F.out.2.2 (by simpa using h)
      exact ⟨g, e, hg, fun h6 => heap_still hb (z (by simpa using h6)), fun h6 => heap_still hb (o (by simpa using h6))⟩
    · rintro L hL hd A W ⟨u28, u29, u30, u31, u32, u7, rfl, hB, f0, f1, f2, f3, f4, f5, f6⟩
      have F := hid (And.intro f0 (And.intro f1 (And.intro f2 (And.intro f3 f4))))
      have HL6 := hid f6
      have HB := hid hB
      clear f0 f1 f2 f3 f4 f5 f6 hB
      rw [hA]
      go_frame
      go_wp2_with fail
      refine hKJ.out _ _ _ ⟨u28, u29, u30, u31, u32, _, (by rw [hA]; rfl), HB.out.alloc HB.out.size _, fun h => F.out.1 (by simpa using h), fun h => F.out.2.1 (by simpa using h), fun h => F.out.2.2.1 (by simpa using h), fun h => F.out.2.2.2.1 (by simpa using h), fun h => F.out.2.2.2.2 (by simpa using h), fun _ => ?_, fun h => by have := HL6.out (by simpa using h); simp [this]⟩
      refine ⟨_, rfl, HB.out.size, fun _ => heap_alloc_at _ _ _ rfl, fun h6 => ?_⟩
      exact absurd ((HL6.out (by simpa using h6)).2.2.2.2.2) (by simp [hL])
    · rintro L hL hd A W ⟨u28, u29, u30, u31, u32, u7, rfl, hB, f0, f1, f2, f3, f4, f5, f6⟩
      simp [Region.binds] at hd
      obtain rfl := f4 (by simp [hd])
      obtain ⟨g, rfl, hg, z, o⟩ := f5 (by simp [hd])
      have Z := hid (z hL)
      have F := hid (And.intro f0 (And.intro f1 (And.intro f2 f3)))
      have HB := hid hB
      have HD := hid hd
      clear f0 f1 f2 f3 f4 f5 f6 hB z o hd
      rw [hA]
      go_frame
      refine wpList_store_at rfl 22 (.tmp 7) (.tmp 32) rfl rfl rfl Z.out size22 rfl rfl rfl ?_
      refine hKJ.out _ _ _ ⟨u28, u29, u30, u31, _, _, (by rw [hA]; rfl), below_setRow HB.out hg _, fun h => F.out.1 (by simpa using h), fun h => F.out.2.1 (by simpa using h), fun h => F.out.2.2.1 (by simpa using h), fun h => F.out.2.2.2 (by simpa using h), fun _ => rfl, fun _ => ⟨g, rfl, hg, fun h6 => by simp at h6, fun _ => setRow_heap _ _ _ _ _ _ Z.out⟩, fun _ => ?_⟩
      have := HD.out
      simp [this]
  case hend =>
    rintro A W ⟨u28, u29, u30, u31, u32, u7, rfl, hB, f0, f1, f2, f3, f4, f5, f6⟩
    obtain rfl := f4 rfl
    obtain ⟨g, rfl, hg, z, o⟩ := f5 rfl
    have G7 := hid (o rfl)
    have HW := hid (HB2.out.trans (hB.mono (show w.heap.size ≤ w2.heap.size by omega)))
    have G2'' := hid (heap_below hB (show w.heap.size + 1 < w2.heap.size by omega) G2'.out)
    clear f0 f1 f2 f3 f4 f5 f6 hB z o
    rw [hA]
    go_frame
    have d0 := cell_row (j := 0) G7.out
    have d1 := cell_row (j := 1) G7.out
    have d2 := cell_row (j := 2) G7.out
    have d3 := cell_row (j := 3) G7.out
    simp at d0 d1 d2 d3
    clear hA
    go_wp2_with (refine wpList_store_at rfl 26 (.tmp 2) (.tmp 39) rfl rfl rfl G2''.out size26 rfl rfl rfl ?_)
    refine bodyPost_ret (results_at3 rfl rfl (setRow_heap _ _ _ _ _ _ G2''.out) Try.underlying26 rfl size26 rfl) rfl ?_
    refine ⟨by rw [bmV_yes HO.out, ← Quat.back_n]; rfl, below_setRow HW.out (by omega) _⟩

set_option maxRecDepth 100000 in
theorem rbeam_no (a b c d : Int) (w : World) (hok : turnB 4000000 a b c d = false) :
    Calls Try.prog 23 #[.agg #[.int .i64 a, .int .i64 b, .int .i64 c, .int .i64 d]] w
      fun r w' => r = .returned (bmV a b c d) ∧ Below w.heap.size w w' := by
  have HO := hid hok; clear hok
  go_enter Try.func23, Try.ntmps23
  go_wp2_with fail
  refine (turns_any _ _ _ _ _ (by decide) _).mono ?_
  rintro r w1 ⟨rfl, hb⟩
  rw [HO.out]
  have G2 := hid (heap_below hb (by first | (simp; done) | (simp; omega)) (by repeat' (first | (refine heap_alloc_at _ _ _ ?_; (first | rfl | (simp; done) | (simp; omega))) | (refine heap_alloc_past _ _ _ _ ?_))) : w1.heap[w.heap.size + 1]? = some (.cells #[.int .i64 0, .int .i64 0, .int .i64 0] 26))
  have HB := hid ((by refine Below.trans ?_ (hb.mono ?_); (focus ((repeat' (first | (with_reducible exact Below.refl _ _) | (with_reducible assumption) | (with_reducible refine Below.alloc ?_ ?_ _) | (with_reducible refine Below.drew ?_) | (with_reducible refine below_drewN ?_ _) | (with_reducible refine Below.setCell ?_ ?_ _) | (with_reducible refine below_setRow ?_ ?_ _) | go_size)); done)); (focus (first | (simp; done) | (simp; omega)))) : Below w.heap.size w w1)
  clear hb
  go_wp2_with (refine wpList_store_at rfl 26 (.tmp 2) (.tmp 11) rfl rfl rfl G2.out size26 rfl rfl rfl ?_)
  refine bodyPost_ret (results_at3 rfl rfl (setRow_heap _ _ _ _ _ _ G2.out) Try.underlying26 rfl size26 rfl) rfl ?_
  refine ⟨by rw [bmV_no HO.out]; rfl, below_setRow HB.out (by omega) _⟩
theorem rbeam_any (a b c d : Int) (w : World) :
    Calls Try.prog 23 #[.agg #[.int .i64 a, .int .i64 b, .int .i64 c, .int .i64 d]] w
      fun r w' => r = .returned (bmV a b c d) ∧ Below w.heap.size w w' := by
  by_cases k : turnB 4000000 a b c d = true
  · exact rbeam_yes a b c d w k
  · exact rbeam_no a b c d w (Bool.eq_false_iff.2 k)

theorem awake_beam : bmV 1 1 0 0 = .tuple #[.agg #[.int .i64 0, .int .i64 2, .int .i64 0], .int .i64 2, .int .i64 0] := by
  rw [bmV_yes (by decide)]
  rfl
set_option maxRecDepth 100000 in
theorem awake_any (w : World) : Calls Try.prog 24 #[] w fun r w' => r = .returned (.bool true) ∧ Below w.heap.size w w' := by
  have hq := eq26 0 2 0 0 2 0
  rw [show ([(0 : Int), 2, 0] == [0, 2, 0]) = true from rfl] at hq
  go_enter Try.func24, Try.ntmps24
  go_wp2_with fail
  refine (xbeam_any _ _ _ _ _).mono ?_
  rintro r w1 ⟨rfl, hb⟩
  rw [awake_beam]
  go_wp2
  go_returns
  refine ⟨rfl, ?_⟩
  exact (hb.alloc (by have := hb.size; omega) _)
end Go.Proofs.Yteoikaedpgianaa
