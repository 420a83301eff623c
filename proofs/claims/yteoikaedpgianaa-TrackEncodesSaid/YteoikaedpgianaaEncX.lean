/- The encoding of a record by the program. -/
import Derived.Test.YteoikaedpgianaaWriter
import Derived.Test.YteoikaedpgianaaOpenTrack
namespace Go.Proofs.Yteoikaedpgianaa
open Go.RowKit

def ten (t x y z e a b c d g : Int) : List Int := [t, x, y, z, e, a, b, c, d, g]
theorem eq55 (t x y z e a b c d g t' x' y' z' e' a' b' c' d' g' : Int) (W : World) :
    (Op.equalIn 10000 55 (.agg #[.int .i64 t, .int .i64 x, .int .i64 y, .int .i64 z, .int .i64 e, .int .i64 a, .int .i64 b, .int .i64 c, .int .i64 d, .int .i64 g])
      (.agg #[.int .i64 t', .int .i64 x', .int .i64 y', .int .i64 z', .int .i64 e', .int .i64 a', .int .i64 b', .int .i64 c', .int .i64 d', .int .i64 g'])).run Try.prog W = .ok (ten t x y z e a b c d g == ten t' x' y' z' e' a' b' c' d' g') W := by
  rw [equal_struct Try.underlying55 flat55 [.int .i64 t, .int .i64 x, .int .i64 y, .int .i64 z, .int .i64 e, .int .i64 a, .int .i64 b, .int .i64 c, .int .i64 d, .int .i64 g] [.int .i64 t', .int .i64 x', .int .i64 y', .int .i64 z', .int .i64 e', .int .i64 a', .int .i64 b', .int .i64 c', .int .i64 d', .int .i64 g'] rfl rfl W]
  exact congrArg (fun b => Result.ok b W) (sameL_ints (a := ten t x y z e a b c d g) (b := ten t' x' y' z' e' a' b' c' d' g') rfl)
theorem flat57 : flatOf Try.prog 10 57 = some (List.replicate 3 (some .i64)) := by kernel_rfl
theorem eq57 (t x y t' x' y' : Int) (W : World) :
    (Op.equalIn 10000 57 (.agg #[.int .i64 t, .int .i64 x, .int .i64 y]) (.agg #[.int .i64 t', .int .i64 x', .int .i64 y'])).run Try.prog W = .ok ([t, x, y] == [t', x', y']) W := by
  rw [equal_struct Try.underlying57 flat57 [.int .i64 t, .int .i64 x, .int .i64 y] [.int .i64 t', .int .i64 x', .int .i64 y'] rfl rfl W]
  exact congrArg (fun b => Result.ok b W) (sameL_ints (a := [t, x, y]) (b := [t', x', y']) rfl)

/-- what an encoder returns: an error and no bytes, or the bytes in a row of their own -/
def Enc (er : Int) (bs : List Nat) (e : Ending) (w' : World) : Prop :=
  ∃ v, e = .returned (.tuple #[v, .int .i64 er]) ∧ (er ≠ 0 → v = .slice none 0 0) ∧ (er = 0 → w'.ownsRow 0 5 1 v bs.length (u8s bs))

theorem own_lit {w : World} {g x : Nat} {z : Int} (hz : z = x) (h : w.heap[g]? = some (.cells #[.int .u8 z] 5)) : w.ownsRow 0 5 1 (.slice (some ⟨g, 0, none⟩) 1 1) 1 (u8s [x]) := by
  subst hz
  exact ⟨rfl, Or.inr ⟨g, 1, _, rfl, Nat.zero_le _, h, Nat.le_refl _, by unfold maxLen; omega, rfl, rfl⟩⟩
theorem sync_bd {a b c : Int} (h : syncB a b c = true) : ∀ z ∈ [a, b, c], 0 ≤ z ∧ z ≤ 4611686018427387903 := by
  simp [syncB, inB] at h
  intro z hz
  simp at hz
  rcases hz with rfl | rfl | rfl <;> omega

set_option maxRecDepth 100000 in
set_option maxHeartbeats 800000 in
theorem encodeSync_any (is : Bool) (t x y z e a b c d g s0 s1 s2 : Int) (w : World) :
    Calls Try.prog 100 #[.agg #[.bool is, .int .i64 t, .int .i64 x, .int .i64 y, .int .i64 z, .int .i64 e, .int .i64 a, .int .i64 b, .int .i64 c, .int .i64 d, .int .i64 g, .int .i64 s0, .int .i64 s1, .int .i64 s2]] w
      fun r w' => Enc (if syncB s0 s1 s2 = false then 41 else if (ten t x y z e a b c d g == ten 0 0 0 0 0 0 0 0 0 0) = false then 2 else 0) ([1] ++ encs encU [s0, s1, s2]) r w' ∧ Below w.heap.size w w' := by
  have hq := eq55 t x y z e a b c d g 0 0 0 0 0 0 0 0 0 0
  have HBw := hid (Below.refl w.heap.size w)
  by_cases h1 : syncB s0 s1 s2 = true
  · by_cases h2 : (ten t x y z e a b c d g == ten 0 0 0 0 0 0 0 0 0 0) = true
    · rw [h2] at hq
      rw [if_neg (by rw [h1]; simp), if_neg (by rw [h2]; simp)]
      have H1 := hid h1
      clear h1 h2
      go_enter Try.func100, Try.ntmps100
      go_wp2_with fail
      refine (xSync_any _ _ _ _).mono ?_
      rintro r w1 ⟨rfl, hb⟩
      have HBw1 := hid (show Below w.heap.size w w1 by have hB0 := HBw.out; refine Below.trans ?_ (hb.mono ?_); (focus ((repeat' (first | (with_reducible exact Below.refl _ _) | (with_reducible assumption) | (with_reducible refine Below.alloc ?_ ?_ _) | (with_reducible refine Below.drew ?_) | (with_reducible refine below_drewN ?_ _) | (with_reducible refine Below.setCell ?_ ?_ _) | (with_reducible refine below_setRow ?_ ?_ _) | go_size)); done)); (focus (first | (simp; done) | (simp; omega) | (have hB1 := hB0.size; simp; omega))))
      have hsw1 := hb.size
      (try simp at hsw1)
      have hzw1 : w.heap.size < w1.heap.size := by omega
      obtain ⟨hcw1, hfw1⟩ := bcell hb
      have hkw1 := hid (fun n x => @heap_still _ _ n x hb)
      clear hb
      rw [H1.out]
      go_wp2_with fail
      refine (wNumber_any (w1.heap.size + 1) (w1.heap.size + 1 + 1) 0 3 3 [s0, s1, s2] [1] _ ⟨w1.heap.size, 1, (by repeat' (first | (refine heap_alloc_at _ _ _ ?_; (first | rfl | (simp; done) | (simp; omega))) | (refine heap_alloc_past _ _ _ _ ?_))), own_lit rfl (by repeat' (first | (refine heap_alloc_at _ _ _ ?_; (first | rfl | (simp; done) | (simp; omega))) | (refine heap_alloc_past _ _ _ _ ?_))), by omega, by decide⟩ (by decide) (sync_bd H1.out) rfl (by omega) (fun i hi => cells_ints [s0, s1, s2] (by repeat' (first | (refine heap_alloc_at _ _ _ ?_; (first | rfl | (simp; done) | (simp; omega))) | (refine heap_alloc_past _ _ _ _ ?_))) rfl i hi) (by simp) (by omega)).mono ?_
      rintro r w2 ⟨rfl, hw2, hol⟩
      have HB2 := hid (show Below w.heap.size w w2 by
        have hB1 := HBw1.out
        refine Below.trans ?_ (hol.below (by omega) (by simp; omega))
        (repeat' (first | (with_reducible exact Below.refl _ _) | (with_reducible assumption) | (with_reducible refine Below.alloc ?_ ?_ _) | (with_reducible refine Below.drew ?_) | (with_reducible refine below_drewN ?_ _) | (with_reducible refine Below.setCell ?_ ?_ _) | (with_reducible refine below_setRow ?_ ?_ _) | go_size)))
      obtain ⟨g2, cap2, hr2, hown2, _, _⟩ := hw2
      have c0 : w2.cell? ⟨w1.heap.size + 1, 0, none⟩ = some (.slice (some ⟨g2, 0, none⟩) ([1] ++ encs encU [s0, s1, s2]).length cap2) := by simp only [World.cell?, hr2]; rfl
      have HO2 := hid hown2
      clear hr2 hown2 hol
      obtain ⟨bs, hbs⟩ : ∃ bs, bs = [1] ++ encs encU [s0, s1, s2] := ⟨_, rfl⟩
      rw [← hbs] at c0 HO2
      have HBS := hid hbs
      clear hbs
      go_wp2_with fail
      go_ret2
      exact ⟨⟨_, rfl, fun h => absurd rfl h, fun _ => by have hh := HO2.out; rw [HBS.out] at hh; rw [HBS.out]; exact hh⟩, HB2.out⟩
    · have h2' := Bool.eq_false_iff.2 h2
      rw [h2'] at hq
      rw [if_neg (by rw [h1]; simp), if_pos h2']
      have H1 := hid h1
      clear h1 h2 h2'
      go_enter Try.func100, Try.ntmps100
      go_wp2_with fail
      refine (xSync_any _ _ _ _).mono ?_
      rintro r w1 ⟨rfl, hb⟩
      have HBw1 := hid (show Below w.heap.size w w1 by have hB0 := HBw.out; refine Below.trans ?_ (hb.mono ?_); (focus ((repeat' (first | (with_reducible exact Below.refl _ _) | (with_reducible assumption) | (with_reducible refine Below.alloc ?_ ?_ _) | (with_reducible refine Below.drew ?_) | (with_reducible refine below_drewN ?_ _) | (with_reducible refine Below.setCell ?_ ?_ _) | (with_reducible refine below_setRow ?_ ?_ _) | go_size)); done)); (focus (first | (simp; done) | (simp; omega) | (have hB1 := hB0.size; simp; omega))))
      have hsw1 := hb.size
      (try simp at hsw1)
      have hzw1 : w.heap.size < w1.heap.size := by omega
      obtain ⟨hcw1, hfw1⟩ := bcell hb
      have hkw1 := hid (fun n x => @heap_still _ _ n x hb)
      clear hb
      rw [H1.out]
      go_wp2_with fail
      go_ret2
      exact ⟨⟨_, rfl, fun _ => rfl, fun h => absurd h (by decide)⟩, HBw1.out⟩
  · have h1' := Bool.eq_false_iff.2 h1
    rw [if_pos h1']
    have H1 := hid h1'
    clear h1 h1' hq
    go_enter Try.func100, Try.ntmps100
    go_wp2_with fail
    refine (xSync_any _ _ _ _).mono ?_
    rintro r w1 ⟨rfl, hb⟩
    have HBw1 := hid (show Below w.heap.size w w1 by have hB0 := HBw.out; refine Below.trans ?_ (hb.mono ?_); (focus ((repeat' (first | (with_reducible exact Below.refl _ _) | (with_reducible assumption) | (with_reducible refine Below.alloc ?_ ?_ _) | (with_reducible refine Below.drew ?_) | (with_reducible refine below_drewN ?_ _) | (with_reducible refine Below.setCell ?_ ?_ _) | (with_reducible refine below_setRow ?_ ?_ _) | go_size)); done)); (focus (first | (simp; done) | (simp; omega) | (have hB1 := hB0.size; simp; omega))))
    have hsw1 := hb.size
    (try simp at hsw1)
    have hzw1 : w.heap.size < w1.heap.size := by omega
    obtain ⟨hcw1, hfw1⟩ := bcell hb
    have hkw1 := hid (fun n x => @heap_still _ _ n x hb)
    clear hb
    rw [H1.out]
    go_wp2_with fail
    go_ret2
    exact ⟨⟨_, rfl, fun _ => rfl, fun h => absurd h (by decide)⟩, HBw1.out⟩

theorem fix_bd {t x y z e a b c d g : Int} (h : fixB t x y z e a b c d g = true) :
    (∀ v ∈ [t], 0 ≤ v ∧ v ≤ 4611686018427387903) ∧ (∀ v ∈ [x, y, z], -2305843009213693952 ≤ v ∧ v ≤ 2305843009213693951) ∧ (∀ v ∈ [e], 0 ≤ v ∧ v ≤ 4611686018427387903) ∧
    (∀ v ∈ [a, b, c, d], -2305843009213693952 ≤ v ∧ v ≤ 2305843009213693951) ∧ (∀ v ∈ [g], 0 ≤ v ∧ v ≤ 4611686018427387903) := by
  unfold fixB at h
  simp only [Bool.and_eq_true] at h
  obtain ⟨⟨⟨⟨h1, h2⟩, h3⟩, h4⟩, h5⟩ := h
  have hb := turnB_bd h4
  simp [inB] at h1 h2 h3 h5
  refine ⟨?_, ?_, ?_, ?_, ?_⟩
  all_goals
    intro v hv
    simp at hv
  · subst hv; omega
  · rcases hv with rfl | rfl | rfl <;> omega
  · subst hv; omega
  · rcases hv with rfl | rfl | rfl | rfl <;> omega
  · subst hv; omega
def fixBytes (t x y z e a b c d g : Int) : List Nat := ((([0] ++ encs encU [t]) ++ encs encS [x, y, z]) ++ encs encU [e]) ++ encs encS [a, b, c, d] ++ encs encU [g]

theorem encU_le {zs : List Int} (h : ∀ z ∈ zs, 0 ≤ z ∧ z ≤ 4611686018427387903) (hl : zs.length ≤ 10) : (encs encU zs).length ≤ 90 :=
  Nat.le_trans (encs_len (f := encU) (m := 9) zs (fun z hz => nat_len (h z hz))) (by omega)
theorem encS_le {zs : List Int} (h : ∀ z ∈ zs, -2305843009213693952 ≤ z ∧ z ≤ 2305843009213693951) (hl : zs.length ≤ 10) : (encs encS zs).length ≤ 90 :=
  Nat.le_trans (encs_len (f := encS) (m := 9) zs (fun z hz => zig_len (h z hz))) (by omega)
theorem upto4 {p : Nat → Prop} (h0 : p 0) (h1 : p 1) (h2 : p 2) (h3 : p 3) (i : Nat) (hi : i < 4) : p i := by
  match i, hi with
  | 0, _ => exact h0
  | 1, _ => exact h1
  | 2, _ => exact h2
  | 3, _ => exact h3
theorem wr_alloc {w : World} {wb : Nat} {ys : List Nat} (h : WrAt w wb ys) (o : Obj) : WrAt (w.alloc o) wb ys := by
  obtain ⟨g, cap, hr, hown, hne, hp⟩ := h
  exact ⟨g, cap, heap_alloc_past _ _ _ _ hr, hown.alloc o, hne, hp⟩
theorem wr_lt {w : World} {wb : Nat} {ys : List Nat} (h : WrAt w wb ys) : wb < w.heap.size := by
  obtain ⟨g, cap, hr, _⟩ := h
  exact (Array.getElem?_eq_some_iff.1 hr).1
set_option maxRecDepth 100000 in
set_option maxHeartbeats 1600000 in
theorem encodeFix_yes (t x y z e a b c d g s0 s1 s2 : Int) (w : World) (h1 : fixB t x y z e a b c d g = true) (h2 : ([s0, s1, s2] == [0, 0, 0]) = true) :
    Calls Try.prog 51 #[.agg #[.bool false, .int .i64 t, .int .i64 x, .int .i64 y, .int .i64 z, .int .i64 e, .int .i64 a, .int .i64 b, .int .i64 c, .int .i64 d, .int .i64 g, .int .i64 s0, .int .i64 s1, .int .i64 s2]] w fun r w' => Enc 0 (fixBytes t x y z e a b c d g) r w' ∧ Below w.heap.size w w' := by
  have hq := eq57 s0 s1 s2 0 0 0
  rw [h2] at hq
  have H1 := hid h1
  have HBD := hid (fix_bd h1)
  have HBw := hid (Below.refl w.heap.size w)
  clear h1 h2
  go_enter Try.func51, Try.ntmps51
  go_wp2_with fail
  refine (xFix_any _ _ _ _ _ _ _ _ _ _ _).mono ?_
  rintro r w1 ⟨rfl, hb⟩
  have HBw1 := hid (show Below w.heap.size w w1 by have hB0 := HBw.out; refine Below.trans ?_ (hb.mono ?_); (focus ((repeat' (first | (with_reducible exact Below.refl _ _) | (with_reducible assumption) | (with_reducible refine Below.alloc ?_ ?_ _) | (with_reducible refine Below.drew ?_) | (with_reducible refine below_drewN ?_ _) | (with_reducible refine Below.setCell ?_ ?_ _) | (with_reducible refine below_setRow ?_ ?_ _) | go_size)); done)); (focus (first | (simp; done) | (simp; omega) | (have hB1 := hB0.size; simp; omega))))
  have hsw1 := hb.size
  (try simp at hsw1)
  have hzw1 : w.heap.size < w1.heap.size := by omega
  obtain ⟨hcw1, hfw1⟩ := bcell hb
  have hkw1 := hid (fun n x => @heap_still _ _ n x hb)
  clear hb
  rw [H1.out]
  go_wp2_with (first | (refine wpList_store_new rfl 55 (.tmp 5) (.tmp 24) rfl rfl rfl rfl size55 rfl rfl rfl ?_))
  refine (wNumber_any (w1.heap.size + 1) (w1.heap.size + 1 + 1 + 1) 0 1 1 [t] [0] _ ⟨w1.heap.size, 1, (by repeat' (first | (refine heap_alloc_at _ _ _ ?_; (first | rfl | (simp; done) | (simp; omega))) | (refine heap_alloc_past _ _ _ _ ?_))), own_lit rfl (by repeat' (first | (refine heap_alloc_at _ _ _ ?_; (first | rfl | (simp; done) | (simp; omega))) | (refine heap_alloc_past _ _ _ _ ?_))), by omega, by decide⟩ (by decide) HBD.out.1 rfl (by omega) (fun i hi => cells_ints [t] (by repeat' (first | (refine heap_alloc_at _ _ _ ?_; (first | rfl | (simp; done) | (simp; omega))) | (refine heap_alloc_past _ _ _ _ ?_))) rfl i hi) (by simp) (by omega)).mono ?_
  rintro r w2 ⟨rfl, hw2, hol⟩
  have F2 := hid (hol.heap (by omega) (by repeat' (first | (refine heap_alloc_at _ _ _ ?_; (first | rfl | (simp; done) | (simp; omega))) | (refine heap_alloc_past _ _ _ _ ?_))) : w2.heap[(w1.heap.size + 1 + 1)]? = some (.cells #[.int .i64 t, .int .i64 x, .int .i64 y, .int .i64 z, .int .i64 e, .int .i64 a, .int .i64 b, .int .i64 c, .int .i64 d, .int .i64 g] 55))
  have HB2 := hid (show Below w.heap.size w w2 by
    have hB1 := HBw1.out
    refine Below.trans ?_ (hol.below (by omega) (by simp; omega))
    (repeat' (first | (with_reducible exact Below.refl _ _) | (with_reducible assumption) | (with_reducible refine Below.alloc ?_ ?_ _) | (with_reducible refine Below.drew ?_) | (with_reducible refine below_drewN ?_ _) | (with_reducible refine Below.setCell ?_ ?_ _) | (with_reducible refine below_setRow ?_ ?_ _) | go_size)))
  have HW2 := hid hw2
  have hs2 := hol.size
  simp at hs2
  have HL2 := hid (show ([0] ++ encs encU [t]).length ≤ 2000 by
    have j1 := encU_le HBD.out.1 (by simp)
    have j2 := encS_le HBD.out.2.1 (by simp)
    have j3 := encU_le HBD.out.2.2.1 (by simp)
    have j4 := encS_le HBD.out.2.2.2.1 (by simp)
    have j5 := encU_le HBD.out.2.2.2.2 (by simp)
    simp only [List.length_append, List.length_cons, List.length_nil]
    omega)
  have hfl2 := (Array.getElem?_eq_some_iff.1 F2.out).1
  clear hol hw2
  go_wp2_with fail
  refine (wSigned_any (w1.heap.size + 1) (w1.heap.size + 1 + 1) 1 3 3 [x, y, z] _ _ HW2.out (HL2.out) HBD.out.2.1 rfl (by omega) (cells_off [x, y, z] F2.out (upto3 rfl rfl rfl)) (Array.getElem?_eq_some_iff.1 F2.out).1 (by omega)).mono ?_
  rintro r w3 ⟨rfl, hw3, hol⟩
  have F3 := hid (hol.heap (by omega) F2.out : w3.heap[(w1.heap.size + 1 + 1)]? = some (.cells #[.int .i64 t, .int .i64 x, .int .i64 y, .int .i64 z, .int .i64 e, .int .i64 a, .int .i64 b, .int .i64 c, .int .i64 d, .int .i64 g] 55))
  have HB3 := hid (HB2.out.trans (hol.below (by omega) (by omega)))
  have HW3 := hid hw3
  have hs3 := hol.size
  (try simp at hs3)
  have HL3 := hid (show (([0] ++ encs encU [t]) ++ encs encS [x, y, z]).length ≤ 2000 by
    have j1 := encU_le HBD.out.1 (by simp)
    have j2 := encS_le HBD.out.2.1 (by simp)
    have j3 := encU_le HBD.out.2.2.1 (by simp)
    have j4 := encS_le HBD.out.2.2.2.1 (by simp)
    have j5 := encU_le HBD.out.2.2.2.2 (by simp)
    simp only [List.length_append, List.length_cons, List.length_nil]
    omega)
  have hfl3 := (Array.getElem?_eq_some_iff.1 F3.out).1
  have l3 : w3.cell? ⟨w1.heap.size + 1 + 1, 4, none⟩ = some (.int .i64 e) := (cell_row (j := 4) F3.out).trans rfl
  clear hol hw3
  go_wp2_with fail
  refine (wNumber_any (w1.heap.size + 1) w3.heap.size 0 1 1 [e] _ _ (wr_alloc HW3.out _) (HL3.out) HBD.out.2.2.1 rfl (by omega) (fun i hi => cells_ints [e] (by repeat' (first | (refine heap_alloc_at _ _ _ ?_; (first | rfl | (simp; done) | (simp; omega))) | (refine heap_alloc_past _ _ _ _ ?_))) rfl i hi) (by simp) (by omega)).mono ?_
  rintro r w4 ⟨rfl, hw4, hol⟩
  have F4 := hid (hol.heap (by omega) (heap_alloc_past _ _ _ _ F3.out) : w4.heap[(w1.heap.size + 1 + 1)]? = some (.cells #[.int .i64 t, .int .i64 x, .int .i64 y, .int .i64 z, .int .i64 e, .int .i64 a, .int .i64 b, .int .i64 c, .int .i64 d, .int .i64 g] 55))
  have HB4 := hid (show Below w.heap.size w w4 by
    have hB1 := HB3.out
    refine Below.trans ?_ (hol.below (by omega) (by simp; omega))
    (repeat' (first | (with_reducible exact Below.refl _ _) | (with_reducible assumption) | (with_reducible refine Below.alloc ?_ ?_ _) | (with_reducible refine Below.drew ?_) | (with_reducible refine below_drewN ?_ _) | (with_reducible refine Below.setCell ?_ ?_ _) | (with_reducible refine below_setRow ?_ ?_ _) | go_size)))
  have HW4 := hid hw4
  have hs4 := hol.size
  (try simp at hs4)
  have HL4 := hid (show ((([0] ++ encs encU [t]) ++ encs encS [x, y, z]) ++ encs encU [e]).length ≤ 2000 by
    have j1 := encU_le HBD.out.1 (by simp)
    have j2 := encS_le HBD.out.2.1 (by simp)
    have j3 := encU_le HBD.out.2.2.1 (by simp)
    have j4 := encS_le HBD.out.2.2.2.1 (by simp)
    have j5 := encU_le HBD.out.2.2.2.2 (by simp)
    simp only [List.length_append, List.length_cons, List.length_nil]
    omega)
  have hfl4 := (Array.getElem?_eq_some_iff.1 F4.out).1
  clear hol hw4
  go_wp2_with fail
  refine (wSigned_any (w1.heap.size + 1) (w1.heap.size + 1 + 1) 5 4 4 [a, b, c, d] _ _ HW4.out (HL4.out) HBD.out.2.2.2.1 rfl (by omega) (cells_off [a, b, c, d] F4.out (upto4 rfl rfl rfl rfl)) (Array.getElem?_eq_some_iff.1 F4.out).1 (by omega)).mono ?_
  rintro r w5 ⟨rfl, hw5, hol⟩
  have F5 := hid (hol.heap (by omega) F4.out : w5.heap[(w1.heap.size + 1 + 1)]? = some (.cells #[.int .i64 t, .int .i64 x, .int .i64 y, .int .i64 z, .int .i64 e, .int .i64 a, .int .i64 b, .int .i64 c, .int .i64 d, .int .i64 g] 55))
  have HB5 := hid (HB4.out.trans (hol.below (by omega) (by omega)))
  have HW5 := hid hw5
  have hs5 := hol.size
  (try simp at hs5)
  have HL5 := hid (show (((([0] ++ encs encU [t]) ++ encs encS [x, y, z]) ++ encs encU [e]) ++ encs encS [a, b, c, d]).length ≤ 2000 by
    have j1 := encU_le HBD.out.1 (by simp)
    have j2 := encS_le HBD.out.2.1 (by simp)
    have j3 := encU_le HBD.out.2.2.1 (by simp)
    have j4 := encS_le HBD.out.2.2.2.1 (by simp)
    have j5 := encU_le HBD.out.2.2.2.2 (by simp)
    simp only [List.length_append, List.length_cons, List.length_nil]
    omega)
  have hfl5 := (Array.getElem?_eq_some_iff.1 F5.out).1
  have l5 : w5.cell? ⟨w1.heap.size + 1 + 1, 9, none⟩ = some (.int .i64 g) := (cell_row (j := 9) F5.out).trans rfl
  clear hol hw5
  go_wp2_with fail
  refine (wNumber_any (w1.heap.size + 1) w5.heap.size 0 1 1 [g] _ _ (wr_alloc HW5.out _) (HL5.out) HBD.out.2.2.2.2 rfl (by omega) (fun i hi => cells_ints [g] (by repeat' (first | (refine heap_alloc_at _ _ _ ?_; (first | rfl | (simp; done) | (simp; omega))) | (refine heap_alloc_past _ _ _ _ ?_))) rfl i hi) (by simp) (by omega)).mono ?_
  rintro r w6 ⟨rfl, hw6, hol⟩
  have F6 := hid (hol.heap (by omega) (heap_alloc_past _ _ _ _ F5.out) : w6.heap[(w1.heap.size + 1 + 1)]? = some (.cells #[.int .i64 t, .int .i64 x, .int .i64 y, .int .i64 z, .int .i64 e, .int .i64 a, .int .i64 b, .int .i64 c, .int .i64 d, .int .i64 g] 55))
  have HB6 := hid (show Below w.heap.size w w6 by
    have hB1 := HB5.out
    refine Below.trans ?_ (hol.below (by omega) (by simp; omega))
    (repeat' (first | (with_reducible exact Below.refl _ _) | (with_reducible assumption) | (with_reducible refine Below.alloc ?_ ?_ _) | (with_reducible refine Below.drew ?_) | (with_reducible refine below_drewN ?_ _) | (with_reducible refine Below.setCell ?_ ?_ _) | (with_reducible refine below_setRow ?_ ?_ _) | go_size)))
  have HW6 := hid hw6
  have hs6 := hol.size
  (try simp at hs6)
  have HL6 := hid (show ((((([0] ++ encs encU [t]) ++ encs encS [x, y, z]) ++ encs encU [e]) ++ encs encS [a, b, c, d]) ++ encs encU [g]).length ≤ 2000 by
    have j1 := encU_le HBD.out.1 (by simp)
    have j2 := encS_le HBD.out.2.1 (by simp)
    have j3 := encU_le HBD.out.2.2.1 (by simp)
    have j4 := encS_le HBD.out.2.2.2.1 (by simp)
    have j5 := encU_le HBD.out.2.2.2.2 (by simp)
    simp only [List.length_append, List.length_cons, List.length_nil]
    omega)
  have hfl6 := (Array.getElem?_eq_some_iff.1 F6.out).1
  clear hol hw6
  obtain ⟨g2, cap2, hr2, hown2, _, _⟩ := HW6.out
  have c0 : w6.cell? ⟨w1.heap.size + 1, 0, none⟩ = some (.slice (some ⟨g2, 0, none⟩) (fixBytes t x y z e a b c d g).length cap2) := by simp only [World.cell?, hr2]; rfl
  have HO2 := hid hown2
  clear hr2 hown2
  go_wp2_with fail
  go_ret2
  exact ⟨⟨_, rfl, fun h => absurd rfl h, fun _ => HO2.out⟩, HB6.out⟩
end Go.Proofs.Yteoikaedpgianaa
