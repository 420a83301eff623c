/- The reference's integers and rational numbers: sums, differences, comparisons. -/
import Derived.Test.YteoikaedpgianaaRDiv
import Derived.Test.YteoikaedpgianaaExt
namespace Go.Proofs.Yteoikaedpgianaa
open Go.RowKit Limb

set_option maxRecDepth 100000 in
set_option maxHeartbeats 1600000 in
theorem iadd_same (a b : Int) (k : Nat) (va vb : Value) (w : World) (ha : IntAt w va a k) (hb : IntAt w vb b k) (hk : k ≤ 20000) (hs : decide (a < 0) = decide (b < 0)) :
    Calls Try.prog 81 #[va, vb] w fun r w' => (∃ v, r = .returned v ∧ IntAt w' v (a + b) (k + k + 1)) ∧ Below w.heap.size w w' := by
  obtain ⟨lx, rfl, hna, hla⟩ := ha
  obtain ⟨ly, rfl, hnb, hlb⟩ := hb
  obtain ⟨la, ca, rfl, _, _⟩ := NatAt.open hna
  obtain ⟨lb, cb, rfl, _, _⟩ := NatAt.open hnb
  obtain ⟨h1, h2⟩ := add_same hs
  have HA1 := hid h1
  have HA2 := hid h2
  have HK := hid (natL_add hla hlb)
  have HP := hid (fun W x y => plus_any a.natAbs b.natAbs (.slice la (natL a.natAbs).length ca) (.slice lb (natL b.natAbs).length cb) W x y (hla.wide (by omega)).le (hlb.wide (by omega)).le)
  have HNA := hid hna
  have HNB := hid hnb
  clear hna hnb hla hlb hk h1 h2
  rw [← hs]
  clear hs
  generalize decide (a < 0) = sa at *
  generalize (natL a.natAbs).length = p at *
  generalize (natL b.natAbs).length = q at *
  go_enter Try.func81, Try.ntmps81
  go_wp2_with fail
  refine gen_world (fun W0 hW0 => ?_)
  have HB0 := hid (show Below w.heap.size w W0 by rw [hW0]; (repeat' (first | (with_reducible exact Below.refl _ _) | (with_reducible assumption) | (with_reducible refine Below.alloc ?_ ?_ _) | (with_reducible refine Below.drew ?_) | (with_reducible refine below_drewN ?_ _) | (with_reducible refine Below.setCell ?_ ?_ _) | (with_reducible refine below_setRow ?_ ?_ _) | go_size)))
  have F0 := hid (show W0.heap[w.heap.size]? = some (.cells #[.bool sa, .slice la p ca] 33) by rw [hW0]; exact (by repeat' (first | (refine heap_alloc_at _ _ _ ?_; (first | rfl | (simp; done) | (simp; omega))) | (refine heap_alloc_past _ _ _ _ ?_))))
  have F1 := hid (show W0.heap[w.heap.size + 1]? = some (.cells #[.bool sa, .slice lb q cb] 33) by rw [hW0]; exact (by repeat' (first | (refine heap_alloc_at _ _ _ ?_; (first | rfl | (simp; done) | (simp; omega))) | (refine heap_alloc_past _ _ _ _ ?_))))
  have F2 := hid (show W0.heap[w.heap.size + 1 + 1]? = some (.cells #[.bool false, .slice none 0 0] 33) by rw [hW0]; exact (by repeat' (first | (refine heap_alloc_at _ _ _ ?_; (first | rfl | (simp; done) | (simp; omega))) | (refine heap_alloc_past _ _ _ _ ?_))))
  clear hW0
  refine gen_act (fun A0 hA => ?_)
  refine wp_region_last (by kernel_rfl) (by kernel_rfl) [some 11, some 12, some 13, some 14, some 15, some 16, some 17, some 18, none] rfl (by decide) 8 rfl (by kernel_rfl) (by kernel_rfl)
    [IsV (.pointer (some ⟨w.heap.size, 0, none⟩)), IsV (.bool sa), IsV (.pointer (some ⟨w.heap.size, 1, none⟩)), IsV (.slice la p ca), IsV (.pointer (some ⟨w.heap.size + 1, 1, none⟩)), IsV (.slice lb q cb), fun W v => NatAt W v (a.natAbs + b.natAbs), fun W v => IntAt W v (a + b) (k + k + 1)]
    ⟨IsV.stb _, IsV.stb _, IsV.stb _, IsV.stb _, IsV.stb _, IsV.stb _, NatAt.stb _, IntAt.stb _ _, trivial⟩ ?hs1_2_W1 ?hlast_2_W1
  case hs1_2_W1 =>
    refine ⟨?_, ?_, ?_, ?_, ?_, ?_, ?_, ?_, trivial⟩
    · intro K us W hK0 hB hd
      have hK := hid hK0; clear hK0
      have HBW := hid hB
      have hsW := hB.size
      have GB := hid (HB0.out.trans (hB.mono HB0.out.size))
      clear hd
      simp only [putF]
      rw [hA]
      go_frame
      go_wp2_with fail
      exact hK.out _ _ _ (by rw [hA]; simp only [putF]; kernel_rfl) (Below.refl _ _) rfl
    · intro K us W hK0 hB hd
      have hK := hid hK0; clear hK0
      have HBW := hid hB
      have hsW := hB.size
      have GB := hid (HB0.out.trans (hB.mono HB0.out.size))
      have e0 : us 0 = .pointer (some ⟨w.heap.size, 0, none⟩) := hd ⟨0, Ground.data⟩ (by simp) rfl
      clear hd
      have G0 := hid (heap_still hB F0.out)
      have c0 : W.cell? ⟨w.heap.size, 0, none⟩ = some (.bool sa) := (cell_row (j := 0) G0.out).trans rfl
      simp only [putF]
      rw [hA, e0]
      go_frame
      go_wp2_with fail
      exact hK.out _ _ _ (by rw [hA]; simp only [putF]; rw [e0]; kernel_rfl) (Below.refl _ _) rfl
    · intro K us W hK0 hB hd
      have hK := hid hK0; clear hK0
      have HBW := hid hB
      have hsW := hB.size
      have GB := hid (HB0.out.trans (hB.mono HB0.out.size))
      clear hd
      simp only [putF]
      rw [hA]
      go_frame
      go_wp2_with fail
      exact hK.out _ _ _ (by rw [hA]; simp only [putF]; kernel_rfl) (Below.refl _ _) rfl
    · intro K us W hK0 hB hd
      have hK := hid hK0; clear hK0
      have HBW := hid hB
      have hsW := hB.size
      have GB := hid (HB0.out.trans (hB.mono HB0.out.size))
      have e2 : us 2 = .pointer (some ⟨w.heap.size, 1, none⟩) := hd ⟨2, Ground.data⟩ (by simp) rfl
      clear hd
      have G0 := hid (heap_still hB F0.out)
      have c0 : W.cell? ⟨w.heap.size, 1, none⟩ = some (.slice la p ca) := (cell_row (j := 1) G0.out).trans rfl
      simp only [putF]
      rw [hA, e2]
      go_frame
      go_wp2_with fail
      exact hK.out _ _ _ (by rw [hA]; simp only [putF]; rw [e2]; kernel_rfl) (Below.refl _ _) rfl
    · intro K us W hK0 hB hd
      have hK := hid hK0; clear hK0
      have HBW := hid hB
      have hsW := hB.size
      have GB := hid (HB0.out.trans (hB.mono HB0.out.size))
      clear hd
      simp only [putF]
      rw [hA]
      go_frame
      go_wp2_with fail
      exact hK.out _ _ _ (by rw [hA]; simp only [putF]; kernel_rfl) (Below.refl _ _) rfl
    · intro K us W hK0 hB hd
      have hK := hid hK0; clear hK0
      have HBW := hid hB
      have hsW := hB.size
      have GB := hid (HB0.out.trans (hB.mono HB0.out.size))
      have e4 : us 4 = .pointer (some ⟨w.heap.size + 1, 1, none⟩) := hd ⟨4, Ground.data⟩ (by simp) rfl
      clear hd
      have G0 := hid (heap_still hB F1.out)
      have c0 : W.cell? ⟨w.heap.size + 1, 1, none⟩ = some (.slice lb q cb) := (cell_row (j := 1) G0.out).trans rfl
      simp only [putF]
      rw [hA, e4]
      go_frame
      go_wp2_with fail
      exact hK.out _ _ _ (by rw [hA]; simp only [putF]; rw [e4]; kernel_rfl) (Below.refl _ _) rfl
    · intro K us W hK0 hB hd
      have hK := hid hK0; clear hK0
      have HBW := hid hB
      have hsW := hB.size
      have GB := hid (HB0.out.trans (hB.mono HB0.out.size))
      have e3 : us 3 = .slice la p ca := hd ⟨3, Ground.data⟩ (by simp) rfl
      have e5 : us 5 = .slice lb q cb := hd ⟨5, Ground.data⟩ (by simp) rfl
      clear hd
      simp only [putF]
      rw [hA, e3, e5]
      go_frame
      go_wp2_with fail
      refine (HP.out W (HNA.out.grow GB.out) (HNB.out.grow GB.out)).mono ?_
      rintro r W' ⟨⟨v, rfl, hv⟩, hb⟩
      go_wp2_with fail
      exact hK.out _ _ _ (by rw [hA]; simp only [putF]; rw [e3, e5]; kernel_rfl) hb hv.at
    · intro K us W hK0 hB hd
      have hK := hid hK0; clear hK0
      have HBW := hid hB
      have hsW := hB.size
      have GB := hid (HB0.out.trans (hB.mono HB0.out.size))
      have e1 : us 1 = .bool sa := hd ⟨1, Ground.data⟩ (by simp) rfl
      have hd6 : (fun W v => NatAt W v (a.natAbs + b.natAbs)) W (us 6) := hd ⟨6, Ground.data⟩ (by simp) rfl
      obtain ⟨al6, cl6, e6, _, _⟩ := NatAt.open hd6
      rw [e6] at hd6
      have HH6 := hid hd6
      clear hd6
      generalize (natL (a.natAbs + b.natAbs)).length = len6 at *
      clear hd
      simp only [putF]
      rw [hA, e1, e6]
      go_frame
      go_wp2_with fail
      exact hK.out _ _ _ (by rw [hA]; simp only [putF]; rw [e1, e6]; kernel_rfl) (Below.refl _ _) (⟨_, by rw [HA2.out], by rw [HA1.out]; exact HH6.out, by rw [HA1.out]; exact HK.out⟩)
  intro K us W1 hK0 hB hp
  have hK := hid hK0
  clear hK0
  have hd7 : (fun W v => IntAt W v (a + b) (k + k + 1)) W1 (us 7) := hp 7 (by decide)
  obtain ⟨cs7, e7, hcs7, hco7⟩ := hd7.cells
  rw [e7] at hd7
  have HH7 := hid hd7
  clear hd7
  have HB1 := hid (HB0.out.trans (hB.mono HB0.out.size))
  have HSW1 := hid (fun n x => @heap_still _ _ n x hB)
  have hzW1 := hB.size
  have hbW1 := hid hB
  clear hp
  simp only [putF]
  rw [hA, e7]
  skip
  go_frame
  go_wp2_with (refine wpList_store_at rfl 33 (.tmp 4) (.tmp 18) rfl rfl rfl (HSW1.out _ _ F2.out) size33 hcs7 rfl hco7 ?_)
  refine hK.out undef _ _ (by rw [hA]; simp only [putF]; rw [e7]; kernel_rfl) ?_
  clear hK hB hA e7
  go_wp2_with fail
  refine bodyPost_ret (results_at1 rfl rfl (setRow_heap _ _ _ _ _ _ (HSW1.out _ _ F2.out)) Try.underlying33 rfl size33 hcs7) rfl ?_
  exact ⟨⟨_, rfl, HH7.out.row (HSW1.out _ _ F2.out) (by decide)⟩, below_setRow HB1.out (by omega) _⟩
theorem not_same {a b : Int} (h : decide (a < 0) ≠ decide (b < 0)) : decide (b < 0) = !decide (a < 0) := by
  cases h1 : decide (a < 0) <;> cases h2 : decide (b < 0) <;> simp_all
theorem int_zero (W : World) (k : Nat) : IntAt W (.agg #[.bool false, .slice none 0 0]) 0 k := by
  refine ⟨_, rfl, ?_, ?_⟩
  · show NatAt W _ 0
    unfold NatAt
    rw [natL_zero]
    exact World.ownsRow_nil _ _ _ _
  · show (natL 0).length ≤ k
    rw [natL_zero]
    exact Nat.zero_le _
theorem bool_off (s : Bool) : (s == !s) = false := by cases s <;> rfl
set_option maxRecDepth 100000 in
set_option maxHeartbeats 1600000 in
theorem iadd_left (a b : Int) (k : Nat) (va vb : Value) (w : World) (ha : IntAt w va a k) (hb : IntAt w vb b k) (hk : k ≤ 20000) (hs : decide (a < 0) ≠ decide (b < 0)) (hl : b.natAbs < a.natAbs) :
    Calls Try.prog 81 #[va, vb] w fun r w' => (∃ v, r = .returned v ∧ IntAt w' v (a + b) (k + k + 1)) ∧ Below w.heap.size w w' := by
  obtain ⟨lx, rfl, hna, hla⟩ := ha
  obtain ⟨ly, rfl, hnb, hlb⟩ := hb
  obtain ⟨la, ca, rfl, _, _⟩ := NatAt.open hna
  obtain ⟨lb, cb, rfl, _, _⟩ := NatAt.open hnb
  have HC := hid (fun W x y => compare_any a.natAbs b.natAbs (.slice la (natL a.natAbs).length ca) (.slice lb (natL b.natAbs).length cb) W x y)
  obtain ⟨h1, h2⟩ := add_left hs hl
  have hns := not_same hs
  have HA1 := hid h1
  have HA2 := hid h2
  have HK := hid ((hla.mono (Nat.sub_le a.natAbs b.natAbs)).wide (show k ≤ k + k + 1 by omega))
  have HP := hid (fun W x y => less_any a.natAbs b.natAbs (.slice la (natL a.natAbs).length ca) (.slice lb (natL b.natAbs).length cb) W x y (hla.wide (by omega)).le (by omega))
  have hcv : cmpV a.natAbs b.natAbs = 1 := by unfold cmpV; rw [if_neg (by omega), if_pos (by omega)]
  rw [hcv] at HC
  rw [hns]
  have HNA := hid hna
  have HNB := hid hnb
  have hoff := bool_off
  clear hna hnb hla hlb hk h1 h2 hcv hs hl hns
  generalize decide (a < 0) = sa at *
  generalize (natL a.natAbs).length = p at *
  generalize (natL b.natAbs).length = q at *
  go_enter Try.func81, Try.ntmps81
  go_wp2_with fail
  refine (HC.out _ (HNA.out.grow (by (repeat' (first | (with_reducible exact Below.refl _ _) | (with_reducible assumption) | (with_reducible refine Below.alloc ?_ ?_ _) | (with_reducible refine Below.drew ?_) | (with_reducible refine below_drewN ?_ _) | (with_reducible refine Below.setCell ?_ ?_ _) | (with_reducible refine below_setRow ?_ ?_ _) | go_size)))) (HNB.out.grow (by (repeat' (first | (with_reducible exact Below.refl _ _) | (with_reducible assumption) | (with_reducible refine Below.alloc ?_ ?_ _) | (with_reducible refine Below.drew ?_) | (with_reducible refine below_drewN ?_ _) | (with_reducible refine Below.setCell ?_ ?_ _) | (with_reducible refine below_setRow ?_ ?_ _) | go_size))))).mono ?_
  rintro r w1 ⟨rfl, hb1⟩
  have HBw1 := hid ((by refine Below.trans ?_ (hb1.mono ?_); (focus ((repeat' (first | (with_reducible exact Below.refl _ _) | (with_reducible assumption) | (with_reducible refine Below.alloc ?_ ?_ _) | (with_reducible refine Below.drew ?_) | (with_reducible refine below_drewN ?_ _) | (with_reducible refine Below.setCell ?_ ?_ _) | (with_reducible refine below_setRow ?_ ?_ _) | go_size)); done)); (focus (first | (simp; done) | (simp; omega)))) : Below w.heap.size w w1)
  have F0a := hid (heap_still hb1 (by repeat' (first | (refine heap_alloc_at _ _ _ ?_; (first | rfl | (simp; done) | (simp; omega))) | (refine heap_alloc_past _ _ _ _ ?_))) : w1.heap[w.heap.size]? = some (.cells #[.bool sa, .slice la p ca] 33))
  have F1a := hid (heap_still hb1 (by repeat' (first | (refine heap_alloc_at _ _ _ ?_; (first | rfl | (simp; done) | (simp; omega))) | (refine heap_alloc_past _ _ _ _ ?_))) : w1.heap[w.heap.size + 1]? = some (.cells #[.bool (!sa), .slice lb q cb] 33))
  have F2a := hid (heap_still hb1 (by repeat' (first | (refine heap_alloc_at _ _ _ ?_; (first | rfl | (simp; done) | (simp; omega))) | (refine heap_alloc_past _ _ _ _ ?_))) : w1.heap[w.heap.size + 1 + 1]? = some (.cells #[.bool false, .slice none 0 0] 33))
  clear hb1
  go_wp2_with fail
  refine gen_world (fun W0 hW0 => ?_)
  have HB0 := hid (show Below w.heap.size w W0 by rw [hW0]; exact HBw1.out)
  have F0 := hid (show W0.heap[w.heap.size]? = some (.cells #[.bool sa, .slice la p ca] 33) by rw [hW0]; exact F0a.out)
  have F1 := hid (show W0.heap[w.heap.size + 1]? = some (.cells #[.bool (!sa), .slice lb q cb] 33) by rw [hW0]; exact F1a.out)
  have F2 := hid (show W0.heap[w.heap.size + 1 + 1]? = some (.cells #[.bool false, .slice none 0 0] 33) by rw [hW0]; exact F2a.out)
  clear hW0
  refine gen_act (fun A0 hA => ?_)
  refine wp_region_last (by kernel_rfl) (by kernel_rfl) [some 29, some 30, some 31, some 32, some 33, some 34, some 35, some 36, none] rfl (by decide) 8 rfl (by kernel_rfl) (by kernel_rfl)
    [IsV (.pointer (some ⟨w.heap.size, 0, none⟩)), IsV (.bool sa), IsV (.pointer (some ⟨w.heap.size, 1, none⟩)), IsV (.slice la p ca), IsV (.pointer (some ⟨w.heap.size + 1, 1, none⟩)), IsV (.slice lb q cb), fun W v => NatAt W v (a.natAbs - b.natAbs), fun W v => IntAt W v (a + b) (k + k + 1)]
    ⟨IsV.stb _, IsV.stb _, IsV.stb _, IsV.stb _, IsV.stb _, IsV.stb _, NatAt.stb _, IntAt.stb _ _, trivial⟩ ?hs1_7_W1 ?hlast_7_W1
  case hs1_7_W1 =>
    refine ⟨?_, ?_, ?_, ?_, ?_, ?_, ?_, ?_, trivial⟩
    · intro K us W hK0 hB hd
      have hK := hid hK0; clear hK0
      have HBW := hid hB
      have hsW := hB.size
      have GB := hid (HB0.out.trans (hB.mono HB0.out.size))
      clear hd
      simp only [putF]
      rw [hA]
      go_frame
      go_wp2_with fail
      exact hK.out _ _ _ (by rw [hA]; simp only [putF]; kernel_rfl) (Below.refl _ _) rfl
    · intro K us W hK0 hB hd
      have hK := hid hK0; clear hK0
      have HBW := hid hB
      have hsW := hB.size
      have GB := hid (HB0.out.trans (hB.mono HB0.out.size))
      have e0 : us 0 = .pointer (some ⟨w.heap.size, 0, none⟩) := hd ⟨0, Ground.data⟩ (by simp) rfl
      clear hd
      have G0 := hid (heap_still hB F0.out)
      have c0 : W.cell? ⟨w.heap.size, 0, none⟩ = some (.bool sa) := (cell_row (j := 0) G0.out).trans rfl
      simp only [putF]
      rw [hA, e0]
      go_frame
      go_wp2_with fail
      exact hK.out _ _ _ (by rw [hA]; simp only [putF]; rw [e0]; kernel_rfl) (Below.refl _ _) rfl
    · intro K us W hK0 hB hd
      have hK := hid hK0; clear hK0
      have HBW := hid hB
      have hsW := hB.size
      have GB := hid (HB0.out.trans (hB.mono HB0.out.size))
      clear hd
      simp only [putF]
      rw [hA]
      go_frame
      go_wp2_with fail
      exact hK.out _ _ _ (by rw [hA]; simp only [putF]; kernel_rfl) (Below.refl _ _) rfl
    · intro K us W hK0 hB hd
      have hK := hid hK0; clear hK0
      have HBW := hid hB
      have hsW := hB.size
      have GB := hid (HB0.out.trans (hB.mono HB0.out.size))
      have e2 : us 2 = .pointer (some ⟨w.heap.size, 1, none⟩) := hd ⟨2, Ground.data⟩ (by simp) rfl
      clear hd
      have G0 := hid (heap_still hB F0.out)
      have c0 : W.cell? ⟨w.heap.size, 1, none⟩ = some (.slice la p ca) := (cell_row (j := 1) G0.out).trans rfl
      simp only [putF]
      rw [hA, e2]
      go_frame
      go_wp2_with fail
      exact hK.out _ _ _ (by rw [hA]; simp only [putF]; rw [e2]; kernel_rfl) (Below.refl _ _) rfl
    · intro K us W hK0 hB hd
      have hK := hid hK0; clear hK0
      have HBW := hid hB
      have hsW := hB.size
      have GB := hid (HB0.out.trans (hB.mono HB0.out.size))
      clear hd
      simp only [putF]
      rw [hA]
      go_frame
      go_wp2_with fail
      exact hK.out _ _ _ (by rw [hA]; simp only [putF]; kernel_rfl) (Below.refl _ _) rfl
    · intro K us W hK0 hB hd
      have hK := hid hK0; clear hK0
      have HBW := hid hB
      have hsW := hB.size
      have GB := hid (HB0.out.trans (hB.mono HB0.out.size))
      have e4 : us 4 = .pointer (some ⟨w.heap.size + 1, 1, none⟩) := hd ⟨4, Ground.data⟩ (by simp) rfl
      clear hd
      have G0 := hid (heap_still hB F1.out)
      have c0 : W.cell? ⟨w.heap.size + 1, 1, none⟩ = some (.slice lb q cb) := (cell_row (j := 1) G0.out).trans rfl
      simp only [putF]
      rw [hA, e4]
      go_frame
      go_wp2_with fail
      exact hK.out _ _ _ (by rw [hA]; simp only [putF]; rw [e4]; kernel_rfl) (Below.refl _ _) rfl
    · intro K us W hK0 hB hd
      have hK := hid hK0; clear hK0
      have HBW := hid hB
      have hsW := hB.size
      have GB := hid (HB0.out.trans (hB.mono HB0.out.size))
      have e3 : us 3 = .slice la p ca := hd ⟨3, Ground.data⟩ (by simp) rfl
      have e5 : us 5 = .slice lb q cb := hd ⟨5, Ground.data⟩ (by simp) rfl
      clear hd
      simp only [putF]
      rw [hA, e3, e5]
      go_frame
      go_wp2_with fail
      refine (HP.out W (HNA.out.grow GB.out) (HNB.out.grow GB.out)).mono ?_
      rintro r W' ⟨⟨v, rfl, hv⟩, hb⟩
      go_wp2_with fail
      exact hK.out _ _ _ (by rw [hA]; simp only [putF]; rw [e3, e5]; kernel_rfl) hb hv.at
    · intro K us W hK0 hB hd
      have hK := hid hK0; clear hK0
      have HBW := hid hB
      have hsW := hB.size
      have GB := hid (HB0.out.trans (hB.mono HB0.out.size))
      have e1 : us 1 = .bool sa := hd ⟨1, Ground.data⟩ (by simp) rfl
      have hd6 : (fun W v => NatAt W v (a.natAbs - b.natAbs)) W (us 6) := hd ⟨6, Ground.data⟩ (by simp) rfl
      obtain ⟨al6, cl6, e6, _, _⟩ := NatAt.open hd6
      rw [e6] at hd6
      have HH6 := hid hd6
      clear hd6
      generalize (natL (a.natAbs - b.natAbs)).length = len6 at *
      clear hd
      simp only [putF]
      rw [hA, e1, e6]
      go_frame
      go_wp2_with fail
      exact hK.out _ _ _ (by rw [hA]; simp only [putF]; rw [e1, e6]; kernel_rfl) (Below.refl _ _) (⟨_, by rw [HA2.out], by rw [HA1.out]; exact HH6.out, by rw [HA1.out]; exact HK.out⟩)
  intro K us W1 hK0 hB hp
  have hK := hid hK0
  clear hK0
  have hd7 : (fun W v => IntAt W v (a + b) (k + k + 1)) W1 (us 7) := hp 7 (by decide)
  obtain ⟨cs7, e7, hcs7, hco7⟩ := hd7.cells
  rw [e7] at hd7
  have HH7 := hid hd7
  clear hd7
  have HB1 := hid (HB0.out.trans (hB.mono HB0.out.size))
  have HSW1 := hid (fun n x => @heap_still _ _ n x hB)
  have hzW1 := hB.size
  have hbW1 := hid hB
  clear hp
  simp only [putF]
  rw [hA, e7]
  skip
  go_frame
  go_wp2_with (refine wpList_store_at rfl 33 (.tmp 4) (.tmp 36) rfl rfl rfl (HSW1.out _ _ F2.out) size33 hcs7 rfl hco7 ?_)
  refine hK.out undef _ _ (by rw [hA]; simp only [putF]; rw [e7]; kernel_rfl) ?_
  clear hK hB hA e7
  go_wp2_with fail
  refine bodyPost_ret (results_at1 rfl rfl (setRow_heap _ _ _ _ _ _ (HSW1.out _ _ F2.out)) Try.underlying33 rfl size33 hcs7) rfl ?_
  exact ⟨⟨_, rfl, HH7.out.row (HSW1.out _ _ F2.out) (by decide)⟩, below_setRow HB1.out (by omega) _⟩
set_option maxRecDepth 100000 in
set_option maxHeartbeats 1600000 in
theorem iadd_right (a b : Int) (k : Nat) (va vb : Value) (w : World) (ha : IntAt w va a k) (hb : IntAt w vb b k) (hk : k ≤ 20000) (hs : decide (a < 0) ≠ decide (b < 0)) (hl : a.natAbs < b.natAbs) :
    Calls Try.prog 81 #[va, vb] w fun r w' => (∃ v, r = .returned v ∧ IntAt w' v (a + b) (k + k + 1)) ∧ Below w.heap.size w w' := by
  obtain ⟨lx, rfl, hna, hla⟩ := ha
  obtain ⟨ly, rfl, hnb, hlb⟩ := hb
  obtain ⟨la, ca, rfl, _, _⟩ := NatAt.open hna
  obtain ⟨lb, cb, rfl, _, _⟩ := NatAt.open hnb
  have HC := hid (fun W x y => compare_any a.natAbs b.natAbs (.slice la (natL a.natAbs).length ca) (.slice lb (natL b.natAbs).length cb) W x y)
  obtain ⟨h1, h2⟩ := add_right hs hl
  have hns := not_same hs
  rw [hns] at h2
  have HA1 := hid h1
  have HA2 := hid h2
  have HK := hid ((hlb.mono (Nat.sub_le b.natAbs a.natAbs)).wide (show k ≤ k + k + 1 by omega))
  have HP := hid (fun W x y => less_any b.natAbs a.natAbs (.slice lb (natL b.natAbs).length cb) (.slice la (natL a.natAbs).length ca) W x y (hlb.wide (by omega)).le (by omega))
  have hcv : cmpV a.natAbs b.natAbs = -1 := by unfold cmpV; rw [if_pos (by omega)]
  rw [hcv] at HC
  rw [hns]
  have HNA := hid hna
  have HNB := hid hnb
  have hoff := bool_off
  clear hna hnb hla hlb hk h1 h2 hcv hs hl hns
  generalize decide (a < 0) = sa at *
  generalize (natL a.natAbs).length = p at *
  generalize (natL b.natAbs).length = q at *
  go_enter Try.func81, Try.ntmps81
  go_wp2_with fail
  refine (HC.out _ (HNA.out.grow (by (repeat' (first | (with_reducible exact Below.refl _ _) | (with_reducible assumption) | (with_reducible refine Below.alloc ?_ ?_ _) | (with_reducible refine Below.drew ?_) | (with_reducible refine below_drewN ?_ _) | (with_reducible refine Below.setCell ?_ ?_ _) | (with_reducible refine below_setRow ?_ ?_ _) | go_size)))) (HNB.out.grow (by (repeat' (first | (with_reducible exact Below.refl _ _) | (with_reducible assumption) | (with_reducible refine Below.alloc ?_ ?_ _) | (with_reducible refine Below.drew ?_) | (with_reducible refine below_drewN ?_ _) | (with_reducible refine Below.setCell ?_ ?_ _) | (with_reducible refine below_setRow ?_ ?_ _) | go_size))))).mono ?_
  rintro r w1 ⟨rfl, hb1⟩
  have HBw1 := hid ((by refine Below.trans ?_ (hb1.mono ?_); (focus ((repeat' (first | (with_reducible exact Below.refl _ _) | (with_reducible assumption) | (with_reducible refine Below.alloc ?_ ?_ _) | (with_reducible refine Below.drew ?_) | (with_reducible refine below_drewN ?_ _) | (with_reducible refine Below.setCell ?_ ?_ _) | (with_reducible refine below_setRow ?_ ?_ _) | go_size)); done)); (focus (first | (simp; done) | (simp; omega)))) : Below w.heap.size w w1)
  have F0a := hid (heap_still hb1 (by repeat' (first | (refine heap_alloc_at _ _ _ ?_; (first | rfl | (simp; done) | (simp; omega))) | (refine heap_alloc_past _ _ _ _ ?_))) : w1.heap[w.heap.size]? = some (.cells #[.bool sa, .slice la p ca] 33))
  have F1a := hid (heap_still hb1 (by repeat' (first | (refine heap_alloc_at _ _ _ ?_; (first | rfl | (simp; done) | (simp; omega))) | (refine heap_alloc_past _ _ _ _ ?_))) : w1.heap[w.heap.size + 1]? = some (.cells #[.bool (!sa), .slice lb q cb] 33))
  have F2a := hid (heap_still hb1 (by repeat' (first | (refine heap_alloc_at _ _ _ ?_; (first | rfl | (simp; done) | (simp; omega))) | (refine heap_alloc_past _ _ _ _ ?_))) : w1.heap[w.heap.size + 1 + 1]? = some (.cells #[.bool false, .slice none 0 0] 33))
  clear hb1
  go_wp2_with fail
  refine gen_world (fun W0 hW0 => ?_)
  have HB0 := hid (show Below w.heap.size w W0 by rw [hW0]; exact HBw1.out)
  have F0 := hid (show W0.heap[w.heap.size]? = some (.cells #[.bool sa, .slice la p ca] 33) by rw [hW0]; exact F0a.out)
  have F1 := hid (show W0.heap[w.heap.size + 1]? = some (.cells #[.bool (!sa), .slice lb q cb] 33) by rw [hW0]; exact F1a.out)
  have F2 := hid (show W0.heap[w.heap.size + 1 + 1]? = some (.cells #[.bool false, .slice none 0 0] 33) by rw [hW0]; exact F2a.out)
  clear hW0
  refine gen_act (fun A0 hA => ?_)
  refine wp_region_last (by kernel_rfl) (by kernel_rfl) [some 37, some 38, some 39, some 40, some 41, some 42, some 43, some 44, none] rfl (by decide) 8 rfl (by kernel_rfl) (by kernel_rfl)
    [IsV (.pointer (some ⟨w.heap.size + 1, 0, none⟩)), IsV (.bool (!sa)), IsV (.pointer (some ⟨w.heap.size + 1, 1, none⟩)), IsV (.slice lb q cb), IsV (.pointer (some ⟨w.heap.size, 1, none⟩)), IsV (.slice la p ca), fun W v => NatAt W v (b.natAbs - a.natAbs), fun W v => IntAt W v (a + b) (k + k + 1)]
    ⟨IsV.stb _, IsV.stb _, IsV.stb _, IsV.stb _, IsV.stb _, IsV.stb _, NatAt.stb _, IntAt.stb _ _, trivial⟩ ?hs1_8_W1 ?hlast_8_W1
  case hs1_8_W1 =>
    refine ⟨?_, ?_, ?_, ?_, ?_, ?_, ?_, ?_, trivial⟩
    · intro K us W hK0 hB hd
      have hK := hid hK0; clear hK0
      have HBW := hid hB
      have hsW := hB.size
      have GB := hid (HB0.out.trans (hB.mono HB0.out.size))
      clear hd
      simp only [putF]
      rw [hA]
      go_frame
      go_wp2_with fail
      exact hK.out _ _ _ (by rw [hA]; simp only [putF]; kernel_rfl) (Below.refl _ _) rfl
    · intro K us W hK0 hB hd
      have hK := hid hK0; clear hK0
      have HBW := hid hB
      have hsW := hB.size
      have GB := hid (HB0.out.trans (hB.mono HB0.out.size))
      have e0 : us 0 = .pointer (some ⟨w.heap.size + 1, 0, none⟩) := hd ⟨0, Ground.data⟩ (by simp) rfl
      clear hd
      have G0 := hid (heap_still hB F1.out)
      have c0 : W.cell? ⟨w.heap.size + 1, 0, none⟩ = some (.bool (!sa)) := (cell_row (j := 0) G0.out).trans rfl
      simp only [putF]
      rw [hA, e0]
      go_frame
      go_wp2_with fail
      exact hK.out _ _ _ (by rw [hA]; simp only [putF]; rw [e0]; kernel_rfl) (Below.refl _ _) rfl
    · intro K us W hK0 hB hd
      have hK := hid hK0; clear hK0
      have HBW := hid hB
      have hsW := hB.size
      have GB := hid (HB0.out.trans (hB.mono HB0.out.size))
      clear hd
      simp only [putF]
      rw [hA]
      go_frame
      go_wp2_with fail
      exact hK.out _ _ _ (by rw [hA]; simp only [putF]; kernel_rfl) (Below.refl _ _) rfl
    · intro K us W hK0 hB hd
      have hK := hid hK0; clear hK0
      have HBW := hid hB
      have hsW := hB.size
      have GB := hid (HB0.out.trans (hB.mono HB0.out.size))
      have e2 : us 2 = .pointer (some ⟨w.heap.size + 1, 1, none⟩) := hd ⟨2, Ground.data⟩ (by simp) rfl
      clear hd
      have G0 := hid (heap_still hB F1.out)
      have c0 : W.cell? ⟨w.heap.size + 1, 1, none⟩ = some (.slice lb q cb) := (cell_row (j := 1) G0.out).trans rfl
      simp only [putF]
      rw [hA, e2]
      go_frame
      go_wp2_with fail
      exact hK.out _ _ _ (by rw [hA]; simp only [putF]; rw [e2]; kernel_rfl) (Below.refl _ _) rfl
    · intro K us W hK0 hB hd
      have hK := hid hK0; clear hK0
      have HBW := hid hB
      have hsW := hB.size
      have GB := hid (HB0.out.trans (hB.mono HB0.out.size))
      clear hd
      simp only [putF]
      rw [hA]
      go_frame
      go_wp2_with fail
      exact hK.out _ _ _ (by rw [hA]; simp only [putF]; kernel_rfl) (Below.refl _ _) rfl
    · intro K us W hK0 hB hd
      have hK := hid hK0; clear hK0
      have HBW := hid hB
      have hsW := hB.size
      have GB := hid (HB0.out.trans (hB.mono HB0.out.size))
      have e4 : us 4 = .pointer (some ⟨w.heap.size, 1, none⟩) := hd ⟨4, Ground.data⟩ (by simp) rfl
      clear hd
      have G0 := hid (heap_still hB F0.out)
      have c0 : W.cell? ⟨w.heap.size, 1, none⟩ = some (.slice la p ca) := (cell_row (j := 1) G0.out).trans rfl
      simp only [putF]
      rw [hA, e4]
      go_frame
      go_wp2_with fail
      exact hK.out _ _ _ (by rw [hA]; simp only [putF]; rw [e4]; kernel_rfl) (Below.refl _ _) rfl
    · intro K us W hK0 hB hd
      have hK := hid hK0; clear hK0
      have HBW := hid hB
      have hsW := hB.size
      have GB := hid (HB0.out.trans (hB.mono HB0.out.size))
      have e3 : us 3 = .slice lb q cb := hd ⟨3, Ground.data⟩ (by simp) rfl
      have e5 : us 5 = .slice la p ca := hd ⟨5, Ground.data⟩ (by simp) rfl
      clear hd
      simp only [putF]
      rw [hA, e3, e5]
      go_frame
      go_wp2_with fail
      refine (HP.out W (HNB.out.grow GB.out) (HNA.out.grow GB.out)).mono ?_
      rintro r W' ⟨⟨v, rfl, hv⟩, hb⟩
      go_wp2_with fail
      exact hK.out _ _ _ (by rw [hA]; simp only [putF]; rw [e3, e5]; kernel_rfl) hb hv.at
    · intro K us W hK0 hB hd
      have hK := hid hK0; clear hK0
      have HBW := hid hB
      have hsW := hB.size
      have GB := hid (HB0.out.trans (hB.mono HB0.out.size))
      have e1 : us 1 = .bool (!sa) := hd ⟨1, Ground.data⟩ (by simp) rfl
      have hd6 : (fun W v => NatAt W v (b.natAbs - a.natAbs)) W (us 6) := hd ⟨6, Ground.data⟩ (by simp) rfl
      obtain ⟨al6, cl6, e6, _, _⟩ := NatAt.open hd6
      rw [e6] at hd6
      have HH6 := hid hd6
      clear hd6
      generalize (natL (b.natAbs - a.natAbs)).length = len6 at *
      clear hd
      simp only [putF]
      rw [hA, e1, e6]
      go_frame
      go_wp2_with fail
      exact hK.out _ _ _ (by rw [hA]; simp only [putF]; rw [e1, e6]; kernel_rfl) (Below.refl _ _) (⟨_, by rw [HA2.out], by rw [HA1.out]; exact HH6.out, by rw [HA1.out]; exact HK.out⟩)
  intro K us W1 hK0 hB hp
  have hK := hid hK0
  clear hK0
  have hd7 : (fun W v => IntAt W v (a + b) (k + k + 1)) W1 (us 7) := hp 7 (by decide)
  obtain ⟨cs7, e7, hcs7, hco7⟩ := hd7.cells
  rw [e7] at hd7
  have HH7 := hid hd7
  clear hd7
  have HB1 := hid (HB0.out.trans (hB.mono HB0.out.size))
  have HSW1 := hid (fun n x => @heap_still _ _ n x hB)
  have hzW1 := hB.size
  have hbW1 := hid hB
  clear hp
  simp only [putF]
  rw [hA, e7]
  skip
  go_frame
  go_wp2_with (refine wpList_store_at rfl 33 (.tmp 4) (.tmp 44) rfl rfl rfl (HSW1.out _ _ F2.out) size33 hcs7 rfl hco7 ?_)
  refine hK.out undef _ _ (by rw [hA]; simp only [putF]; rw [e7]; kernel_rfl) ?_
  clear hK hB hA e7
  go_wp2_with fail
  refine bodyPost_ret (results_at1 rfl rfl (setRow_heap _ _ _ _ _ _ (HSW1.out _ _ F2.out)) Try.underlying33 rfl size33 hcs7) rfl ?_
  exact ⟨⟨_, rfl, HH7.out.row (HSW1.out _ _ F2.out) (by decide)⟩, below_setRow HB1.out (by omega) _⟩
set_option maxRecDepth 100000 in
set_option maxHeartbeats 1600000 in
theorem iadd_none (a b : Int) (k : Nat) (va vb : Value) (w : World) (ha : IntAt w va a k) (hb : IntAt w vb b k) (hs : decide (a < 0) ≠ decide (b < 0)) (hl : a.natAbs = b.natAbs) :
    Calls Try.prog 81 #[va, vb] w fun r w' => (∃ v, r = .returned v ∧ IntAt w' v (a + b) (k + k + 1)) ∧ Below w.heap.size w w' := by
  obtain ⟨lx, rfl, hna, hla⟩ := ha
  obtain ⟨ly, rfl, hnb, hlb⟩ := hb
  obtain ⟨la, ca, rfl, _, _⟩ := NatAt.open hna
  obtain ⟨lb, cb, rfl, _, _⟩ := NatAt.open hnb
  have HC := hid (fun W x y => compare_any a.natAbs b.natAbs (.slice la (natL a.natAbs).length ca) (.slice lb (natL b.natAbs).length cb) W x y)
  have h1 := add_none hs hl
  have hns := not_same hs
  rw [h1]
  have hcv : cmpV a.natAbs b.natAbs = 0 := by unfold cmpV; rw [if_neg (by omega), if_neg (by omega)]
  rw [hcv] at HC
  rw [hns]
  have HNA := hid hna
  have HNB := hid hnb
  have hoff := bool_off
  clear hna hnb hla hlb h1 hcv hs hl hns
  generalize decide (a < 0) = sa at *
  generalize (natL a.natAbs).length = p at *
  generalize (natL b.natAbs).length = q at *
  go_enter Try.func81, Try.ntmps81
  go_wp2_with fail
  refine (HC.out _ (HNA.out.grow (by (repeat' (first | (with_reducible exact Below.refl _ _) | (with_reducible assumption) | (with_reducible refine Below.alloc ?_ ?_ _) | (with_reducible refine Below.drew ?_) | (with_reducible refine below_drewN ?_ _) | (with_reducible refine Below.setCell ?_ ?_ _) | (with_reducible refine below_setRow ?_ ?_ _) | go_size)))) (HNB.out.grow (by (repeat' (first | (with_reducible exact Below.refl _ _) | (with_reducible assumption) | (with_reducible refine Below.alloc ?_ ?_ _) | (with_reducible refine Below.drew ?_) | (with_reducible refine below_drewN ?_ _) | (with_reducible refine Below.setCell ?_ ?_ _) | (with_reducible refine below_setRow ?_ ?_ _) | go_size))))).mono ?_
  rintro r w1 ⟨rfl, hb1⟩
  have HBw1 := hid ((by refine Below.trans ?_ (hb1.mono ?_); (focus ((repeat' (first | (with_reducible exact Below.refl _ _) | (with_reducible assumption) | (with_reducible refine Below.alloc ?_ ?_ _) | (with_reducible refine Below.drew ?_) | (with_reducible refine below_drewN ?_ _) | (with_reducible refine Below.setCell ?_ ?_ _) | (with_reducible refine below_setRow ?_ ?_ _) | go_size)); done)); (focus (first | (simp; done) | (simp; omega)))) : Below w.heap.size w w1)
  have F0a := hid (heap_still hb1 (by repeat' (first | (refine heap_alloc_at _ _ _ ?_; (first | rfl | (simp; done) | (simp; omega))) | (refine heap_alloc_past _ _ _ _ ?_))) : w1.heap[w.heap.size]? = some (.cells #[.bool sa, .slice la p ca] 33))
  have F1a := hid (heap_still hb1 (by repeat' (first | (refine heap_alloc_at _ _ _ ?_; (first | rfl | (simp; done) | (simp; omega))) | (refine heap_alloc_past _ _ _ _ ?_))) : w1.heap[w.heap.size + 1]? = some (.cells #[.bool (!sa), .slice lb q cb] 33))
  have F2a := hid (heap_still hb1 (by repeat' (first | (refine heap_alloc_at _ _ _ ?_; (first | rfl | (simp; done) | (simp; omega))) | (refine heap_alloc_past _ _ _ _ ?_))) : w1.heap[w.heap.size + 1 + 1]? = some (.cells #[.bool false, .slice none 0 0] 33))
  clear hb1
  go_wp2_with (refine wpList_store_at rfl 33 (.tmp 4) (.tmp 26) rfl rfl rfl F2a.out size33 rfl rfl rfl ?_)
  refine bodyPost_ret (results_at1 rfl rfl (setRow_heap _ _ _ _ _ _ F2a.out) Try.underlying33 rfl size33 rfl) rfl ?_
  exact ⟨⟨_, rfl, int_zero _ _⟩, below_setRow HBw1.out (by omega) _⟩
theorem iadd_any (a b : Int) (k : Nat) (va vb : Value) (w : World) (ha : IntAt w va a k) (hb : IntAt w vb b k) (hk : k ≤ 20000) :
    Calls Try.prog 81 #[va, vb] w fun r w' => (∃ v, r = .returned v ∧ IntAt w' v (a + b) (k + k + 1)) ∧ Below w.heap.size w w' := by
  by_cases hs : decide (a < 0) = decide (b < 0)
  · exact iadd_same a b k va vb w ha hb hk hs
  · rcases Nat.lt_trichotomy a.natAbs b.natAbs with h | h | h
    · exact iadd_right a b k va vb w ha hb hk hs h
    · exact iadd_none a b k va vb w ha hb hs h
    · exact iadd_left a b k va vb w ha hb hk hs h

set_option maxRecDepth 100000 in
set_option maxHeartbeats 1600000 in
theorem qadd_any (x y : Rat) (k : Nat) (va vb : Value) (w : World) (ha : QAt w va x k) (hb : QAt w vb y k) (hk : k ≤ 5000) :
    Calls Try.prog 27 #[va, vb] w fun r w' => (∃ v, r = .returned v ∧ QAt w' v (x + y) (4 * k + 1)) ∧ Below w.heap.size w w' := by
  obtain ⟨n1, d1, rfl, hn1, hd1, hkn1, hkd1⟩ := ha
  obtain ⟨n2, d2, rfl, hn2, hd2, hkn2, hkd2⟩ := hb
  obtain ⟨a1, ca1, rfl, _, _⟩ := hn1.open
  obtain ⟨b1, cb1, rfl, _, _⟩ := hd1.open
  obtain ⟨a2, ca2, rfl, _, _⟩ := hn2.open
  obtain ⟨b2, cb2, rfl, _, _⟩ := hd2.open
  have HQ := hid (Rat.add_def' x y)
  obtain ⟨z1, hz1⟩ : ∃ z, z = x.num * (y.den : Int) := ⟨_, rfl⟩
  obtain ⟨z2, hz2⟩ : ∃ z, z = y.num * (x.den : Int) := ⟨_, rfl⟩
  obtain ⟨dd, hdd⟩ : ∃ dd, dd = x.den * y.den := ⟨_, rfl⟩
  rw [← hz1, ← hz2, ← hdd] at HQ
  obtain ⟨q, hq⟩ : ∃ q, q = mkRat (z1 + z2) dd := ⟨_, rfl⟩
  rw [← hq] at HQ
  have HIM1 := hid (fun W h h' => imul_any x.num (y.den : Int) k k (.agg #[.bool (decide (x.num < 0)), .slice a1 (natL x.num.natAbs).length ca1]) (.agg #[.bool false, .slice b2 (natL y.den).length cb2]) W h h' (by omega) (by omega))
  have HIM2 := hid (fun W h h' => imul_any y.num (x.den : Int) k k (.agg #[.bool (decide (y.num < 0)), .slice a2 (natL y.num.natAbs).length ca2]) (.agg #[.bool false, .slice b1 (natL x.den).length cb1]) W h h' (by omega) (by omega))
  have HDM := hid (fun W h h' => mul_any x.den y.den (.slice b1 (natL x.den).length cb1) (.slice b2 (natL y.den).length cb2) W h h' (hkd1.wide (by omega)).le (hkd2.wide (by omega)).le)
  have HIA := hid (fun W v v' h h' => iadd_any z1 z2 (k + k) v v' W h h' (by omega))
  have HKD := hid (show LenLe dd (4 * k + 1) by rw [hdd]; exact (natL_mul hkd1 hkd2).wide (by omega))
  have HFR := hid (fun W v v' h h' => frac_any (z1 + z2) dd (4 * k + 1) v v' W h h' (by omega) (by rw [hdd]; exact Nat.mul_pos (Nat.pos_of_ne_zero x.den_nz) (Nat.pos_of_ne_zero y.den_nz)))
  rw [← hq] at HFR
  rw [← hz1] at HIM1
  rw [← hz2] at HIM2
  rw [← hdd] at HDM
  have HI1 := hid (show ∀ W, Below w.heap.size w W → IntAt W (.agg #[.bool (decide (x.num < 0)), .slice a1 (natL x.num.natAbs).length ca1]) x.num k from fun W hW => ⟨_, rfl, hn1.grow hW, hkn1⟩)
  have HI2 := hid (show ∀ W, Below w.heap.size w W → IntAt W (.agg #[.bool (decide (y.num < 0)), .slice a2 (natL y.num.natAbs).length ca2]) y.num k from fun W hW => ⟨_, rfl, hn2.grow hW, hkn2⟩)
  have HJ1 := hid (show ∀ W, Below w.heap.size w W → IntAt W (.agg #[.bool false, .slice b1 (natL x.den).length cb1]) (x.den : Int) k from fun W hW => ⟨_, by rw [nat_sign], by rw [Int.natAbs_natCast]; exact hd1.grow hW, by rw [Int.natAbs_natCast]; exact hkd1⟩)
  have HJ2 := hid (show ∀ W, Below w.heap.size w W → IntAt W (.agg #[.bool false, .slice b2 (natL y.den).length cb2]) (y.den : Int) k from fun W hW => ⟨_, by rw [nat_sign], by rw [Int.natAbs_natCast]; exact hd2.grow hW, by rw [Int.natAbs_natCast]; exact hkd2⟩)
  have HD1 := hid hd1
  have HD2 := hid hd2
  have HKK := hid (show k + k + (k + k) + 1 ≤ 4 * k + 1 by omega)
  rw [HQ.out]
  generalize decide (x.num < 0) = s1 at *
  generalize decide (y.num < 0) = s2 at *
  generalize (natL x.num.natAbs).length = p1 at *
  generalize (natL y.num.natAbs).length = p2 at *
  generalize (natL x.den).length = r1 at *
  generalize (natL y.den).length = r2 at *
  clear hn1 hd1 hkn1 hkd1 hn2 hd2 hkn2 hkd2 hz1 hz2 hdd hq hk
  go_enter Try.func27, Try.ntmps27
  go_wp2_with fail
  refine gen_world (fun W0 hW0 => ?_)
  have HB0 := hid (show Below w.heap.size w W0 by rw [hW0]; (repeat' (first | (with_reducible exact Below.refl _ _) | (with_reducible assumption) | (with_reducible refine Below.alloc ?_ ?_ _) | (with_reducible refine Below.drew ?_) | (with_reducible refine below_drewN ?_ _) | (with_reducible refine Below.setCell ?_ ?_ _) | (with_reducible refine below_setRow ?_ ?_ _) | go_size)))
  have F0 := hid (show W0.heap[w.heap.size]? = some (.cells #[.bool s1, .slice a1 p1 ca1, .slice b1 r1 cb1] 35) by rw [hW0]; exact (by repeat' (first | (refine heap_alloc_at _ _ _ ?_; (first | rfl | (simp; done) | (simp; omega))) | (refine heap_alloc_past _ _ _ _ ?_))))
  have F1 := hid (show W0.heap[w.heap.size + 1]? = some (.cells #[.bool s2, .slice a2 p2 ca2, .slice b2 r2 cb2] 35) by rw [hW0]; exact (by repeat' (first | (refine heap_alloc_at _ _ _ ?_; (first | rfl | (simp; done) | (simp; omega))) | (refine heap_alloc_past _ _ _ _ ?_))))
  have F2 := hid (show W0.heap[w.heap.size + 1 + 1]? = some (.cells #[.bool false, .slice none 0 0, .slice none 0 0] 35) by rw [hW0]; exact (by repeat' (first | (refine heap_alloc_at _ _ _ ?_; (first | rfl | (simp; done) | (simp; omega))) | (refine heap_alloc_past _ _ _ _ ?_))))
  clear hW0
  refine gen_act (fun A0 hA => ?_)
  refine wp_region_last (by kernel_rfl) (by kernel_rfl) [some 5, some 6, some 7, some 8, some 9, some 10, some 11, some 12, some 13, some 14, some 15, some 16, some 17, some 18, some 19, some 20, some 21, some 22, some 23, some 24, none] rfl (by decide) 20 rfl (by kernel_rfl) (by kernel_rfl)
    [IsV (.pointer (some ⟨w.heap.size, 0, none⟩)), IsV (.agg #[.bool s1, .slice a1 p1 ca1]), IsV (.pointer (some ⟨w.heap.size + 1, 2, none⟩)), IsV (.slice b2 r2 cb2), IsV (.agg #[.bool false, .slice b2 r2 cb2]), fun W v => IntAt W v z1 (k + k), IsV (.pointer (some ⟨w.heap.size + 1, 0, none⟩)), IsV (.agg #[.bool s2, .slice a2 p2 ca2]), IsV (.pointer (some ⟨w.heap.size, 2, none⟩)), IsV (.slice b1 r1 cb1), IsV (.agg #[.bool false, .slice b1 r1 cb1]), fun W v => IntAt W v z2 (k + k), fun W v => IntAt W v (z1 + z2) (4 * k + 1), IsV (.pointer (some ⟨w.heap.size, 2, none⟩)), IsV (.slice b1 r1 cb1), IsV (.pointer (some ⟨w.heap.size + 1, 2, none⟩)), IsV (.slice b2 r2 cb2), fun W v => NatAt W v dd, fun W v => IntAt W v (dd : Int) (4 * k + 1), fun W v => QAt W v q (4 * k + 1)]
    ⟨IsV.stb _, IsV.stb _, IsV.stb _, IsV.stb _, IsV.stb _, IntAt.stb _ _, IsV.stb _, IsV.stb _, IsV.stb _, IsV.stb _, IsV.stb _, IntAt.stb _ _, IntAt.stb _ _, IsV.stb _, IsV.stb _, IsV.stb _, IsV.stb _, NatAt.stb _, IntAt.stb _ _, QAt.stb _ _, trivial⟩ ?hs1_1_W1 ?hlast_1_W1
  case hs1_1_W1 =>
    refine ⟨?_, ?_, ?_, ?_, ?_, ?_, ?_, ?_, ?_, ?_, ?_, ?_, ?_, ?_, ?_, ?_, ?_, ?_, ?_, ?_, trivial⟩
    · intro K us W hK0 hB hd
      have hK := hid hK0; clear hK0
      have HBW := hid hB
      have hsW := hB.size
      have GB := hid (HB0.out.trans (hB.mono HB0.out.size))
      clear hd
      simp only [putF]
      rw [hA]
      go_frame
      go_wp2_with fail
      exact hK.out _ _ _ (by rw [hA]; simp only [putF]; kernel_rfl) (Below.refl _ _) rfl
    · intro K us W hK0 hB hd
      have hK := hid hK0; clear hK0
      have HBW := hid hB
      have hsW := hB.size
      have GB := hid (HB0.out.trans (hB.mono HB0.out.size))
      have e0 : us 0 = .pointer (some ⟨w.heap.size, 0, none⟩) := hd ⟨0, Ground.data⟩ (by simp) rfl
      clear hd
      have G0 := hid (heap_still hB F0.out)
      have c0 : W.cell? ⟨w.heap.size, 0, none⟩ = some (.bool s1) := (cell_row (j := 0) G0.out).trans rfl
      have c1 : W.cell? ⟨w.heap.size, 1, none⟩ = some (.slice a1 p1 ca1) := (cell_row (j := 1) G0.out).trans rfl
      simp only [putF]
      rw [hA, e0]
      go_frame
      go_wp2_with fail
      exact hK.out _ _ _ (by rw [hA]; simp only [putF]; rw [e0]; kernel_rfl) (Below.refl _ _) rfl
    · intro K us W hK0 hB hd
      have hK := hid hK0; clear hK0
      have HBW := hid hB
      have hsW := hB.size
      have GB := hid (HB0.out.trans (hB.mono HB0.out.size))
      clear hd
      simp only [putF]
      rw [hA]
      go_frame
      go_wp2_with fail
      exact hK.out _ _ _ (by rw [hA]; simp only [putF]; kernel_rfl) (Below.refl _ _) rfl
    · intro K us W hK0 hB hd
      have hK := hid hK0; clear hK0
      have HBW := hid hB
      have hsW := hB.size
      have GB := hid (HB0.out.trans (hB.mono HB0.out.size))
      have e2 : us 2 = .pointer (some ⟨w.heap.size + 1, 2, none⟩) := hd ⟨2, Ground.data⟩ (by simp) rfl
      clear hd
      have G0 := hid (heap_still hB F1.out)
      have c0 : W.cell? ⟨w.heap.size + 1, 2, none⟩ = some (.slice b2 r2 cb2) := (cell_row (j := 2) G0.out).trans rfl
      simp only [putF]
      rw [hA, e2]
      go_frame
      go_wp2_with fail
      exact hK.out _ _ _ (by rw [hA]; simp only [putF]; rw [e2]; kernel_rfl) (Below.refl _ _) rfl
    · intro K us W hK0 hB hd
      have hK := hid hK0; clear hK0
      have HBW := hid hB
      have hsW := hB.size
      have GB := hid (HB0.out.trans (hB.mono HB0.out.size))
      have e3 : us 3 = .slice b2 r2 cb2 := hd ⟨3, Ground.data⟩ (by simp) rfl
      clear hd
      simp only [putF]
      rw [hA, e3]
      go_frame
      go_wp2_with fail
      exact hK.out _ _ _ (by rw [hA]; simp only [putF]; rw [e3]; kernel_rfl) (Below.refl _ _) rfl
    · intro K us W hK0 hB hd
      have hK := hid hK0; clear hK0
      have HBW := hid hB
      have hsW := hB.size
      have GB := hid (HB0.out.trans (hB.mono HB0.out.size))
      have e1 : us 1 = .agg #[.bool s1, .slice a1 p1 ca1] := hd ⟨1, Ground.data⟩ (by simp) rfl
      have e4 : us 4 = .agg #[.bool false, .slice b2 r2 cb2] := hd ⟨4, Ground.data⟩ (by simp) rfl
      clear hd
      simp only [putF]
      rw [hA, e1, e4]
      go_frame
      go_wp2_with fail
      refine (HIM1.out W (HI1.out W GB.out) (HJ2.out W GB.out)).mono ?_
      rintro r W' ⟨⟨v, rfl, hv⟩, hb⟩
      go_wp2_with fail
      exact hK.out _ _ _ (by rw [hA]; simp only [putF]; rw [e1, e4]; kernel_rfl) hb hv
    · intro K us W hK0 hB hd
      have hK := hid hK0; clear hK0
      have HBW := hid hB
      have hsW := hB.size
      have GB := hid (HB0.out.trans (hB.mono HB0.out.size))
      clear hd
      simp only [putF]
      rw [hA]
      go_frame
      go_wp2_with fail
      exact hK.out _ _ _ (by rw [hA]; simp only [putF]; kernel_rfl) (Below.refl _ _) rfl
    · intro K us W hK0 hB hd
      have hK := hid hK0; clear hK0
      have HBW := hid hB
      have hsW := hB.size
      have GB := hid (HB0.out.trans (hB.mono HB0.out.size))
      have e6 : us 6 = .pointer (some ⟨w.heap.size + 1, 0, none⟩) := hd ⟨6, Ground.data⟩ (by simp) rfl
      clear hd
      have G0 := hid (heap_still hB F1.out)
      have c0 : W.cell? ⟨w.heap.size + 1, 0, none⟩ = some (.bool s2) := (cell_row (j := 0) G0.out).trans rfl
      have c1 : W.cell? ⟨w.heap.size + 1, 1, none⟩ = some (.slice a2 p2 ca2) := (cell_row (j := 1) G0.out).trans rfl
      simp only [putF]
      rw [hA, e6]
      go_frame
      go_wp2_with fail
      exact hK.out _ _ _ (by rw [hA]; simp only [putF]; rw [e6]; kernel_rfl) (Below.refl _ _) rfl
    · intro K us W hK0 hB hd
      have hK := hid hK0; clear hK0
      have HBW := hid hB
      have hsW := hB.size
      have GB := hid (HB0.out.trans (hB.mono HB0.out.size))
      clear hd
      simp only [putF]
      rw [hA]
      go_frame
      go_wp2_with fail
      exact hK.out _ _ _ (by rw [hA]; simp only [putF]; kernel_rfl) (Below.refl _ _) rfl
    · intro K us W hK0 hB hd
      have hK := hid hK0; clear hK0
      have HBW := hid hB
      have hsW := hB.size
      have GB := hid (HB0.out.trans (hB.mono HB0.out.size))
      have e8 : us 8 = .pointer (some ⟨w.heap.size, 2, none⟩) := hd ⟨8, Ground.data⟩ (by simp) rfl
      clear hd
      have G0 := hid (heap_still hB F0.out)
      have c0 : W.cell? ⟨w.heap.size, 2, none⟩ = some (.slice b1 r1 cb1) := (cell_row (j := 2) G0.out).trans rfl
      simp only [putF]
      rw [hA, e8]
      go_frame
      go_wp2_with fail
      exact hK.out _ _ _ (by rw [hA]; simp only [putF]; rw [e8]; kernel_rfl) (Below.refl _ _) rfl
    · intro K us W hK0 hB hd
      have hK := hid hK0; clear hK0
      have HBW := hid hB
      have hsW := hB.size
      have GB := hid (HB0.out.trans (hB.mono HB0.out.size))
      have e9 : us 9 = .slice b1 r1 cb1 := hd ⟨9, Ground.data⟩ (by simp) rfl
      clear hd
      simp only [putF]
      rw [hA, e9]
      go_frame
      go_wp2_with fail
      exact hK.out _ _ _ (by rw [hA]; simp only [putF]; rw [e9]; kernel_rfl) (Below.refl _ _) rfl
    · intro K us W hK0 hB hd
      have hK := hid hK0; clear hK0
      have HBW := hid hB
      have hsW := hB.size
      have GB := hid (HB0.out.trans (hB.mono HB0.out.size))
      have e7 : us 7 = .agg #[.bool s2, .slice a2 p2 ca2] := hd ⟨7, Ground.data⟩ (by simp) rfl
      have e10 : us 10 = .agg #[.bool false, .slice b1 r1 cb1] := hd ⟨10, Ground.data⟩ (by simp) rfl
      clear hd
      simp only [putF]
      rw [hA, e7, e10]
      go_frame
      go_wp2_with fail
      refine (HIM2.out W (HI2.out W GB.out) (HJ1.out W GB.out)).mono ?_
      rintro r W' ⟨⟨v, rfl, hv⟩, hb⟩
      go_wp2_with fail
      exact hK.out _ _ _ (by rw [hA]; simp only [putF]; rw [e7, e10]; kernel_rfl) hb hv
    · intro K us W hK0 hB hd
      have hK := hid hK0; clear hK0
      have HBW := hid hB
      have hsW := hB.size
      have GB := hid (HB0.out.trans (hB.mono HB0.out.size))
      have hd5 : (fun W v => IntAt W v z1 (k + k)) W (us 5) := hd ⟨5, Ground.data⟩ (by simp) rfl
      obtain ⟨cs5, e5, hcs5, hco5⟩ := hd5.cells
      rw [e5] at hd5
      have HH5 := hid hd5
      clear hd5
      have hd11 : (fun W v => IntAt W v z2 (k + k)) W (us 11) := hd ⟨11, Ground.data⟩ (by simp) rfl
      obtain ⟨cs11, e11, hcs11, hco11⟩ := hd11.cells
      rw [e11] at hd11
      have HH11 := hid hd11
      clear hd11
      clear hd
      simp only [putF]
      rw [hA, e5, e11]
      go_frame
      go_wp2_with fail
      refine (HIA.out W _ _ HH5.out HH11.out).mono ?_
      rintro r W' ⟨⟨v, rfl, hv⟩, hb⟩
      go_wp2_with fail
      exact hK.out _ _ _ (by rw [hA]; simp only [putF]; rw [e5, e11]; kernel_rfl) hb (hv.wide HKK.out)
    · intro K us W hK0 hB hd
      have hK := hid hK0; clear hK0
      have HBW := hid hB
      have hsW := hB.size
      have GB := hid (HB0.out.trans (hB.mono HB0.out.size))
      clear hd
      simp only [putF]
      rw [hA]
      go_frame
      go_wp2_with fail
      exact hK.out _ _ _ (by rw [hA]; simp only [putF]; kernel_rfl) (Below.refl _ _) rfl
    · intro K us W hK0 hB hd
      have hK := hid hK0; clear hK0
      have HBW := hid hB
      have hsW := hB.size
      have GB := hid (HB0.out.trans (hB.mono HB0.out.size))
      have e13 : us 13 = .pointer (some ⟨w.heap.size, 2, none⟩) := hd ⟨13, Ground.data⟩ (by simp) rfl
      clear hd
      have G0 := hid (heap_still hB F0.out)
      have c0 : W.cell? ⟨w.heap.size, 2, none⟩ = some (.slice b1 r1 cb1) := (cell_row (j := 2) G0.out).trans rfl
      simp only [putF]
      rw [hA, e13]
      go_frame
      go_wp2_with fail
      exact hK.out _ _ _ (by rw [hA]; simp only [putF]; rw [e13]; kernel_rfl) (Below.refl _ _) rfl
    · intro K us W hK0 hB hd
      have hK := hid hK0; clear hK0
      have HBW := hid hB
      have hsW := hB.size
      have GB := hid (HB0.out.trans (hB.mono HB0.out.size))
      clear hd
      simp only [putF]
      rw [hA]
      go_frame
      go_wp2_with fail
      exact hK.out _ _ _ (by rw [hA]; simp only [putF]; kernel_rfl) (Below.refl _ _) rfl
    · intro K us W hK0 hB hd
      have hK := hid hK0; clear hK0
      have HBW := hid hB
      have hsW := hB.size
      have GB := hid (HB0.out.trans (hB.mono HB0.out.size))
      have e15 : us 15 = .pointer (some ⟨w.heap.size + 1, 2, none⟩) := hd ⟨15, Ground.data⟩ (by simp) rfl
      clear hd
      have G0 := hid (heap_still hB F1.out)
      have c0 : W.cell? ⟨w.heap.size + 1, 2, none⟩ = some (.slice b2 r2 cb2) := (cell_row (j := 2) G0.out).trans rfl
      simp only [putF]
      rw [hA, e15]
      go_frame
      go_wp2_with fail
      exact hK.out _ _ _ (by rw [hA]; simp only [putF]; rw [e15]; kernel_rfl) (Below.refl _ _) rfl
    · intro K us W hK0 hB hd
      have hK := hid hK0; clear hK0
      have HBW := hid hB
      have hsW := hB.size
      have GB := hid (HB0.out.trans (hB.mono HB0.out.size))
      have e14 : us 14 = .slice b1 r1 cb1 := hd ⟨14, Ground.data⟩ (by simp) rfl
      have e16 : us 16 = .slice b2 r2 cb2 := hd ⟨16, Ground.data⟩ (by simp) rfl
      clear hd
      simp only [putF]
      rw [hA, e14, e16]
      go_frame
      go_wp2_with fail
      refine (HDM.out W (HD1.out.grow GB.out) (HD2.out.grow GB.out)).mono ?_
      rintro r W' ⟨⟨v, rfl, hv⟩, hb⟩
      go_wp2_with fail
      exact hK.out _ _ _ (by rw [hA]; simp only [putF]; rw [e14, e16]; kernel_rfl) hb hv.at
    · intro K us W hK0 hB hd
      have hK := hid hK0; clear hK0
      have HBW := hid hB
      have hsW := hB.size
      have GB := hid (HB0.out.trans (hB.mono HB0.out.size))
      have hd17 : (fun W v => NatAt W v dd) W (us 17) := hd ⟨17, Ground.data⟩ (by simp) rfl
      obtain ⟨al17, cl17, e17, _, _⟩ := NatAt.open hd17
      rw [e17] at hd17
      have HH17 := hid hd17
      clear hd17
      generalize (natL dd).length = len17 at *
      clear hd
      simp only [putF]
      rw [hA, e17]
      go_frame
      go_wp2_with fail
      exact hK.out _ _ _ (by rw [hA]; simp only [putF]; rw [e17]; kernel_rfl) (Below.refl _ _) (⟨_, by rw [nat_sign], by rw [Int.natAbs_natCast]; exact HH17.out, by rw [Int.natAbs_natCast]; exact HKD.out⟩)
    · intro K us W hK0 hB hd
      have hK := hid hK0; clear hK0
      have HBW := hid hB
      have hsW := hB.size
      have GB := hid (HB0.out.trans (hB.mono HB0.out.size))
      have hd12 : (fun W v => IntAt W v (z1 + z2) (4 * k + 1)) W (us 12) := hd ⟨12, Ground.data⟩ (by simp) rfl
      obtain ⟨cs12, e12, hcs12, hco12⟩ := hd12.cells
      rw [e12] at hd12
      have HH12 := hid hd12
      clear hd12
      have hd18 : (fun W v => IntAt W v (dd : Int) (4 * k + 1)) W (us 18) := hd ⟨18, Ground.data⟩ (by simp) rfl
      obtain ⟨cs18, e18, hcs18, hco18⟩ := hd18.cells
      rw [e18] at hd18
      have HH18 := hid hd18
      clear hd18
      clear hd
      simp only [putF]
      rw [hA, e12, e18]
      go_frame
      go_wp2_with fail
      refine (HFR.out W _ _ HH12.out HH18.out).mono ?_
      rintro r W' ⟨⟨v, rfl, hv⟩, hb⟩
      go_wp2_with fail
      exact hK.out _ _ _ (by rw [hA]; simp only [putF]; rw [e12, e18]; kernel_rfl) hb hv
  intro K us W1 hK0 hB hp
  have hK := hid hK0
  clear hK0
  have hd19 : (fun W v => QAt W v q (4 * k + 1)) W1 (us 19) := hp 19 (by decide)
  obtain ⟨cs19, e19, hcs19, hco19⟩ := hd19.cells
  rw [e19] at hd19
  have HH19 := hid hd19
  clear hd19
  have HB1 := hid (HB0.out.trans (hB.mono HB0.out.size))
  have HSW1 := hid (fun n x => @heap_still _ _ n x hB)
  have hzW1 := hB.size
  have hbW1 := hid hB
  clear hp
  simp only [putF]
  rw [hA, e19]
  skip
  go_frame
  go_wp2_with (refine wpList_store_at rfl 35 (.tmp 4) (.tmp 24) rfl rfl rfl (HSW1.out _ _ F2.out) size35 hcs19 rfl hco19 ?_)
  refine hK.out undef _ _ (by rw [hA]; simp only [putF]; rw [e19]; kernel_rfl) ?_
  clear hK hB hA e19
  go_wp2_with fail
  refine bodyPost_ret (results_at1 rfl rfl (setRow_heap _ _ _ _ _ _ (HSW1.out _ _ F2.out)) Try.underlying35 rfl size35 hcs19) rfl ?_
  exact ⟨⟨_, rfl, HH19.out.row (HSW1.out _ _ F2.out) (by decide)⟩, below_setRow HB1.out (by omega) _⟩

set_option maxRecDepth 100000 in
set_option maxHeartbeats 1600000 in
theorem qsub_any (x y : Rat) (k : Nat) (va vb : Value) (w : World) (ha : QAt w va x k) (hb : QAt w vb y k) (hk : k ≤ 5000) :
    Calls Try.prog 83 #[va, vb] w fun r w' => (∃ v, r = .returned v ∧ QAt w' v (x - y) (4 * k + 1)) ∧ Below w.heap.size w w' := by
  have HM := hid (fun W v h => qminus_any y k v W h)
  have HA := hid (fun W v v' h h' => qadd_any x (-y) k v v' W h h' hk)
  rw [← Rat.sub_eq_add_neg] at HA
  have HX := hid ha
  have HY := hid hb
  obtain ⟨n1, d1, rfl, hn1, hd1, _, _⟩ := ha
  obtain ⟨n2, d2, rfl, hn2, hd2, _, _⟩ := hb
  obtain ⟨a1, ca1, rfl, _, _⟩ := hn1.open
  obtain ⟨b1, cb1, rfl, _, _⟩ := hd1.open
  obtain ⟨a2, ca2, rfl, _, _⟩ := hn2.open
  obtain ⟨b2, cb2, rfl, _, _⟩ := hd2.open
  generalize decide (x.num < 0) = s1 at *
  generalize decide (y.num < 0) = s2 at *
  generalize (natL x.num.natAbs).length = p1 at *
  generalize (natL y.num.natAbs).length = p2 at *
  generalize (natL x.den).length = r1 at *
  generalize (natL y.den).length = r2 at *
  clear hn1 hd1 hn2 hd2 hk
  go_enter Try.func83, Try.ntmps83
  go_wp2_with fail
  refine gen_world (fun W0 hW0 => ?_)
  have HB0 := hid (show Below w.heap.size w W0 by rw [hW0]; (repeat' (first | (with_reducible exact Below.refl _ _) | (with_reducible assumption) | (with_reducible refine Below.alloc ?_ ?_ _) | (with_reducible refine Below.drew ?_) | (with_reducible refine below_drewN ?_ _) | (with_reducible refine Below.setCell ?_ ?_ _) | (with_reducible refine below_setRow ?_ ?_ _) | go_size)))
  have F0 := hid (show W0.heap[w.heap.size]? = some (.cells #[.bool s1, .slice a1 p1 ca1, .slice b1 r1 cb1] 35) by rw [hW0]; exact (by repeat' (first | (refine heap_alloc_at _ _ _ ?_; (first | rfl | (simp; done) | (simp; omega))) | (refine heap_alloc_past _ _ _ _ ?_))))
  have F1 := hid (show W0.heap[w.heap.size + 1]? = some (.cells #[.bool s2, .slice a2 p2 ca2, .slice b2 r2 cb2] 35) by rw [hW0]; exact (by repeat' (first | (refine heap_alloc_at _ _ _ ?_; (first | rfl | (simp; done) | (simp; omega))) | (refine heap_alloc_past _ _ _ _ ?_))))
  have F2 := hid (show W0.heap[w.heap.size + 1 + 1]? = some (.cells #[.bool false, .slice none 0 0, .slice none 0 0] 35) by rw [hW0]; exact (by repeat' (first | (refine heap_alloc_at _ _ _ ?_; (first | rfl | (simp; done) | (simp; omega))) | (refine heap_alloc_past _ _ _ _ ?_))))
  clear hW0
  refine gen_act (fun A0 hA => ?_)
  refine wp_region_last (by kernel_rfl) (by kernel_rfl) [some 5, some 6, some 7, some 8, none] rfl (by decide) 4 rfl (by kernel_rfl) (by kernel_rfl)
    [IsV (.agg #[.bool s1, .slice a1 p1 ca1, .slice b1 r1 cb1]), IsV (.agg #[.bool s2, .slice a2 p2 ca2, .slice b2 r2 cb2]), fun W v => QAt W v (-y) k, fun W v => QAt W v (x - y) (4 * k + 1)]
    ⟨IsV.stb _, IsV.stb _, QAt.stb _ _, QAt.stb _ _, trivial⟩ ?hs1_1_W1 ?hlast_1_W1
  case hs1_1_W1 =>
    refine ⟨?_, ?_, ?_, ?_, trivial⟩
    · intro K us W hK0 hB hd
      have hK := hid hK0; clear hK0
      have HBW := hid hB
      have hsW := hB.size
      have GB := hid (HB0.out.trans (hB.mono HB0.out.size))
      clear hd
      have G0 := hid (heap_still hB F0.out)
      have c0 : W.cell? ⟨w.heap.size, 0, none⟩ = some (.bool s1) := (cell_row (j := 0) G0.out).trans rfl
      have c1 : W.cell? ⟨w.heap.size, 1, none⟩ = some (.slice a1 p1 ca1) := (cell_row (j := 1) G0.out).trans rfl
      have c2 : W.cell? ⟨w.heap.size, 2, none⟩ = some (.slice b1 r1 cb1) := (cell_row (j := 2) G0.out).trans rfl
      simp only [putF]
      rw [hA]
      go_frame
      go_wp2_with fail
      exact hK.out _ _ _ (by rw [hA]; simp only [putF]; kernel_rfl) (Below.refl _ _) rfl
    · intro K us W hK0 hB hd
      have hK := hid hK0; clear hK0
      have HBW := hid hB
      have hsW := hB.size
      have GB := hid (HB0.out.trans (hB.mono HB0.out.size))
      clear hd
      have G0 := hid (heap_still hB F1.out)
      have c0 : W.cell? ⟨w.heap.size + 1, 0, none⟩ = some (.bool s2) := (cell_row (j := 0) G0.out).trans rfl
      have c1 : W.cell? ⟨w.heap.size + 1, 1, none⟩ = some (.slice a2 p2 ca2) := (cell_row (j := 1) G0.out).trans rfl
      have c2 : W.cell? ⟨w.heap.size + 1, 2, none⟩ = some (.slice b2 r2 cb2) := (cell_row (j := 2) G0.out).trans rfl
      simp only [putF]
      rw [hA]
      go_frame
      go_wp2_with fail
      exact hK.out _ _ _ (by rw [hA]; simp only [putF]; kernel_rfl) (Below.refl _ _) rfl
    · intro K us W hK0 hB hd
      have hK := hid hK0; clear hK0
      have HBW := hid hB
      have hsW := hB.size
      have GB := hid (HB0.out.trans (hB.mono HB0.out.size))
      have e1 : us 1 = .agg #[.bool s2, .slice a2 p2 ca2, .slice b2 r2 cb2] := hd ⟨1, Ground.data⟩ (by simp) rfl
      clear hd
      simp only [putF]
      rw [hA, e1]
      go_frame
      go_wp2_with fail
      refine (HM.out W _ (HY.out.grow GB.out)).mono ?_
      rintro r W' ⟨⟨v, rfl, hv⟩, hb⟩
      go_wp2_with fail
      exact hK.out _ _ _ (by rw [hA]; simp only [putF]; rw [e1]; kernel_rfl) hb hv
    · intro K us W hK0 hB hd
      have hK := hid hK0; clear hK0
      have HBW := hid hB
      have hsW := hB.size
      have GB := hid (HB0.out.trans (hB.mono HB0.out.size))
      have e0 : us 0 = .agg #[.bool s1, .slice a1 p1 ca1, .slice b1 r1 cb1] := hd ⟨0, Ground.data⟩ (by simp) rfl
      have hd2 : (fun W v => QAt W v (-y) k) W (us 2) := hd ⟨2, Ground.data⟩ (by simp) rfl
      obtain ⟨cs2, e2, hcs2, hco2⟩ := hd2.cells
      rw [e2] at hd2
      have HH2 := hid hd2
      clear hd2
      clear hd
      simp only [putF]
      rw [hA, e0, e2]
      go_frame
      go_wp2_with fail
      refine (HA.out W _ _ (HX.out.grow GB.out) HH2.out).mono ?_
      rintro r W' ⟨⟨v, rfl, hv⟩, hb⟩
      go_wp2_with fail
      exact hK.out _ _ _ (by rw [hA]; simp only [putF]; rw [e0, e2]; kernel_rfl) hb hv
  intro K us W1 hK0 hB hp
  have hK := hid hK0
  clear hK0
  have hd3 : (fun W v => QAt W v (x - y) (4 * k + 1)) W1 (us 3) := hp 3 (by decide)
  obtain ⟨cs3, e3, hcs3, hco3⟩ := hd3.cells
  rw [e3] at hd3
  have HH3 := hid hd3
  clear hd3
  have HB1 := hid (HB0.out.trans (hB.mono HB0.out.size))
  have HSW1 := hid (fun n x => @heap_still _ _ n x hB)
  have hzW1 := hB.size
  have hbW1 := hid hB
  clear hp
  simp only [putF]
  rw [hA, e3]
  skip
  go_frame
  go_wp2_with (refine wpList_store_at rfl 35 (.tmp 4) (.tmp 8) rfl rfl rfl (HSW1.out _ _ F2.out) size35 hcs3 rfl hco3 ?_)
  refine hK.out undef _ _ (by rw [hA]; simp only [putF]; rw [e3]; kernel_rfl) ?_
  clear hK hB hA e3
  go_wp2_with fail
  refine bodyPost_ret (results_at1 rfl rfl (setRow_heap _ _ _ _ _ _ (HSW1.out _ _ F2.out)) Try.underlying35 rfl size35 hcs3) rfl ?_
  exact ⟨⟨_, rfl, HH3.out.row (HSW1.out _ _ F2.out) (by decide)⟩, below_setRow HB1.out (by omega) _⟩

set_option maxRecDepth 100000 in
theorem isign_any (a : Int) (k : Nat) (va : Value) (w : World) (ha : IntAt w va a k) :
    Calls Try.prog 84 #[va] w fun r w' => r = .returned (.int .i64 a.sign) ∧ Below w.heap.size w w' := by
  obtain ⟨lx, rfl, hna, hla⟩ := ha
  obtain ⟨la, ca, rfl, _, _⟩ := NatAt.open hna
  clear hna hla
  rcases Int.lt_trichotomy a 0 with h | h | h
  · have hp : 0 < (natL a.natAbs).length := length_pos (by omega)
    have hs := Int.sign_eq_neg_one_of_neg h
    rw [hs, show decide (a < 0) = true by simp [h]]
    generalize (natL a.natAbs).length = p at *
    clear h hs
    go_enter Try.func84, Try.ntmps84
    go_wp2_with fail
    go_ret
    exact ⟨rfl, by (repeat' (first | (with_reducible exact Below.refl _ _) | (with_reducible assumption) | (with_reducible refine Below.alloc ?_ ?_ _) | (with_reducible refine Below.drew ?_) | (with_reducible refine below_drewN ?_ _) | (with_reducible refine Below.setCell ?_ ?_ _) | (with_reducible refine below_setRow ?_ ?_ _) | go_size))⟩
  · subst h
    have hp : (natL (Int.natAbs 0)).length = 0 := by show (natL 0).length = 0; rw [natL_zero]; rfl
    rw [hp]
    go_enter Try.func84, Try.ntmps84
    go_wp2_with fail
    go_ret
    exact ⟨rfl, by (repeat' (first | (with_reducible exact Below.refl _ _) | (with_reducible assumption) | (with_reducible refine Below.alloc ?_ ?_ _) | (with_reducible refine Below.drew ?_) | (with_reducible refine below_drewN ?_ _) | (with_reducible refine Below.setCell ?_ ?_ _) | (with_reducible refine below_setRow ?_ ?_ _) | go_size))⟩
  · have hp : 0 < (natL a.natAbs).length := length_pos (by omega)
    have hs := Int.sign_eq_one_of_pos h
    rw [hs, show decide (a < 0) = false by simp; omega]
    generalize (natL a.natAbs).length = p at *
    clear h hs
    go_enter Try.func84, Try.ntmps84
    go_wp2_with fail
    go_ret
    exact ⟨rfl, by (repeat' (first | (with_reducible exact Below.refl _ _) | (with_reducible assumption) | (with_reducible refine Below.alloc ?_ ?_ _) | (with_reducible refine Below.drew ?_) | (with_reducible refine below_drewN ?_ _) | (with_reducible refine Below.setCell ?_ ?_ _) | (with_reducible refine below_setRow ?_ ?_ _) | go_size))⟩
theorem field35_0 (s : Bool) (al : Option Addr) (nl cl : Nat) (ad : Option Addr) (nd cd : Nat) (w : World) : (Instr.field 35 (.agg #[.bool s, .slice al nl cl, .slice ad nd cd]) 0).run Try.prog w = .ok (.agg #[.bool s, .slice al nl cl]) w := by kernel_rfl
/-- how two rational numbers compare -/
def cmpQ (x y : Rat) : Int := (x - y).num.sign
theorem QAt.num {W : World} {v : Value} {q : Rat} {k : Nat} (h : QAt W v q k) : ∃ s al nl cl ad nd cd, v = .agg #[.bool s, .slice al nl cl, .slice ad nd cd] ∧ IntAt W (.agg #[.bool s, .slice al nl cl]) q.num k := by
  obtain ⟨ln, ld, rfl, hn, hd, hkn, hkd⟩ := h
  obtain ⟨a, ca, rfl, _, _⟩ := hn.open
  obtain ⟨b, cb, rfl, _, _⟩ := hd.open
  exact ⟨_, _, _, _, _, _, _, rfl, ⟨_, rfl, hn, hkn⟩⟩
set_option maxRecDepth 100000 in
set_option maxHeartbeats 1600000 in
theorem qcmp_any (x y : Rat) (k : Nat) (va vb : Value) (w : World) (ha : QAt w va x k) (hb : QAt w vb y k) (hk : k ≤ 5000) :
    Calls Try.prog 29 #[va, vb] w fun r w' => r = .returned (.int .i64 (cmpQ x y)) ∧ Below w.heap.size w w' := by
  have HSB := hid (fun W v v' h h' => qsub_any x y k v v' W h h' hk)
  have HSG := hid (fun W v h => isign_any (x - y).num (4 * k + 1) v W h)
  have HX := hid ha
  have HY := hid hb
  have HC := hid (show cmpQ x y = (x - y).num.sign from rfl)
  rw [HC.out]
  generalize (x - y).num.sign = sg at *
  obtain ⟨n1, d1, rfl, hn1, hd1, _, _⟩ := ha
  obtain ⟨n2, d2, rfl, hn2, hd2, _, _⟩ := hb
  obtain ⟨a1, ca1, rfl, _, _⟩ := hn1.open
  obtain ⟨b1, cb1, rfl, _, _⟩ := hd1.open
  obtain ⟨a2, ca2, rfl, _, _⟩ := hn2.open
  obtain ⟨b2, cb2, rfl, _, _⟩ := hd2.open
  generalize decide (x.num < 0) = s1 at *
  generalize decide (y.num < 0) = s2 at *
  generalize (natL x.num.natAbs).length = p1 at *
  generalize (natL y.num.natAbs).length = p2 at *
  generalize (natL x.den).length = r1 at *
  generalize (natL y.den).length = r2 at *
  clear hn1 hd1 hn2 hd2 hk
  go_enter Try.func29, Try.ntmps29
  go_wp2_with fail
  refine (HSB.out _ _ _ (HX.out.grow (by (repeat' (first | (with_reducible exact Below.refl _ _) | (with_reducible assumption) | (with_reducible refine Below.alloc ?_ ?_ _) | (with_reducible refine Below.drew ?_) | (with_reducible refine below_drewN ?_ _) | (with_reducible refine Below.setCell ?_ ?_ _) | (with_reducible refine below_setRow ?_ ?_ _) | go_size)))) (HY.out.grow (by (repeat' (first | (with_reducible exact Below.refl _ _) | (with_reducible assumption) | (with_reducible refine Below.alloc ?_ ?_ _) | (with_reducible refine Below.drew ?_) | (with_reducible refine below_drewN ?_ _) | (with_reducible refine Below.setCell ?_ ?_ _) | (with_reducible refine below_setRow ?_ ?_ _) | go_size))))).mono ?_
  rintro r w1 ⟨⟨v, rfl, hv⟩, hb⟩
  have HB1 := hid ((by refine Below.trans ?_ (hb.mono ?_); (focus ((repeat' (first | (with_reducible exact Below.refl _ _) | (with_reducible assumption) | (with_reducible refine Below.alloc ?_ ?_ _) | (with_reducible refine Below.drew ?_) | (with_reducible refine below_drewN ?_ _) | (with_reducible refine Below.setCell ?_ ?_ _) | (with_reducible refine below_setRow ?_ ?_ _) | go_size)); done)); (focus (first | (simp; done) | (simp; omega)))) : Below w.heap.size w w1)
  obtain ⟨s, al, nl, cl, ad, nd, cd, rfl, hi⟩ := hv.num
  have HI := hid hi
  clear hv hi hb
  have hfld := fun w => field35_0 s al nl cl ad nd cd w
  go_wp2_with fail
  refine (HSG.out _ _ HI.out).mono ?_
  rintro r w2 ⟨rfl, hb⟩
  have HB2 := hid (HB1.out.trans (hb.mono HB1.out.size))
  clear hb
  go_wp2_with fail
  go_ret
  exact ⟨rfl, HB2.out⟩
end Go.Proofs.Yteoikaedpgianaa
