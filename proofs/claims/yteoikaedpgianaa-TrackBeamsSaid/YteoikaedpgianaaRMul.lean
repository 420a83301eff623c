/- The reference's rational numbers: products. -/
import Derived.Test.YteoikaedpgianaaRCeil
import Derived.Test.YteoikaedpgianaaExt3
namespace Go.Proofs.Yteoikaedpgianaa
open Go.RowKit Limb

set_option maxRecDepth 100000 in
set_option maxHeartbeats 1600000 in
theorem qmul_any (x y : Rat) (k : Nat) (va vb : Value) (w : World) (ha : QAt w va x k) (hb : QAt w vb y k) (hk : k ≤ 10000) :
    Calls Try.prog 28 #[va, vb] w fun r w' => (∃ v, r = .returned v ∧ QAt w' v (x * y) (k + k)) ∧ Below w.heap.size w w' := by
  obtain ⟨n1, d1, rfl, hn1, hd1, hkn1, hkd1⟩ := ha
  obtain ⟨n2, d2, rfl, hn2, hd2, hkn2, hkd2⟩ := hb
  obtain ⟨a1, ca1, rfl, _, _⟩ := hn1.open
  obtain ⟨b1, cb1, rfl, _, _⟩ := hd1.open
  obtain ⟨a2, ca2, rfl, _, _⟩ := hn2.open
  obtain ⟨b2, cb2, rfl, _, _⟩ := hd2.open
  have HQ := hid (Rat.mul_def' x y)
  obtain ⟨z, hz⟩ : ∃ z, z = x.num * y.num := ⟨_, rfl⟩
  obtain ⟨dd, hdd⟩ : ∃ dd, dd = x.den * y.den := ⟨_, rfl⟩
  rw [← hz, ← hdd] at HQ
  obtain ⟨q, hq⟩ : ∃ q, q = mkRat z dd := ⟨_, rfl⟩
  rw [← hq] at HQ
  have HIM := hid (fun W h h' => imul_any x.num y.num k k (.agg #[.bool (decide (x.num < 0)), .slice a1 (natL x.num.natAbs).length ca1]) (.agg #[.bool (decide (y.num < 0)), .slice a2 (natL y.num.natAbs).length ca2]) W h h' (by omega) (by omega))
  have HDM := hid (fun W h h' => mul_any x.den y.den (.slice b1 (natL x.den).length cb1) (.slice b2 (natL y.den).length cb2) W h h' (hkd1.wide (by omega)).le (hkd2.wide (by omega)).le)
  have HKD := hid (show LenLe dd (k + k) by rw [hdd]; exact natL_mul hkd1 hkd2)
  have HFR := hid (fun W v v' h h' => frac_any z dd (k + k) v v' W h h' (by omega) (by rw [hdd]; exact Nat.mul_pos (Nat.pos_of_ne_zero x.den_nz) (Nat.pos_of_ne_zero y.den_nz)))
  rw [← hq] at HFR
  rw [← hz] at HIM
  rw [← hdd] at HDM
  have HI1 := hid (show ∀ W, Below w.heap.size w W → IntAt W (.agg #[.bool (decide (x.num < 0)), .slice a1 (natL x.num.natAbs).length ca1]) x.num k from fun W hW => ⟨_, rfl, hn1.grow hW, hkn1⟩)
  have HI2 := hid (show ∀ W, Below w.heap.size w W → IntAt W (.agg #[.bool (decide (y.num < 0)), .slice a2 (natL y.num.natAbs).length ca2]) y.num k from fun W hW => ⟨_, rfl, hn2.grow hW, hkn2⟩)
  have HD1 := hid hd1
  have HD2 := hid hd2
  rw [HQ.out]
  generalize decide (x.num < 0) = s1 at *
  generalize decide (y.num < 0) = s2 at *
  generalize (natL x.num.natAbs).length = p1 at *
  generalize (natL y.num.natAbs).length = p2 at *
  generalize (natL x.den).length = r1 at *
  generalize (natL y.den).length = r2 at *
  clear hn1 hd1 hkn1 hkd1 hn2 hd2 hkn2 hkd2 hz hdd hq hk
  go_enter Try.func28, Try.ntmps28
  go_wp2_with fail
  refine gen_world (fun W0 hW0 => ?_)
  have HB0 := hid (show Below w.heap.size w W0 by rw [hW0]; (repeat' (first | (with_reducible exact Below.refl _ _) | (with_reducible assumption) | (with_reducible refine Below.alloc ?_ ?_ _) | (with_reducible refine Below.drew ?_) | (with_reducible refine below_drewN ?_ _) | (with_reducible refine Below.setCell ?_ ?_ _) | (with_reducible refine below_setRow ?_ ?_ _) | go_size)))
  have F0 := hid (show W0.heap[w.heap.size]? = some (.cells #[.bool s1, .slice a1 p1 ca1, .slice b1 r1 cb1] 35) by rw [hW0]; exact (by repeat' (first | (refine heap_alloc_at _ _ _ ?_; (first | rfl | (simp; done) | (simp; omega))) | (refine heap_alloc_past _ _ _ _ ?_))))
  have F1 := hid (show W0.heap[w.heap.size + 1]? = some (.cells #[.bool s2, .slice a2 p2 ca2, .slice b2 r2 cb2] 35) by rw [hW0]; exact (by repeat' (first | (refine heap_alloc_at _ _ _ ?_; (first | rfl | (simp; done) | (simp; omega))) | (refine heap_alloc_past _ _ _ _ ?_))))
  have F2 := hid (show W0.heap[w.heap.size + 1 + 1]? = some (.cells #[.bool false, .slice none 0 0, .slice none 0 0] 35) by rw [hW0]; exact (by repeat' (first | (refine heap_alloc_at _ _ _ ?_; (first | rfl | (simp; done) | (simp; omega))) | (refine heap_alloc_past _ _ _ _ ?_))))
  clear hW0
  refine gen_act (fun A0 hA => ?_)
  refine wp_region_two (by kernel_rfl) (by kernel_rfl) [some 5, some 6, some 7, some 8, some 9, some 10, some 11, some 12, some 13, some 14, some 15, some 16, none] rfl (by decide) 12 (by decide) (by kernel_rfl) (by kernel_rfl)
    [IsV (.pointer (some ⟨w.heap.size, 0, none⟩)), IsV (.agg #[.bool s1, .slice a1 p1 ca1]), IsV (.pointer (some ⟨w.heap.size + 1, 0, none⟩)), IsV (.agg #[.bool s2, .slice a2 p2 ca2]), fun W v => IntAt W v z (k + k),
      IsV (.pointer (some ⟨w.heap.size, 2, none⟩)), IsV (.slice b1 r1 cb1), IsV (.pointer (some ⟨w.heap.size + 1, 2, none⟩)), IsV (.slice b2 r2 cb2), fun W v => NatAt W v dd, fun W v => IntAt W v (dd : Int) (k + k), fun W v => QAt W v q (k + k)]
    ⟨IsV.stb _, IsV.stb _, IsV.stb _, IsV.stb _, IntAt.stb _ _, IsV.stb _, IsV.stb _, IsV.stb _, IsV.stb _, NatAt.stb _, IntAt.stb _ _, QAt.stb _ _, trivial⟩
    (fun L us W => (L 12 = false → Below W0.heap.size W0 W ∧ QAt W (us 11) q (k + k)) ∧ (L 12 = true → QFin w (w.heap.size + 1 + 1) q (k + k) W)) ?h12 ?hs1 ?hs2 ?hend (by decide)
  case h12 =>
    intro L us W h1 h2 hB hp
    exact ⟨fun _ => ⟨hB, hp 11 (by decide)⟩, fun h => by rw [h2 12 (by decide) (by decide)] at h; cases h⟩
  case hs1 =>
    refine ⟨?_, ?_, ?_, ?_, ?_, ?_, ?_, ?_, ?_, ?_, ?_, ?_, trivial⟩
    · intro K us W hK0 hB hd
      have hK := hid hK0; clear hK0
      have HBW := hid hB
      have hsW := hB.size
      (try simp [Region.binds] at hd)
      simp only [putF]
      rw [hA]
      go_frame
      go_wp2_with fail
      exact hK.out _ _ _ (by rw [hA]; kernel_rfl) (Below.refl _ _) rfl
    · intro K us W hK0 hB hd
      have hK := hid hK0; clear hK0
      have HBW := hid hB
      have hsW := hB.size
      (try simp [Region.binds] at hd)
      have e0 : us 0 = _ := hd
      have G0 := hid (heap_still hB F0.out)
      have c0 : W.cell? ⟨w.heap.size, 0, none⟩ = some (.bool s1) := (cell_row (j := 0) G0.out).trans rfl
      have c1 : W.cell? ⟨w.heap.size, 1, none⟩ = some (.slice a1 p1 ca1) := (cell_row (j := 1) G0.out).trans rfl
      simp only [putF]
      rw [hA, e0]
      go_frame
      go_wp2_with fail
      exact hK.out _ _ _ (by rw [hA]; simp only [putF]; rw [e0]; kernel_rfl) (Below.refl _ _) rfl
    · intro K us W hK0 hB hd
      have hK := hid hK0; clear hK0
      have HBW := hid hB
      have hsW := hB.size
      (try simp [Region.binds] at hd)
      simp only [putF]
      rw [hA]
      go_frame
      go_wp2_with fail
      exact hK.out _ _ _ (by rw [hA]; kernel_rfl) (Below.refl _ _) rfl
    · intro K us W hK0 hB hd
      have hK := hid hK0; clear hK0
      have HBW := hid hB
      have hsW := hB.size
      (try simp [Region.binds] at hd)
      have e0 : us 2 = _ := hd
      have G0 := hid (heap_still hB F1.out)
      have c0 : W.cell? ⟨w.heap.size + 1, 0, none⟩ = some (.bool s2) := (cell_row (j := 0) G0.out).trans rfl
      have c1 : W.cell? ⟨w.heap.size + 1, 1, none⟩ = some (.slice a2 p2 ca2) := (cell_row (j := 1) G0.out).trans rfl
      simp only [putF]
      rw [hA, e0]
      go_frame
      go_wp2_with fail
      exact hK.out _ _ _ (by rw [hA]; simp only [putF]; rw [e0]; kernel_rfl) (Below.refl _ _) rfl
    · intro K us W hK0 hB hd
      have hK := hid hK0; clear hK0
      have HBW := hid hB
      have hsW := hB.size
      (try simp [Region.binds] at hd)
      have e0 : us 1 = _ := hd.1
      have e1 : us 3 = _ := hd.2
      simp only [putF]
      rw [hA, e0, e1]
      go_frame
      go_wp2_with fail
      refine (HIM.out W (HI1.out W (HB0.out.trans (hB.mono HB0.out.size))) (HI2.out W (HB0.out.trans (hB.mono HB0.out.size)))).mono ?_
      rintro r W' ⟨⟨v, rfl, hv⟩, hb⟩
      go_wp2_with fail
      exact hK.out _ _ _ (by rw [hA]; simp only [putF]; rw [e0, e1]; kernel_rfl) hb hv
    · intro K us W hK0 hB hd
      have hK := hid hK0; clear hK0
      have HBW := hid hB
      have hsW := hB.size
      (try simp [Region.binds] at hd)
      simp only [putF]
      rw [hA]
      go_frame
      go_wp2_with fail
      exact hK.out _ _ _ (by rw [hA]; kernel_rfl) (Below.refl _ _) rfl
    · intro K us W hK0 hB hd
      have hK := hid hK0; clear hK0
      have HBW := hid hB
      have hsW := hB.size
      (try simp [Region.binds] at hd)
      have e0 : us 5 = _ := hd
      have G0 := hid (heap_still hB F0.out)
      have c0 : W.cell? ⟨w.heap.size, 2, none⟩ = some (.slice b1 r1 cb1) := (cell_row (j := 2) G0.out).trans rfl
      simp only [putF]
      rw [hA, e0]
      go_frame
      go_wp2_with fail
      exact hK.out _ _ _ (by rw [hA]; simp only [putF]; rw [e0]; kernel_rfl) (Below.refl _ _) rfl
    · intro K us W hK0 hB hd
      have hK := hid hK0; clear hK0
      have HBW := hid hB
      have hsW := hB.size
      (try simp [Region.binds] at hd)
      simp only [putF]
      rw [hA]
      go_frame
      go_wp2_with fail
      exact hK.out _ _ _ (by rw [hA]; kernel_rfl) (Below.refl _ _) rfl
    · intro K us W hK0 hB hd
      have hK := hid hK0; clear hK0
      have HBW := hid hB
      have hsW := hB.size
      (try simp [Region.binds] at hd)
      have e0 : us 7 = _ := hd
      have G0 := hid (heap_still hB F1.out)
      have c0 : W.cell? ⟨w.heap.size + 1, 2, none⟩ = some (.slice b2 r2 cb2) := (cell_row (j := 2) G0.out).trans rfl
      simp only [putF]
      rw [hA, e0]
      go_frame
      go_wp2_with fail
      exact hK.out _ _ _ (by rw [hA]; simp only [putF]; rw [e0]; kernel_rfl) (Below.refl _ _) rfl
    · intro K us W hK0 hB hd
      have hK := hid hK0; clear hK0
      have HBW := hid hB
      have hsW := hB.size
      (try simp [Region.binds] at hd)
      have e0 : us 6 = _ := hd.1
      have e1 : us 8 = _ := hd.2.1
      simp only [putF]
      rw [hA, e0, e1]
      go_frame
      go_wp2_with fail
      refine (HDM.out W (HD1.out.grow (HB0.out.trans (hB.mono HB0.out.size))) (HD2.out.grow (HB0.out.trans (hB.mono HB0.out.size)))).mono ?_
      rintro r W' ⟨⟨v, rfl, hv⟩, hb⟩
      go_wp2_with fail
      exact hK.out _ _ _ (by rw [hA]; simp only [putF]; rw [e0, e1]; kernel_rfl) hb hv.at
    · intro K us W hK0 hB hd
      have hK := hid hK0; clear hK0
      have HBW := hid hB
      have hsW := hB.size
      (try simp [Region.binds] at hd)
      have hd0 : NatAt W (us 9) dd := hd
      obtain ⟨a9, c9, e0, _, _⟩ := hd0.open
      rw [e0] at hd0
      have HN9 := hid hd0
      generalize hlen9 : (natL dd).length = l9 at *
      clear hlen9 hd hd0
      simp only [putF]
      rw [hA, e0]
      go_frame
      go_wp2_with fail
      exact hK.out _ _ _ (by rw [hA]; simp only [putF]; rw [e0]; kernel_rfl) (Below.refl _ _) ⟨_, by rw [nat_sign], by rw [Int.natAbs_natCast]; exact HN9.out, by rw [Int.natAbs_natCast]; exact HKD.out⟩
    · intro K us W hK0 hB hd
      have hK := hid hK0; clear hK0
      have HBW := hid hB
      have hsW := hB.size
      (try simp [Region.binds] at hd)
      have hd1 : IntAt W (us 4) z (k + k) := hd.1
      have hd2 : IntAt W (us 10) (dd : Int) (k + k) := hd.2.1
      obtain ⟨cs1, e0, _, _⟩ := hd1.cells
      obtain ⟨cs2, e1, _, _⟩ := hd2.cells
      rw [e0] at hd1
      rw [e1] at hd2
      have HH1 := hid hd1
      have HH2 := hid hd2
      clear hd hd1 hd2
      simp only [putF]
      rw [hA, e0, e1]
      go_frame
      go_wp2_with fail
      refine (HFR.out W _ _ HH1.out HH2.out).mono ?_
      rintro r W' ⟨⟨v, rfl, hv⟩, hb⟩
      go_wp2_with fail
      exact hK.out _ _ _ (by rw [hA]; simp only [putF]; rw [e0, e1]; kernel_rfl) hb hv
  case hs2 =>
    refine ⟨?_, trivial⟩
    intro K L us W hK0 hL hd hR
    have hK := hid hK0; clear hK0
    obtain ⟨hB, hq⟩ := hR.1 hL
    have HQ := hid hq
    obtain ⟨cs, e0, hcs, hco⟩ := hq.cells
    have G1 := hid (heap_still hB F2.out)
    have HBW := hid hB
    have hs0 := HB0.out.size
    rw [e0] at HQ
    simp only [putF]
    rw [hA, e0]
    go_frame
    go_wp2_with (refine wpList_store_at rfl 35 (.tmp 4) (.tmp 16) rfl rfl rfl (G1.out) size35 hcs rfl hco ?_)
    refine hK.out undef _ _ (by rw [hA]; simp only [putF]; rw [e0]; kernel_rfl) ⟨fun h => by simp at h, fun _ => ⟨cs, setRow_heap _ _ _ _ _ _ G1.out, HQ.out.row G1.out (by decide), below_setRow (HB0.out.trans (HBW.out.mono hs0)) (by omega) _⟩⟩
  case hend =>
    intro L us W hL hR
    obtain ⟨cs, hh, hq, hb⟩ := hR.2 (hL 12 (by decide))
    obtain ⟨cs', e0, hcs, hco⟩ := hq.cells
    cases e0
    have HQ := hid hq
    have HBW := hid hb
    have HH := hid hh
    clear hq hb hh
    simp only [putF]
    rw [hA]
    go_frame
    go_wp2_with fail
    refine bodyPost_ret (results_at1 rfl rfl HH.out Try.underlying35 rfl size35 hcs) rfl ?_
    exact ⟨⟨_, rfl, HQ.out⟩, HBW.out⟩
end Go.Proofs.Yteoikaedpgianaa
