/- TrackPlaces: every place along the beam at a range within bounds, from a position within bounds, lies in the box, and narrower bounds give a box inside. Every input, no condition. The law's own place within a span: what part returns. Plain: a place along the beam lies in the box, and narrower bounds give a box inside. The law's own walk over a place along the beam, from what the functions return that it calls. TrackPlaces, for whatever shot: the parts joined. -/
import Derived.Test.YteoikaedpgianaaRAdd
import Derived.Test.YteoikaedpgianaaNav
import Derived.Test.YteoikaedpgianaaExt
import Derived.Test.YteoikaedpgianaaLocLaw
import Derived.Test.YteoikaedpgianaaBoxes
import Derived.Test.YteoikaedpgianaaOneCell
import Derived.Test.YteoikaedpgianaaQRow
import Derived.Deep.Light
import Derived.Test.YteoikaedpgianaaLawKit
import Derived.BigFrame
namespace Go.Proofs.Yteoikaedpgianaa
open Go.RowKit

theorem wpList_strip {P : Program} {ops : Array Oper} {Q : Exit → Act → World → Prop} {rest : List Oper} {o : Oper} {a : Act} {w : World} (hw : Region.wanted o (yielded ops a.tmps) = true)
    (h : wpList P ops Q ({ o with guard := none } :: rest) a w) : wpList P ops Q (o :: rest) a w := by
  have e : Region.wanted { o with guard := none } (yielded ops a.tmps) = true := by simp [Region.wanted]
  unfold wpList at h ⊢
  rw [if_pos e] at h
  rw [if_pos hw]
  cases o
  exact h
end Go.Proofs.Yteoikaedpgianaa
namespace Go.Proofs.Yteoikaedpgianaa
open Go.RowKit Limb

/-- the sixteenths of k -/
def sixK (k : Int) : Int := wrap64 ((IntKind.u64.wrap k).tmod 17)
theorem sixK_bd (k : Int) : 0 ≤ sixK k ∧ sixK k ≤ 16 := by
  have h0 : 0 ≤ IntKind.u64.wrap k := by rw [IntKind.wrap_u64]; omega
  unfold sixK
  rw [Int.tmod_eq_emod_of_nonneg h0]
  unfold wrap64
  omega
def partQ (lo hi k : Int) : Rat := (lo : Rat) + ((hi - lo : Int) : Rat) * (k : Rat) / ((16 : Int) : Rat)
set_option maxRecDepth 100000 in
set_option maxHeartbeats 1600000 in
theorem part_any (lo hi k : Int) (w : World) (hlo : -1000000000 ≤ lo ∧ lo ≤ 1000000000) (hhi : -1000000000 ≤ hi ∧ hi ≤ 1000000000) :
    Calls Try.prog 53 #[.agg #[.int .i64 lo, .int .i64 hi], .int .i64 k] w fun r w' => (∃ v, r = .returned v ∧ QAt w' v (partQ lo hi (sixK k)) 65) ∧ Below w.heap.size w w' := by
  have hk := sixK_bd k
  have HWL := hid (fun W => whole_any lo W (by omega))
  have HWD := hid (fun W => whole_any (hi - lo) W (by omega))
  have HWK := hid (fun W => whole_any (sixK k) W (by omega))
  have HWS := hid (fun W => whole_any 16 W (by decide))
  have hs0 : ((16 : Int) : Rat) ≠ 0 := fun h => by have := Rat.intCast_eq_zero_iff.1 h; omega
  have HS0 := hid hs0
  have HPQ := hid (show partQ lo hi (sixK k) = (lo : Rat) + ((hi - lo : Int) : Rat) * ((sixK k : Int) : Rat) / ((16 : Int) : Rat) from rfl)
  have HKK := hid (show wrap64 ((IntKind.u64.wrap k).tmod 17) = sixK k from rfl)
  generalize partQ lo hi (sixK k) = PQ at *
  clear hs0
  have HBw := hid (Below.refl w.heap.size w)
  go_enter Try.func53, Try.ntmps53
  go_wp2_with fail
  rw [HKK.out]
  generalize sixK k = kk at *
  clear HKK
  refine gen_world (fun W0 hW => ?_)
  have HB0 := hid (show Below w.heap.size w W0 by rw [hW]; (repeat' (first | (with_reducible exact Below.refl _ _) | (with_reducible assumption) | (with_reducible refine Below.alloc ?_ ?_ _) | (with_reducible refine Below.drew ?_) | (with_reducible refine below_drewN ?_ _) | (with_reducible refine Below.setCell ?_ ?_ _) | (with_reducible refine below_setRow ?_ ?_ _) | go_size)))
  have FS := hid (show W0.heap[w.heap.size]? = some (.cells #[.int .i64 lo, .int .i64 hi] 44) by rw [hW]; exact (by repeat' (first | (refine heap_alloc_at _ _ _ ?_; (first | rfl | (simp; done) | (simp; omega))) | (refine heap_alloc_past _ _ _ _ ?_))))
  have FR := hid (show W0.heap[w.heap.size + 1]? = some (.cells #[.bool false, .slice none 0 0, .slice none 0 0] 35) by rw [hW]; exact (by repeat' (first | (refine heap_alloc_at _ _ _ ?_; (first | rfl | (simp; done) | (simp; omega))) | (refine heap_alloc_past _ _ _ _ ?_))))
  clear hW
  refine gen_act (fun A0 hA => ?_)
  refine wp_region_last (by kernel_rfl) (by kernel_rfl) [some 9, some 10, some 11, some 12, some 13, some 14, some 15, some 16, some 17, some 18, some 19, some 20, some 21, some 22, some 23, none] rfl (by decide) 15 rfl (by kernel_rfl) (by kernel_rfl)
    [IsV (.pointer (some ⟨w.heap.size, 0, none⟩)), IsV (.int .i64 lo), fun W v => QAt W v (lo : Rat) 4, IsV (.pointer (some ⟨w.heap.size, 1, none⟩)), IsV (.int .i64 hi), IsV (.pointer (some ⟨w.heap.size, 0, none⟩)), IsV (.int .i64 lo), IsV (.int .i64 (hi - lo)), fun W v => QAt W v ((hi - lo : Int) : Rat) 4, IsV (.int .i64 kk), fun W v => QAt W v (kk : Rat) 4, fun W v => QAt W v (((hi - lo : Int) : Rat) * (kk : Rat)) 8, fun W v => QAt W v ((16 : Int) : Rat) 4, fun W v => QAt W v (((hi - lo : Int) : Rat) * (kk : Rat) / ((16 : Int) : Rat)) 16, fun W v => QAt W v ((lo : Rat) + ((hi - lo : Int) : Rat) * (kk : Rat) / ((16 : Int) : Rat)) 65]
    ⟨IsV.stb _, IsV.stb _, QAt.stb _ _, IsV.stb _, IsV.stb _, IsV.stb _, IsV.stb _, IsV.stb _, QAt.stb _ _, IsV.stb _, QAt.stb _ _, QAt.stb _ _, QAt.stb _ _, QAt.stb _ _, QAt.stb _ _, trivial⟩ ?hs1_2_W1 ?hlast_2_W1
  case hs1_2_W1 =>
    refine ⟨?_, ?_, ?_, ?_, ?_, ?_, ?_, ?_, ?_, ?_, ?_, ?_, ?_, ?_, ?_, trivial⟩
    · intro K us W hK0 hB hd
      have hK := hid hK0; clear hK0
      have HBW := hid hB
      have hsW := hB.size
      have GB := hid (HB0.out.trans (hB.mono HB0.out.size))
      clear hd
      simp only [putF]
      rw [hA]
      go_frame
      go_wp2_with fail
      exact hK.out _ _ _ (by rw [hA]; simp only [putF]; kernel_rfl) (Below.refl _ _) rfl
    · intro K us W hK0 hB hd
      have hK := hid hK0; clear hK0
      have HBW := hid hB
      have hsW := hB.size
      have GB := hid (HB0.out.trans (hB.mono HB0.out.size))
      have e0 : us 0 = .pointer (some ⟨w.heap.size, 0, none⟩) := hd ⟨0, Ground.data⟩ (by simp) rfl
      clear hd
      have G0 := hid (heap_still hB FS.out)
      have c0 : W.cell? ⟨w.heap.size, 0, none⟩ = some (.int .i64 lo) := (cell_row (j := 0) G0.out).trans rfl
      simp only [putF]
      rw [hA, e0]
      go_frame
      go_wp2_with fail
      exact hK.out _ _ _ (by rw [hA]; simp only [putF]; rw [e0]; kernel_rfl) (Below.refl _ _) rfl
    · intro K us W hK0 hB hd
      have hK := hid hK0; clear hK0
      have HBW := hid hB
      have hsW := hB.size
      have GB := hid (HB0.out.trans (hB.mono HB0.out.size))
      have e1 : us 1 = .int .i64 lo := hd ⟨1, Ground.data⟩ (by simp) rfl
      clear hd
      simp only [putF]
      rw [hA, e1]
      go_frame
      go_wp2_with fail
      refine (HWL.out W).mono ?_
      rintro r W' ⟨⟨v, rfl, hv⟩, hb⟩
      go_wp2_with fail
      exact hK.out _ _ _ (by rw [hA]; simp only [putF]; rw [e1]; kernel_rfl) hb hv
    · intro K us W hK0 hB hd
      have hK := hid hK0; clear hK0
      have HBW := hid hB
      have hsW := hB.size
      have GB := hid (HB0.out.trans (hB.mono HB0.out.size))
      clear hd
      simp only [putF]
      rw [hA]
      go_frame
      go_wp2_with fail
      exact hK.out _ _ _ (by rw [hA]; simp only [putF]; kernel_rfl) (Below.refl _ _) rfl
    · intro K us W hK0 hB hd
      have hK := hid hK0; clear hK0
      have HBW := hid hB
      have hsW := hB.size
      have GB := hid (HB0.out.trans (hB.mono HB0.out.size))
      have e3 : us 3 = .pointer (some ⟨w.heap.size, 1, none⟩) := hd ⟨3, Ground.data⟩ (by simp) rfl
      clear hd
      have G0 := hid (heap_still hB FS.out)
      have c0 : W.cell? ⟨w.heap.size, 1, none⟩ = some (.int .i64 hi) := (cell_row (j := 1) G0.out).trans rfl
      simp only [putF]
      rw [hA, e3]
      go_frame
      go_wp2_with fail
      exact hK.out _ _ _ (by rw [hA]; simp only [putF]; rw [e3]; kernel_rfl) (Below.refl _ _) rfl
    · intro K us W hK0 hB hd
      have hK := hid hK0; clear hK0
      have HBW := hid hB
      have hsW := hB.size
      have GB := hid (HB0.out.trans (hB.mono HB0.out.size))
      clear hd
      simp only [putF]
      rw [hA]
      go_frame
      go_wp2_with fail
      exact hK.out _ _ _ (by rw [hA]; simp only [putF]; kernel_rfl) (Below.refl _ _) rfl
    · intro K us W hK0 hB hd
      have hK := hid hK0; clear hK0
      have HBW := hid hB
      have hsW := hB.size
      have GB := hid (HB0.out.trans (hB.mono HB0.out.size))
      have e5 : us 5 = .pointer (some ⟨w.heap.size, 0, none⟩) := hd ⟨5, Ground.data⟩ (by simp) rfl
      clear hd
      have G0 := hid (heap_still hB FS.out)
      have c0 : W.cell? ⟨w.heap.size, 0, none⟩ = some (.int .i64 lo) := (cell_row (j := 0) G0.out).trans rfl
      simp only [putF]
      rw [hA, e5]
      go_frame
      go_wp2_with fail
      exact hK.out _ _ _ (by rw [hA]; simp only [putF]; rw [e5]; kernel_rfl) (Below.refl _ _) rfl
    · intro K us W hK0 hB hd
      have hK := hid hK0; clear hK0
      have HBW := hid hB
      have hsW := hB.size
      have GB := hid (HB0.out.trans (hB.mono HB0.out.size))
      have e4 : us 4 = .int .i64 hi := hd ⟨4, Ground.data⟩ (by simp) rfl
      have e6 : us 6 = .int .i64 lo := hd ⟨6, Ground.data⟩ (by simp) rfl
      clear hd
      simp only [putF]
      rw [hA, e4, e6]
      go_frame
      go_wp2_with fail
      exact hK.out _ _ _ (by rw [hA]; simp only [putF]; rw [e4, e6]; kernel_rfl) (Below.refl _ _) rfl
    · intro K us W hK0 hB hd
      have hK := hid hK0; clear hK0
      have HBW := hid hB
      have hsW := hB.size
      have GB := hid (HB0.out.trans (hB.mono HB0.out.size))
      have e7 : us 7 = .int .i64 (hi - lo) := hd ⟨7, Ground.data⟩ (by simp) rfl
      clear hd
      simp only [putF]
      rw [hA, e7]
      go_frame
      go_wp2_with fail
      refine (HWD.out W).mono ?_
      rintro r W' ⟨⟨v, rfl, hv⟩, hb⟩
      go_wp2_with fail
      exact hK.out _ _ _ (by rw [hA]; simp only [putF]; rw [e7]; kernel_rfl) hb hv
    · intro K us W hK0 hB hd
      have hK := hid hK0; clear hK0
      have HBW := hid hB
      have hsW := hB.size
      have GB := hid (HB0.out.trans (hB.mono HB0.out.size))
      clear hd
      simp only [putF]
      rw [hA]
      go_frame
      go_wp2_with fail
      exact hK.out _ _ _ (by rw [hA]; simp only [putF]; kernel_rfl) (Below.refl _ _) rfl
    · intro K us W hK0 hB hd
      have hK := hid hK0; clear hK0
      have HBW := hid hB
      have hsW := hB.size
      have GB := hid (HB0.out.trans (hB.mono HB0.out.size))
      have e9 : us 9 = .int .i64 kk := hd ⟨9, Ground.data⟩ (by simp) rfl
      clear hd
      simp only [putF]
      rw [hA, e9]
      go_frame
      go_wp2_with fail
      refine (HWK.out W).mono ?_
      rintro r W' ⟨⟨v, rfl, hv⟩, hb⟩
      go_wp2_with fail
      exact hK.out _ _ _ (by rw [hA]; simp only [putF]; rw [e9]; kernel_rfl) hb hv
    · intro K us W hK0 hB hd
      have hK := hid hK0; clear hK0
      have HBW := hid hB
      have hsW := hB.size
      have GB := hid (HB0.out.trans (hB.mono HB0.out.size))
      have hd8 : (fun W v => QAt W v ((hi - lo : Int) : Rat) 4) W (us 8) := hd ⟨8, Ground.data⟩ (by simp) rfl
      obtain ⟨cs8, e8, hcs8, hco8⟩ := hd8.cells
      rw [e8] at hd8
      have HH8 := hid hd8
      clear hd8
      have hd10 : (fun W v => QAt W v (kk : Rat) 4) W (us 10) := hd ⟨10, Ground.data⟩ (by simp) rfl
      obtain ⟨cs10, e10, hcs10, hco10⟩ := hd10.cells
      rw [e10] at hd10
      have HH10 := hid hd10
      clear hd10
      clear hd
      simp only [putF]
      rw [hA, e8, e10]
      go_frame
      go_wp2_with fail
      refine (qmul_any _ _ 4 _ _ W HH8.out HH10.out (by decide)).mono ?_
      rintro r W' ⟨⟨v, rfl, hv⟩, hb⟩
      go_wp2_with fail
      exact hK.out _ _ _ (by rw [hA]; simp only [putF]; rw [e8, e10]; kernel_rfl) hb hv
    · intro K us W hK0 hB hd
      have hK := hid hK0; clear hK0
      have HBW := hid hB
      have hsW := hB.size
      have GB := hid (HB0.out.trans (hB.mono HB0.out.size))
      clear hd
      simp only [putF]
      rw [hA]
      go_frame
      go_wp2_with fail
      refine (HWS.out W).mono ?_
      rintro r W' ⟨⟨v, rfl, hv⟩, hb⟩
      go_wp2_with fail
      exact hK.out _ _ _ (by rw [hA]; simp only [putF]; kernel_rfl) hb hv
    · intro K us W hK0 hB hd
      have hK := hid hK0; clear hK0
      have HBW := hid hB
      have hsW := hB.size
      have GB := hid (HB0.out.trans (hB.mono HB0.out.size))
      have hd11 : (fun W v => QAt W v (((hi - lo : Int) : Rat) * (kk : Rat)) 8) W (us 11) := hd ⟨11, Ground.data⟩ (by simp) rfl
      obtain ⟨cs11, e11, hcs11, hco11⟩ := hd11.cells
      rw [e11] at hd11
      have HH11 := hid hd11
      clear hd11
      have hd12 : (fun W v => QAt W v ((16 : Int) : Rat) 4) W (us 12) := hd ⟨12, Ground.data⟩ (by simp) rfl
      obtain ⟨cs12, e12, hcs12, hco12⟩ := hd12.cells
      rw [e12] at hd12
      have HH12 := hid hd12
      clear hd12
      clear hd
      simp only [putF]
      rw [hA, e11, e12]
      go_frame
      go_wp2_with fail
      refine (qdiv_any _ _ 8 _ _ W HH11.out (HH12.out.wide (by decide)) (by decide) HS0.out).mono ?_
      rintro r W' ⟨⟨v, rfl, hv⟩, hb⟩
      go_wp2_with fail
      exact hK.out _ _ _ (by rw [hA]; simp only [putF]; rw [e11, e12]; kernel_rfl) hb hv
    · intro K us W hK0 hB hd
      have hK := hid hK0; clear hK0
      have HBW := hid hB
      have hsW := hB.size
      have GB := hid (HB0.out.trans (hB.mono HB0.out.size))
      have hd2 : (fun W v => QAt W v (lo : Rat) 4) W (us 2) := hd ⟨2, Ground.data⟩ (by simp) rfl
      obtain ⟨cs2, e2, hcs2, hco2⟩ := hd2.cells
      rw [e2] at hd2
      have HH2 := hid hd2
      clear hd2
      have hd13 : (fun W v => QAt W v (((hi - lo : Int) : Rat) * (kk : Rat) / ((16 : Int) : Rat)) 16) W (us 13) := hd ⟨13, Ground.data⟩ (by simp) rfl
      obtain ⟨cs13, e13, hcs13, hco13⟩ := hd13.cells
      rw [e13] at hd13
      have HH13 := hid hd13
      clear hd13
      clear hd
      simp only [putF]
      rw [hA, e2, e13]
      go_frame
      go_wp2_with fail
      refine (qadd_any _ _ 16 _ _ W (HH2.out.wide (by decide)) HH13.out (by decide)).mono ?_
      rintro r W' ⟨⟨v, rfl, hv⟩, hb⟩
      go_wp2_with fail
      exact hK.out _ _ _ (by rw [hA]; simp only [putF]; rw [e2, e13]; kernel_rfl) hb hv
  intro K us W1 hK0 hB hp
  have hK := hid hK0
  clear hK0
  have hd14 : (fun W v => QAt W v ((lo : Rat) + ((hi - lo : Int) : Rat) * (kk : Rat) / ((16 : Int) : Rat)) 65) W1 (us 14) := hp 14 (by decide)
  obtain ⟨cs14, e14, hcs14, hco14⟩ := hd14.cells
  rw [e14] at hd14
  have HH14 := hid hd14
  clear hd14
  have HB1 := hid (HB0.out.trans (hB.mono HB0.out.size))
  have HSW1 := hid (fun n x => @heap_still _ _ n x hB)
  have hzW1 := hB.size
  have hbW1 := hid hB
  clear hp
  simp only [putF]
  rw [hA, e14]
  skip
  go_frame
  go_wp2_with (refine wpList_store_at rfl 35 (.tmp 4) (.tmp 23) rfl rfl rfl (HSW1.out _ _ FR.out) size35 hcs14 rfl hco14 ?_)
  refine hK.out undef _ _ (by rw [hA]; simp only [putF]; rw [e14]; kernel_rfl) ?_
  clear hK hB hA e14
  have R1 := hid (HSW1.out _ _ FR.out)
  go_wp2_with fail
  refine bodyPost_ret (results_at1 rfl rfl (setRow_heap _ _ _ _ _ _ R1.out) Try.underlying35 rfl size35 hcs14) rfl ?_
  exact ⟨⟨_, rfl, by rw [HPQ.out]; exact HH14.out.row R1.out (by decide)⟩, below_setRow HB1.out (by omega) _⟩
end Go.Proofs.Yteoikaedpgianaa
namespace Go.Proofs.Yteoikaedpgianaa
open Go.RowKit Limb

theorem pfl_le (a : Int) {d : Int} (hd : 0 < d) : ((a / d : Int) : Rat) ≤ (a : Rat) / (d : Rat) := by
  rw [← Rat.le_floor_iff, floor_div a d hd]
  exact Int.le_refl _
theorem rdiv_le {a b n : Rat} (hn : 0 < n) (h : a ≤ b) : a / n ≤ b / n := by
  rw [← Rat.not_lt, Rat.div_lt_iff hn, Rat.not_lt, Rat.div_mul_cancel (Rat.ne_of_gt hn)]
  exact h
theorem prneg_div (x y : Rat) : -x / y = -(x / y) := by rw [Rat.div_def, Rat.div_def, Rat.neg_mul]
theorem partQ_in {lo hi k : Int} (hl : lo ≤ hi) (hk : 0 ≤ k ∧ k ≤ 16) : (lo : Rat) ≤ partQ lo hi k ∧ partQ lo hi k ≤ (hi : Rat) := by
  have h16 : (0 : Rat) < ((16 : Int) : Rat) := Rat.intCast_pos.2 (by decide)
  have e : partQ lo hi k = (lo : Rat) + (((hi - lo) * k : Int) : Rat) / ((16 : Int) : Rat) := by unfold partQ; rw [Rat.intCast_mul]
  have h0 : 0 ≤ (hi - lo) * k := Int.mul_nonneg (by omega) hk.1
  have h1 : (hi - lo) * k ≤ (hi - lo) * 16 := Int.mul_le_mul_of_nonneg_left hk.2 (by omega)
  have a1 := rdiv_le h16 (Rat.intCast_le_intCast.2 h0)
  have a2 := rdiv_le h16 (Rat.intCast_le_intCast.2 h1)
  rw [Rat.intCast_zero, Rat.div_def, Rat.zero_mul] at a1
  rw [Rat.intCast_mul (hi - lo) 16, Rat.mul_div_cancel (Rat.ne_of_gt h16), Rat.intCast_sub] at a2
  rw [e]
  constructor
  · grind
  · grind
theorem floor_in {lo hi : Int} {x : Rat} (h1 : (lo : Rat) ≤ x) (h2 : x ≤ (hi : Rat)) : lo ≤ x.floor ∧ x.floor ≤ hi := by
  refine ⟨Rat.le_floor_iff.2 h1, ?_⟩
  have h3 : ((x.floor : Int) : Rat) ≤ x := Rat.le_floor_iff.1 (Int.le_refl _)
  exact Rat.intCast_le_intCast.1 (Rat.le_trans h3 h2)
theorem rmul_le {a b k : Rat} (hk : 0 ≤ k) (h : a ≤ b) : a * k ≤ b * k := by
  have := Rat.mul_nonneg (show 0 ≤ b - a by grind) hk
  grind
theorem place_lo {k n r0 r1 cl wide : Int} {c far : Rat} (hn : 0 < n) (hw : 0 ≤ wide) (hc : (cl : Rat) ≤ c) (hf : (r0 : Rat) ≤ far) (hf2 : far ≤ (r1 : Rat)) :
    ((locLo k n cl r0 r1 wide : Int) : Rat) ≤ c + far * (k : Rat) / (n : Rat) := by
  have hn' : (0 : Rat) < (n : Rat) := Rat.intCast_pos.2 hn
  have hw' : (0 : Rat) ≤ (wide : Rat) := by have := Rat.intCast_le_intCast.2 hw; rwa [Rat.intCast_zero] at this
  have key : ∀ s : Int, (s : Rat) * (k : Rat) ≤ far * (k : Rat) → ((cl + dnV k s n - wide : Int) : Rat) ≤ c + far * (k : Rat) / (n : Rat) := by
    intro s hs
    have h1 := pfl_le (k * s) hn
    have h2 := rdiv_le hn' hs
    rw [Rat.mul_comm, ← Rat.intCast_mul] at h2
    unfold dnV
    rw [Rat.intCast_sub, Rat.intCast_add]
    grind
  unfold locLo
  by_cases hk : k < 0
  · rw [if_pos hk]
    refine key r1 ?_
    have hk' : (0 : Rat) ≤ -(k : Rat) := by have := Rat.intCast_le_intCast.2 (show 0 ≤ -k by omega); rwa [Rat.intCast_zero, Rat.intCast_neg] at this
    have := rmul_le hk' hf2
    grind
  · rw [if_neg hk]
    refine key r0 ?_
    have hk' : (0 : Rat) ≤ (k : Rat) := by have := Rat.intCast_le_intCast.2 (show 0 ≤ k by omega); rwa [Rat.intCast_zero] at this
    exact rmul_le hk' hf
theorem place_hi {k n r0 r1 ch wide : Int} {c far : Rat} (hn : 0 < n) (hw : 0 ≤ wide) (hc : c ≤ (ch : Rat)) (hf : (r0 : Rat) ≤ far) (hf2 : far ≤ (r1 : Rat)) :
    c + far * (k : Rat) / (n : Rat) ≤ ((locHi k n ch r0 r1 wide : Int) : Rat) := by
  have hn' : (0 : Rat) < (n : Rat) := Rat.intCast_pos.2 hn
  have hw' : (0 : Rat) ≤ (wide : Rat) := by have := Rat.intCast_le_intCast.2 hw; rwa [Rat.intCast_zero] at this
  have key : ∀ s : Int, far * (k : Rat) ≤ (s : Rat) * (k : Rat) → c + far * (k : Rat) / (n : Rat) ≤ ((ch + upV k s n + wide : Int) : Rat) := by
    intro s hs
    have h1 := pfl_le (-(k * s)) hn
    have h2 := rdiv_le hn' hs
    rw [Rat.mul_comm (s : Rat), ← Rat.intCast_mul] at h2
    rw [Rat.intCast_neg, prneg_div] at h1
    unfold upV
    rw [Rat.intCast_add, Rat.intCast_add, Rat.intCast_neg]
    grind
  unfold locHi
  by_cases hk : k < 0
  · rw [if_pos hk]
    refine key r0 ?_
    have hk' : (0 : Rat) ≤ -(k : Rat) := by have := Rat.intCast_le_intCast.2 (show 0 ≤ -k by omega); rwa [Rat.intCast_zero, Rat.intCast_neg] at this
    have := rmul_le hk' hf
    grind
  · rw [if_neg hk]
    refine key r1 ?_
    have hk' : (0 : Rat) ≤ (k : Rat) := by have := Rat.intCast_le_intCast.2 (show 0 ≤ k by omega); rwa [Rat.intCast_zero] at this
    exact rmul_le hk' hf2
theorem dn_mono {k s u n : Int} (hn : 0 < n) (h : k * s ≤ k * u) : dnV k s n ≤ dnV k u n := by
  unfold dnV
  exact Int.ediv_le_ediv hn h
theorem up_mono {k s u n : Int} (hn : 0 < n) (h : k * s ≤ k * u) : upV k s n ≤ upV k u n := by
  unfold upV
  have := Int.ediv_le_ediv hn (show -(k * u) ≤ -(k * s) by omega)
  omega
theorem inner_lo {k n r0 r1 s c c' wide wide' : Int} (hn : 0 < n) (hs : r0 ≤ s) (hc : c ≤ c') (hw : wide' ≤ wide) : locLo k n c r0 r1 wide ≤ locLo k n c' s r1 wide' := by
  unfold locLo
  by_cases hk : k < 0
  · rw [if_pos hk, if_pos hk]; omega
  · rw [if_neg hk, if_neg hk]
    have := dn_mono hn (Int.mul_le_mul_of_nonneg_left hs (show 0 ≤ k by omega))
    omega
theorem inner_hi {k n r0 r1 s c wide wide' : Int} (hn : 0 < n) (hs : r0 ≤ s) (hw : wide' ≤ wide) : locHi k n c s r1 wide' ≤ locHi k n c r0 r1 wide := by
  unfold locHi
  by_cases hk : k < 0
  · rw [if_pos hk, if_pos hk]
    have := up_mono hn (Int.mul_le_mul_of_nonpos_left (show k ≤ 0 by omega) hs)
    omega
  · rw [if_neg hk, if_neg hk]; omega
theorem wide_mono {t r : Int} (ht : 0 ≤ t) (hr : 0 ≤ r) : upV (t / 2) r 1000000 ≤ upV t r 1000000 := by
  unfold upV
  have h1 : t / 2 * r ≤ t * r := Int.mul_le_mul_of_nonneg_right (by omega) hr
  have := Int.ediv_le_ediv (show (0 : Int) < 1000000 by decide) (show -(t * r) ≤ -(t / 2 * r) by omega)
  omega
end Go.Proofs.Yteoikaedpgianaa
namespace Go.Proofs.Yteoikaedpgianaa
open Go.RowKit Limb

/-- the place in a span and its floor -/
def cQ (pl ph at_ : Nat → Int) (i : Nat) : Rat := partQ (pl i) (ph i) (sixK (at_ i))
def nlQ (pl ph at_ : Nat → Int) (i : Nat) : Int := (cQ pl ph at_ i).floor
def farQ (r0 r1 : Int) (at_ : Nat → Int) : Rat := partQ r0 r1 (sixK (at_ 3))
/-- what lies in memory during the law's loop -/
def PlSt (pl ph at_ kb bl bh : Nat → Int) (a b c d t e f g h r0 r1 : Int) (g3 g4 g5 g6 qx qb qf ql : Nat) (CF : Array Value) (W : World) : Prop :=
  W.heap[g3]? = some (.cells #[.int .i64 (pl 0), .int .i64 (ph 0), .int .i64 (pl 1), .int .i64 (ph 1), .int .i64 (pl 2), .int .i64 (ph 2), .int .i64 a, .int .i64 b, .int .i64 c, .int .i64 d, .int .i64 t] 80) ∧ W.heap[g4]? = some (.cells #[.int .i64 e, .int .i64 f, .int .i64 g, .int .i64 h] 22) ∧ W.heap[g5]? = some (.cells #[.int .i64 r0, .int .i64 r1] 44) ∧ W.heap[g6]? = some (.cells #[.int .i64 (at_ 0), .int .i64 (at_ 1), .int .i64 (at_ 2), .int .i64 (at_ 3)] 22) ∧
  W.heap[qx]? = some (.cells #[.int .i64 (bl 0), .int .i64 (bh 0), .int .i64 (bl 1), .int .i64 (bh 1), .int .i64 (bl 2), .int .i64 (bh 2)] 46) ∧ W.heap[qb]? = some (.cells #[.int .i64 (kb 0), .int .i64 (kb 1), .int .i64 (kb 2)] 26) ∧ W.heap[qf]? = some (.cells CF 35) ∧ W.heap[ql]? = some (.cells #[.int .i64 (bl 0), .int .i64 (bh 0), .int .i64 (bl 1), .int .i64 (bh 1), .int .i64 (bl 2), .int .i64 (bh 2)] 44) ∧ QAt W (.agg CF) (farQ r0 r1 at_) 65
section
variable {pl ph at_ kb bl bh : Nat → Int} {a b c d t e f g h r0 r1 : Int} {g3 g4 g5 g6 qx qb qf ql : Nat} {CF : Array Value} {W W' : World}
theorem PlSt.still (hs : PlSt pl ph at_ kb bl bh a b c d t e f g h r0 r1 g3 g4 g5 g6 qx qb qf ql CF W) (hB : Below W.heap.size W W') : PlSt pl ph at_ kb bl bh a b c d t e f g h r0 r1 g3 g4 g5 g6 qx qb qf ql CF W' := by
  obtain ⟨h1, h2, h3, h4, h5, h6, h7, h8, h9⟩ := hs
  exact ⟨heap_still hB h1, heap_still hB h2, heap_still hB h3, heap_still hB h4, heap_still hB h5, heap_still hB h6, heap_still hB h7, heap_still hB h8, h9.grow hB⟩
theorem PlSt.alloc (hs : PlSt pl ph at_ kb bl bh a b c d t e f g h r0 r1 g3 g4 g5 g6 qx qb qf ql CF W) (o : Obj) : PlSt pl ph at_ kb bl bh a b c d t e f g h r0 r1 g3 g4 g5 g6 qx qb qf ql CF (W.alloc o) :=
  hs.still ((Below.refl _ _).alloc (Nat.le_refl _) _)
theorem PlSt.row {q ty : Nat} {old cs : Array Value} (hs : PlSt pl ph at_ kb bl bh a b c d t e f g h r0 r1 g3 g4 g5 g6 qx qb qf ql CF W) (hq : W.heap[q]? = some (.cells old ty)) (ht : ty ≠ 3)
    (hne : g3 ≠ q ∧ g4 ≠ q ∧ g5 ≠ q ∧ g6 ≠ q ∧ qx ≠ q ∧ qb ≠ q ∧ qf ≠ q ∧ ql ≠ q) : PlSt pl ph at_ kb bl bh a b c d t e f g h r0 r1 g3 g4 g5 g6 qx qb qf ql CF (W.setRow q cs) := by
  obtain ⟨h1, h2, h3, h4, h5, h6, h7, h8, h9⟩ := hs
  obtain ⟨n1, n2, n3, n4, n5, n6, n7, n8⟩ := hne
  exact ⟨setRow_past h1 n1, setRow_past h2 n2, setRow_past h3 n3, setRow_past h4 n4, setRow_past h5 n5, setRow_past h6 n6, setRow_past h7 n7, setRow_past h8 n8, h9.row hq ht⟩
end
/-- the narrow pose behind m rounds -/
def narA (pl ph at_ : Nat → Int) (a b c d t : Int) (m : Nat) : Array Value :=
  #[.int .i64 (if 0 < m then nlQ pl ph at_ 0 else pl 0), .int .i64 (ph 0), .int .i64 (if 1 < m then nlQ pl ph at_ 1 else pl 1), .int .i64 (ph 1), .int .i64 (if 2 < m then nlQ pl ph at_ 2 else pl 2), .int .i64 (ph 2), .int .i64 a, .int .i64 b, .int .i64 c, .int .i64 d, .int .i64 t]
theorem narA_next (pl ph at_ : Nat → Int) (a b c d t : Int) : ∀ m, m < 3 → ptL (narA pl ph at_ a b c d t m) (m * 2) [.int .i64 (nlQ pl ph at_ m), .int .i64 (ph m)] = narA pl ph at_ a b c d t (m + 1)
  | 0, _ => rfl
  | 1, _ => rfl
  | 2, _ => rfl
theorem pl_at (pl ph : Nat → Int) (a b c d t : Int) : ∀ m, m < 3 → (#[.int .i64 (pl 0), .int .i64 (ph 0), .int .i64 (pl 1), .int .i64 (ph 1), .int .i64 (pl 2), .int .i64 (ph 2), .int .i64 a, .int .i64 b, .int .i64 c, .int .i64 d, .int .i64 t] : Array Value)[m * 2]? = some (.int .i64 (pl m)) ∧ (#[.int .i64 (pl 0), .int .i64 (ph 0), .int .i64 (pl 1), .int .i64 (ph 1), .int .i64 (pl 2), .int .i64 (ph 2), .int .i64 a, .int .i64 b, .int .i64 c, .int .i64 d, .int .i64 t] : Array Value)[m * 2 + 1]? = some (.int .i64 (ph m))
  | 0, _ => ⟨rfl, rfl⟩
  | 1, _ => ⟨rfl, rfl⟩
  | 2, _ => ⟨rfl, rfl⟩
theorem at_at (at_ : Nat → Int) : ∀ m, m < 3 → (#[.int .i64 (at_ 0), .int .i64 (at_ 1), .int .i64 (at_ 2), .int .i64 (at_ 3)] : Array Value)[m]? = some (.int .i64 (at_ m))
  | 0, _ => rfl
  | 1, _ => rfl
  | 2, _ => rfl
theorem kb_at (kb : Nat → Int) : ∀ m, m < 3 → (#[.int .i64 (kb 0), .int .i64 (kb 1), .int .i64 (kb 2)] : Array Value)[m]? = some (.int .i64 (kb m))
  | 0, _ => rfl
  | 1, _ => rfl
  | 2, _ => rfl
theorem box_drop (bl bh : Nat → Int) : ∀ m, m < 3 → ((#[.int .i64 (bl 0), .int .i64 (bh 0), .int .i64 (bl 1), .int .i64 (bh 1), .int .i64 (bl 2), .int .i64 (bh 2)] : Array Value).toList.drop (m * 2)).take 2 = [.int .i64 (bl m), .int .i64 (bh m)]
  | 0, _ => rfl
  | 1, _ => rfl
  | 2, _ => rfl
def FreshP (B : Nat) (W : World) (v : Value) : Prop := ∃ g, v = .pointer (some ⟨g, 0, none⟩) ∧ B ≤ g ∧ W.heap[g]? = some (.cells #[.bool false, .slice none 0 0, .slice none 0 0] 35)
theorem FreshP.stb (B : Nat) : Stb (FreshP B) := fun _ _ _ hB ⟨g, h1, h2, h3⟩ => ⟨g, h1, h2, heap_still hB h3⟩
set_option maxRecDepth 100000 in
set_option maxHeartbeats 3200000 in
theorem places_no (pl ph at_ : Nat → Int) (a b c d t e f g h r0 r1 s0 s1 s2 s3 s4 s5 z : Int) (w : World) (hz : z ≠ 0)
    (hx : ∀ W, Calls Try.prog 49 #[.agg #[.int .i64 (pl 0), .int .i64 (ph 0), .int .i64 (pl 1), .int .i64 (ph 1), .int .i64 (pl 2), .int .i64 (ph 2), .int .i64 a, .int .i64 b, .int .i64 c, .int .i64 d, .int .i64 t], .agg #[.int .i64 e, .int .i64 f, .int .i64 g, .int .i64 h], .agg #[.int .i64 r0, .int .i64 r1]] W fun r w' => r = .returned (.tuple #[.agg #[.int .i64 s0, .int .i64 s1, .int .i64 s2, .int .i64 s3, .int .i64 s4, .int .i64 s5], .int .i64 z]) ∧ Below W.heap.size W w')
    (hr : ∀ W, Calls Try.prog 50 #[.agg #[.int .i64 (pl 0), .int .i64 (ph 0), .int .i64 (pl 1), .int .i64 (ph 1), .int .i64 (pl 2), .int .i64 (ph 2), .int .i64 a, .int .i64 b, .int .i64 c, .int .i64 d, .int .i64 t], .agg #[.int .i64 e, .int .i64 f, .int .i64 g, .int .i64 h], .agg #[.int .i64 r0, .int .i64 r1]] W fun r w' => r = .returned (.tuple #[.agg #[.int .i64 s0, .int .i64 s1, .int .i64 s2, .int .i64 s3, .int .i64 s4, .int .i64 s5], .int .i64 z]) ∧ Below W.heap.size W w') :
    Calls Try.prog 12 #[.agg #[.int .i64 (pl 0), .int .i64 (ph 0), .int .i64 (pl 1), .int .i64 (ph 1), .int .i64 (pl 2), .int .i64 (ph 2), .int .i64 a, .int .i64 b, .int .i64 c, .int .i64 d, .int .i64 t, .int .i64 e, .int .i64 f, .int .i64 g, .int .i64 h, .int .i64 r0, .int .i64 r1, .int .i64 (at_ 0), .int .i64 (at_ 1), .int .i64 (at_ 2), .int .i64 (at_ 3)]] w fun r w' => r = .returned (.bool true) ∧ Below w.heap.size w w' := by
  have HX := hid hx
  have HR := hid hr
  clear hx hr
  have hd : decide (z = 0) = false := by simp [hz]
  have HBw := hid (Below.refl w.heap.size w)
  go_enter Try.func12, Try.ntmps12
  go_wp2_with fail
  refine gen_world (fun W0 hW => ?_)
  have HB0 := hid (show Below w.heap.size w W0 by rw [hW]; (repeat' (first | (with_reducible exact Below.refl _ _) | (with_reducible assumption) | (with_reducible refine Below.alloc ?_ ?_ _) | (with_reducible refine Below.drew ?_) | (with_reducible refine below_drewN ?_ _) | (with_reducible refine Below.setCell ?_ ?_ _) | (with_reducible refine below_setRow ?_ ?_ _) | go_size)))
  have FV := hid (show W0.heap[w.heap.size]? = some (.cells #[.int .i64 (pl 0), .int .i64 (ph 0), .int .i64 (pl 1), .int .i64 (ph 1), .int .i64 (pl 2), .int .i64 (ph 2), .int .i64 a, .int .i64 b, .int .i64 c, .int .i64 d, .int .i64 t, .int .i64 e, .int .i64 f, .int .i64 g, .int .i64 h, .int .i64 r0, .int .i64 r1, .int .i64 (at_ 0), .int .i64 (at_ 1), .int .i64 (at_ 2), .int .i64 (at_ 3)] 88) by rw [hW]; exact (by repeat' (first | (refine heap_alloc_at _ _ _ ?_; (first | rfl | (simp; done) | (simp; omega))) | (refine heap_alloc_past _ _ _ _ ?_))))
  have hs0 : w.heap.size < W0.heap.size := (Array.getElem?_eq_some_iff.1 FV.out).1
  clear hW
  refine gen_act (fun A0 hA => ?_)
  refine wp_region_by (by kernel_rfl) (by kernel_rfl) [some 28, some 29, some 30, some 31, some 32, some 33, some 34, some 35, some 3, some 4, some 5, some 6, none, none, none, none] rfl (by decide) (BoxR W0 8 4 (fun j => [.pointer (some ⟨w.heap.size, 0, none⟩), .agg #[.int .i64 (pl 0), .int .i64 (ph 0), .int .i64 (pl 1), .int .i64 (ph 1), .int .i64 (pl 2), .int .i64 (ph 2), .int .i64 a, .int .i64 b, .int .i64 c, .int .i64 d, .int .i64 t], .pointer (some ⟨w.heap.size, 11, none⟩), .agg #[.int .i64 e, .int .i64 f, .int .i64 g, .int .i64 h], .pointer (some ⟨w.heap.size, 15, none⟩), .agg #[.int .i64 r0, .int .i64 r1], .pointer (some ⟨w.heap.size, 17, none⟩), .agg #[.int .i64 (at_ 0), .int .i64 (at_ 1), .int .i64 (at_ 2), .int .i64 (at_ 3)]].getD j undef) (fun i => [#[.int .i64 0, .int .i64 0, .int .i64 0, .int .i64 0, .int .i64 0, .int .i64 0, .int .i64 0, .int .i64 0, .int .i64 0, .int .i64 0, .int .i64 0], #[.int .i64 0, .int .i64 0, .int .i64 0, .int .i64 0], #[.int .i64 0, .int .i64 0], #[.int .i64 0, .int .i64 0, .int .i64 0, .int .i64 0]].getD i #[]) (fun i => [#[.int .i64 (pl 0), .int .i64 (ph 0), .int .i64 (pl 1), .int .i64 (ph 1), .int .i64 (pl 2), .int .i64 (ph 2), .int .i64 a, .int .i64 b, .int .i64 c, .int .i64 d, .int .i64 t], #[.int .i64 e, .int .i64 f, .int .i64 g, .int .i64 h], #[.int .i64 r0, .int .i64 r1], #[.int .i64 (at_ 0), .int .i64 (at_ 1), .int .i64 (at_ 2), .int .i64 (at_ 3)]].getD i #[]) (fun i => ([80, 22, 44, 22] : List Nat).getD i 0)) (selfF A0 _) (putF_self A0 _) BoxR.start ?hs1_1_w1 ?hend_1_w1
  case hs1_1_w1 =>
    refine ⟨?_, ?_, ?_, ?_, ?_, ?_, ?_, ?_, ?_, ?_, ?_, ?_, ?_, ?_, ?_, ?_, trivial⟩
    · intro K L us W hK0 hL hd hR
      have hK := hid (fun v A' W' h1 h2 h3 => hK0 v A' W' h1 (hR.pure (k := 0) (by decide) h2 h3)); clear hK0
      (try simp [Region.binds] at hd)
      have hB := hR.grow
      have GB := hid hB
      clear hd hR hB
      simp only [putF]
      rw [hA]
      go_frame
      go_wp2_with fail
      exact hK.out _ _ _ (by rw [hA]; simp only [putF]; kernel_rfl) (Below.refl _ _) rfl
    · intro K L us W hK0 hL hd hR
      have hK := hid (fun v A' W' h1 h2 h3 => hK0 v A' W' h1 (hR.pure (k := 1) (by decide) h2 h3)); clear hK0
      (try simp [Region.binds] at hd)
      have hB := hR.grow
      have GB := hid hB
      have e0 : us 0 = .pointer (some ⟨w.heap.size, 0, none⟩) := hR.vals 0 (by decide) (by first | exact hd | exact hd.1 | exact hd.2.1 | simp_all)
      have G0 := hid (heap_still hB FV.out)
      have c0 : W.cell? ⟨w.heap.size, 0, none⟩ = some (.int .i64 (pl 0)) := (cell_row (j := 0) G0.out).trans rfl
      have c1 : W.cell? ⟨w.heap.size, 1, none⟩ = some (.int .i64 (ph 0)) := (cell_row (j := 1) G0.out).trans rfl
      have c2 : W.cell? ⟨w.heap.size, 2, none⟩ = some (.int .i64 (pl 1)) := (cell_row (j := 2) G0.out).trans rfl
      have c3 : W.cell? ⟨w.heap.size, 3, none⟩ = some (.int .i64 (ph 1)) := (cell_row (j := 3) G0.out).trans rfl
      have c4 : W.cell? ⟨w.heap.size, 4, none⟩ = some (.int .i64 (pl 2)) := (cell_row (j := 4) G0.out).trans rfl
      have c5 : W.cell? ⟨w.heap.size, 5, none⟩ = some (.int .i64 (ph 2)) := (cell_row (j := 5) G0.out).trans rfl
      have c6 : W.cell? ⟨w.heap.size, 6, none⟩ = some (.int .i64 a) := (cell_row (j := 6) G0.out).trans rfl
      have c7 : W.cell? ⟨w.heap.size, 7, none⟩ = some (.int .i64 b) := (cell_row (j := 7) G0.out).trans rfl
      have c8 : W.cell? ⟨w.heap.size, 8, none⟩ = some (.int .i64 c) := (cell_row (j := 8) G0.out).trans rfl
      have c9 : W.cell? ⟨w.heap.size, 9, none⟩ = some (.int .i64 d) := (cell_row (j := 9) G0.out).trans rfl
      have c10 : W.cell? ⟨w.heap.size, 10, none⟩ = some (.int .i64 t) := (cell_row (j := 10) G0.out).trans rfl
      clear hd hR hB
      simp only [putF]
      rw [hA, e0]
      go_frame
      go_wp2_with fail
      exact hK.out _ _ _ (by rw [hA]; simp only [putF]; rw [e0]; kernel_rfl) (Below.refl _ _) rfl
    · intro K L us W hK0 hL hd hR
      have hK := hid (fun v A' W' h1 h2 h3 => hK0 v A' W' h1 (hR.pure (k := 2) (by decide) h2 h3)); clear hK0
      (try simp [Region.binds] at hd)
      have hB := hR.grow
      have GB := hid hB
      clear hd hR hB
      simp only [putF]
      rw [hA]
      go_frame
      go_wp2_with fail
      exact hK.out _ _ _ (by rw [hA]; simp only [putF]; kernel_rfl) (Below.refl _ _) rfl
    · intro K L us W hK0 hL hd hR
      have hK := hid (fun v A' W' h1 h2 h3 => hK0 v A' W' h1 (hR.pure (k := 3) (by decide) h2 h3)); clear hK0
      (try simp [Region.binds] at hd)
      have hB := hR.grow
      have GB := hid hB
      have e2 : us 2 = .pointer (some ⟨w.heap.size, 11, none⟩) := hR.vals 2 (by decide) (by first | exact hd | exact hd.1 | exact hd.2.1 | simp_all)
      have G0 := hid (heap_still hB FV.out)
      have c0 : W.cell? ⟨w.heap.size, 11, none⟩ = some (.int .i64 e) := (cell_row (j := 11) G0.out).trans rfl
      have c1 : W.cell? ⟨w.heap.size, 12, none⟩ = some (.int .i64 f) := (cell_row (j := 12) G0.out).trans rfl
      have c2 : W.cell? ⟨w.heap.size, 13, none⟩ = some (.int .i64 g) := (cell_row (j := 13) G0.out).trans rfl
      have c3 : W.cell? ⟨w.heap.size, 14, none⟩ = some (.int .i64 h) := (cell_row (j := 14) G0.out).trans rfl
      clear hd hR hB
      simp only [putF]
      rw [hA, e2]
      go_frame
      go_wp2_with fail
      exact hK.out _ _ _ (by rw [hA]; simp only [putF]; rw [e2]; kernel_rfl) (Below.refl _ _) rfl
    · intro K L us W hK0 hL hd hR
      have hK := hid (fun v A' W' h1 h2 h3 => hK0 v A' W' h1 (hR.pure (k := 4) (by decide) h2 h3)); clear hK0
      (try simp [Region.binds] at hd)
      have hB := hR.grow
      have GB := hid hB
      clear hd hR hB
      simp only [putF]
      rw [hA]
      go_frame
      go_wp2_with fail
      exact hK.out _ _ _ (by rw [hA]; simp only [putF]; kernel_rfl) (Below.refl _ _) rfl
    · intro K L us W hK0 hL hd hR
      have hK := hid (fun v A' W' h1 h2 h3 => hK0 v A' W' h1 (hR.pure (k := 5) (by decide) h2 h3)); clear hK0
      (try simp [Region.binds] at hd)
      have hB := hR.grow
      have GB := hid hB
      have e4 : us 4 = .pointer (some ⟨w.heap.size, 15, none⟩) := hR.vals 4 (by decide) (by first | exact hd | exact hd.1 | exact hd.2.1 | simp_all)
      have G0 := hid (heap_still hB FV.out)
      have c0 : W.cell? ⟨w.heap.size, 15, none⟩ = some (.int .i64 r0) := (cell_row (j := 15) G0.out).trans rfl
      have c1 : W.cell? ⟨w.heap.size, 16, none⟩ = some (.int .i64 r1) := (cell_row (j := 16) G0.out).trans rfl
      clear hd hR hB
      simp only [putF]
      rw [hA, e4]
      go_frame
      go_wp2_with fail
      exact hK.out _ _ _ (by rw [hA]; simp only [putF]; rw [e4]; kernel_rfl) (Below.refl _ _) rfl
    · intro K L us W hK0 hL hd hR
      have hK := hid (fun v A' W' h1 h2 h3 => hK0 v A' W' h1 (hR.pure (k := 6) (by decide) h2 h3)); clear hK0
      (try simp [Region.binds] at hd)
      have hB := hR.grow
      have GB := hid hB
      clear hd hR hB
      simp only [putF]
      rw [hA]
      go_frame
      go_wp2_with fail
      exact hK.out _ _ _ (by rw [hA]; simp only [putF]; kernel_rfl) (Below.refl _ _) rfl
    · intro K L us W hK0 hL hd hR
      have hK := hid (fun v A' W' h1 h2 h3 => hK0 v A' W' h1 (hR.pure (k := 7) (by decide) h2 h3)); clear hK0
      (try simp [Region.binds] at hd)
      have hB := hR.grow
      have GB := hid hB
      have e6 : us 6 = .pointer (some ⟨w.heap.size, 17, none⟩) := hR.vals 6 (by decide) (by first | exact hd | exact hd.1 | exact hd.2.1 | simp_all)
      have G0 := hid (heap_still hB FV.out)
      have c0 : W.cell? ⟨w.heap.size, 17, none⟩ = some (.int .i64 (at_ 0)) := (cell_row (j := 17) G0.out).trans rfl
      have c1 : W.cell? ⟨w.heap.size, 18, none⟩ = some (.int .i64 (at_ 1)) := (cell_row (j := 18) G0.out).trans rfl
      have c2 : W.cell? ⟨w.heap.size, 19, none⟩ = some (.int .i64 (at_ 2)) := (cell_row (j := 19) G0.out).trans rfl
      have c3 : W.cell? ⟨w.heap.size, 20, none⟩ = some (.int .i64 (at_ 3)) := (cell_row (j := 20) G0.out).trans rfl
      clear hd hR hB
      simp only [putF]
      rw [hA, e6]
      go_frame
      go_wp2_with fail
      exact hK.out _ _ _ (by rw [hA]; simp only [putF]; rw [e6]; kernel_rfl) (Below.refl _ _) rfl
    · intro K L us W hK0 hL hd hR
      have hK := hid hK0; clear hK0
      have hR2 := hid (hR.alloc (i := 0) (by decide) hL)
      clear hd hR
      simp only [putF]
      rw [hA]
      go_frame
      go_wp2_with fail
      exact hK.out (.pointer (some ⟨W.heap.size, 0, none⟩)) _ _ (by rw [hA]; kernel_rfl) hR2.out
    · intro K L us W hK0 hL hd hR
      have hK := hid hK0; clear hK0
      have hR2 := hid (hR.alloc (i := 1) (by decide) hL)
      clear hd hR
      simp only [putF]
      rw [hA]
      go_frame
      go_wp2_with fail
      exact hK.out (.pointer (some ⟨W.heap.size, 0, none⟩)) _ _ (by rw [hA]; kernel_rfl) hR2.out
    · intro K L us W hK0 hL hd hR
      have hK := hid hK0; clear hK0
      have hR2 := hid (hR.alloc (i := 2) (by decide) hL)
      clear hd hR
      simp only [putF]
      rw [hA]
      go_frame
      go_wp2_with fail
      exact hK.out (.pointer (some ⟨W.heap.size, 0, none⟩)) _ _ (by rw [hA]; kernel_rfl) hR2.out
    · intro K L us W hK0 hL hd hR
      have hK := hid hK0; clear hK0
      have hR2 := hid (hR.alloc (i := 3) (by decide) hL)
      clear hd hR
      simp only [putF]
      rw [hA]
      go_frame
      go_wp2_with fail
      exact hK.out (.pointer (some ⟨W.heap.size, 0, none⟩)) _ _ (by rw [hA]; kernel_rfl) hR2.out
    · intro K L us W hK0 hL hd hR
      have hK := hid hK0; clear hK0
      (try simp [Region.binds] at hd)
      have hla : L 8 = true := by first | exact hd.1 | exact hd | exact hd.2.1 | simp_all
      have hls : L 1 = true := by first | exact hd.2.1 | exact hd.2 | exact hd.1 | simp_all
      obtain ⟨gbx, e0, hg, hh⟩ := hR.box 0 (by decide) hla
      have hL2 : L (8 + 4 + 0) = false := hL
      rw [hL2, if_neg (by decide)] at hh
      have e1 : us 1 = .agg #[.int .i64 (pl 0), .int .i64 (ph 0), .int .i64 (pl 1), .int .i64 (ph 1), .int .i64 (pl 2), .int .i64 (ph 2), .int .i64 a, .int .i64 b, .int .i64 c, .int .i64 d, .int .i64 t] := hR.vals 1 (by decide) hls
      have hR2 := hid (hR.store (i := 0) (v := undef) (by decide) hla e0 hg hh)
      have hh2 : W.heap[gbx]? = some (.cells #[.int .i64 0, .int .i64 0, .int .i64 0, .int .i64 0, .int .i64 0, .int .i64 0, .int .i64 0, .int .i64 0, .int .i64 0, .int .i64 0, .int .i64 0] 80) := hh
      have e2 : us 8 = .pointer (some ⟨gbx, 0, none⟩) := e0
      have HH := hid hh2
      clear hd hR hh e0 hL2
      simp only [putF]
      rw [hA, e2, e1]
      go_frame
      go_wp2_with (refine wpList_store_at rfl 80 (.tmp 3) (.tmp 29) rfl rfl rfl HH.out size80 rfl rfl rfl ?_)
      exact hK.out undef _ _ (by rw [hA]; simp only [putF]; rw [e2, e1]; kernel_rfl) hR2.out
    · intro K L us W hK0 hL hd hR
      have hK := hid hK0; clear hK0
      (try simp [Region.binds] at hd)
      have hla : L 9 = true := by first | exact hd.1 | exact hd | exact hd.2.1 | simp_all
      have hls : L 3 = true := by first | exact hd.2.1 | exact hd.2 | exact hd.1 | simp_all
      obtain ⟨gbx, e0, hg, hh⟩ := hR.box 1 (by decide) hla
      have hL2 : L (8 + 4 + 1) = false := hL
      rw [hL2, if_neg (by decide)] at hh
      have e1 : us 3 = .agg #[.int .i64 e, .int .i64 f, .int .i64 g, .int .i64 h] := hR.vals 3 (by decide) hls
      have hR2 := hid (hR.store (i := 1) (v := undef) (by decide) hla e0 hg hh)
      have hh2 : W.heap[gbx]? = some (.cells #[.int .i64 0, .int .i64 0, .int .i64 0, .int .i64 0] 22) := hh
      have e2 : us 9 = .pointer (some ⟨gbx, 0, none⟩) := e0
      have HH := hid hh2
      clear hd hR hh e0 hL2
      simp only [putF]
      rw [hA, e2, e1]
      go_frame
      go_wp2_with (refine wpList_store_at rfl 22 (.tmp 4) (.tmp 31) rfl rfl rfl HH.out size22 rfl rfl rfl ?_)
      exact hK.out undef _ _ (by rw [hA]; simp only [putF]; rw [e2, e1]; kernel_rfl) hR2.out
    · intro K L us W hK0 hL hd hR
      have hK := hid hK0; clear hK0
      (try simp [Region.binds] at hd)
      have hla : L 10 = true := by first | exact hd.1 | exact hd | exact hd.2.1 | simp_all
      have hls : L 5 = true := by first | exact hd.2.1 | exact hd.2 | exact hd.1 | simp_all
      obtain ⟨gbx, e0, hg, hh⟩ := hR.box 2 (by decide) hla
      have hL2 : L (8 + 4 + 2) = false := hL
      rw [hL2, if_neg (by decide)] at hh
      have e1 : us 5 = .agg #[.int .i64 r0, .int .i64 r1] := hR.vals 5 (by decide) hls
      have hR2 := hid (hR.store (i := 2) (v := undef) (by decide) hla e0 hg hh)
      have hh2 : W.heap[gbx]? = some (.cells #[.int .i64 0, .int .i64 0] 44) := hh
      have e2 : us 10 = .pointer (some ⟨gbx, 0, none⟩) := e0
      have HH := hid hh2
      clear hd hR hh e0 hL2
      simp only [putF]
      rw [hA, e2, e1]
      go_frame
      go_wp2_with (refine wpList_store_at rfl 44 (.tmp 5) (.tmp 33) rfl rfl rfl HH.out size44 rfl rfl rfl ?_)
      exact hK.out undef _ _ (by rw [hA]; simp only [putF]; rw [e2, e1]; kernel_rfl) hR2.out
    · intro K L us W hK0 hL hd hR
      have hK := hid hK0; clear hK0
      (try simp [Region.binds] at hd)
      have hla : L 11 = true := by first | exact hd.1 | exact hd | exact hd.2.1 | simp_all
      have hls : L 7 = true := by first | exact hd.2.1 | exact hd.2 | exact hd.1 | simp_all
      obtain ⟨gbx, e0, hg, hh⟩ := hR.box 3 (by decide) hla
      have hL2 : L (8 + 4 + 3) = false := hL
      rw [hL2, if_neg (by decide)] at hh
      have e1 : us 7 = .agg #[.int .i64 (at_ 0), .int .i64 (at_ 1), .int .i64 (at_ 2), .int .i64 (at_ 3)] := hR.vals 7 (by decide) hls
      have hR2 := hid (hR.store (i := 3) (v := undef) (by decide) hla e0 hg hh)
      have hh2 : W.heap[gbx]? = some (.cells #[.int .i64 0, .int .i64 0, .int .i64 0, .int .i64 0] 22) := hh
      have e2 : us 11 = .pointer (some ⟨gbx, 0, none⟩) := e0
      have HH := hid hh2
      clear hd hR hh e0 hL2
      simp only [putF]
      rw [hA, e2, e1]
      go_frame
      go_wp2_with (refine wpList_store_at rfl 22 (.tmp 6) (.tmp 35) rfl rfl rfl HH.out size22 rfl rfl rfl ?_)
      exact hK.out undef _ _ (by rw [hA]; simp only [putF]; rw [e2, e1]; kernel_rfl) hR2.out
  intro L us w1 hL hR
  obtain ⟨g3, e3, hg3, hh3⟩ := hR.box 0 (by decide) (hL _ (by decide))
  rw [if_pos (hL _ (by decide))] at hh3
  have HH3 := hid (show w1.heap[g3]? = some (.cells #[.int .i64 (pl 0), .int .i64 (ph 0), .int .i64 (pl 1), .int .i64 (ph 1), .int .i64 (pl 2), .int .i64 (ph 2), .int .i64 a, .int .i64 b, .int .i64 c, .int .i64 d, .int .i64 t] 80) from hh3)
  have e3 : us 8 = .pointer (some ⟨g3, 0, none⟩) := e3
  obtain ⟨g4, e4, hg4, hh4⟩ := hR.box 1 (by decide) (hL _ (by decide))
  rw [if_pos (hL _ (by decide))] at hh4
  have HH4 := hid (show w1.heap[g4]? = some (.cells #[.int .i64 e, .int .i64 f, .int .i64 g, .int .i64 h] 22) from hh4)
  have e4 : us 9 = .pointer (some ⟨g4, 0, none⟩) := e4
  obtain ⟨g5, e5, hg5, hh5⟩ := hR.box 2 (by decide) (hL _ (by decide))
  rw [if_pos (hL _ (by decide))] at hh5
  have HH5 := hid (show w1.heap[g5]? = some (.cells #[.int .i64 r0, .int .i64 r1] 44) from hh5)
  have e5 : us 10 = .pointer (some ⟨g5, 0, none⟩) := e5
  obtain ⟨g6, e6, hg6, hh6⟩ := hR.box 3 (by decide) (hL _ (by decide))
  rw [if_pos (hL _ (by decide))] at hh6
  have HH6 := hid (show w1.heap[g6]? = some (.cells #[.int .i64 (at_ 0), .int .i64 (at_ 1), .int .i64 (at_ 2), .int .i64 (at_ 3)] 22) from hh6)
  have e6 : us 11 = .pointer (some ⟨g6, 0, none⟩) := e6
  have hne3_4 : g3 ≠ g4 := fun h => hR.ne 0 1 (by decide) (by decide) (by decide) (hL _ (by decide)) (hL _ (by decide)) (by rw [show us (8 + 0) = _ from e3, show us (8 + 1) = _ from e4, h])
  have hne3_5 : g3 ≠ g5 := fun h => hR.ne 0 2 (by decide) (by decide) (by decide) (hL _ (by decide)) (hL _ (by decide)) (by rw [show us (8 + 0) = _ from e3, show us (8 + 2) = _ from e5, h])
  have hne3_6 : g3 ≠ g6 := fun h => hR.ne 0 3 (by decide) (by decide) (by decide) (hL _ (by decide)) (hL _ (by decide)) (by rw [show us (8 + 0) = _ from e3, show us (8 + 3) = _ from e6, h])
  have hne4_5 : g4 ≠ g5 := fun h => hR.ne 1 2 (by decide) (by decide) (by decide) (hL _ (by decide)) (hL _ (by decide)) (by rw [show us (8 + 1) = _ from e4, show us (8 + 2) = _ from e5, h])
  have hne4_6 : g4 ≠ g6 := fun h => hR.ne 1 3 (by decide) (by decide) (by decide) (hL _ (by decide)) (hL _ (by decide)) (by rw [show us (8 + 1) = _ from e4, show us (8 + 3) = _ from e6, h])
  have hne5_6 : g5 ≠ g6 := fun h => hR.ne 2 3 (by decide) (by decide) (by decide) (hL _ (by decide)) (hL _ (by decide)) (by rw [show us (8 + 2) = _ from e5, show us (8 + 3) = _ from e6, h])
  have HBw1 := hid (HB0.out.trans (hR.grow.mono HB0.out.size))
  have HSw1 := hid (fun n x => @heap_still _ _ n x hR.grow)
  have hzw1 := hR.grow.size
  simp only [putF]
  rw [hA, e3, e4, e5, e6]
  clear hA hR hL hh3 e3 hh4 e4 hh5 e5 hh6 e6
  go_frame
  have Pw1 := hid HH3.out
  have Sw1 := hid HH4.out
  have Rw1 := hid HH5.out
  have Aw1 := hid HH6.out
  clear HH3 HH4 HH5 HH6 FV
  go_wp2_with (first | (refine wpList_load_at rfl 80 (.tmp 3) rfl rfl Pw1.out Try.underlying80 rfl size80 rfl ?_) | (refine wpList_load_at rfl 22 (.tmp 4) rfl rfl Sw1.out Try.underlying22 rfl size22 rfl ?_) | (refine wpList_load_at rfl 44 (.tmp 5) rfl rfl Rw1.out Try.underlying44 rfl size44 rfl ?_))
  refine (HX.out _).mono ?_
  rintro r w2 ⟨rfl, hb⟩
  have HBw2 := hid (show Below w.heap.size w w2 by have hB0 := HBw1.out; refine Below.trans ?_ (hb.mono ?_); (focus ((repeat' (first | (with_reducible exact Below.refl _ _) | (with_reducible assumption) | (with_reducible refine Below.alloc ?_ ?_ _) | (with_reducible refine Below.drew ?_) | (with_reducible refine below_drewN ?_ _) | (with_reducible refine Below.setCell ?_ ?_ _) | (with_reducible refine below_setRow ?_ ?_ _) | go_size)); done)); (focus (first | (simp; done) | (simp; omega) | (have hB1 := hB0.size; simp; omega))))
  have hsw2 := hb.size
  (try simp at hsw2)
  have hzw2 : w.heap.size < w2.heap.size := by omega
  have hkw2 := hid (fun n x => @heap_still _ _ n x hb)
  have hbw2 := hid hb
  clear hb
  have Pw2 := hid (hkw2.out _ _ Pw1.out)
  have Sw2 := hid (hkw2.out _ _ Sw1.out)
  have Rw2 := hid (hkw2.out _ _ Rw1.out)
  have Aw2 := hid (hkw2.out _ _ Aw1.out)
  go_wp2_with (first | (refine wpList_store_new rfl 46 (.tmp 7) (.tmp 41) rfl rfl rfl rfl size46 rfl rfl rfl ?_) | (refine wpList_load_at rfl 80 (.tmp 3) rfl rfl (heap_alloc_past _ _ _ _ Pw2.out) Try.underlying80 rfl size80 rfl ?_) | (refine wpList_load_at rfl 22 (.tmp 4) rfl rfl (heap_alloc_past _ _ _ _ Sw2.out) Try.underlying22 rfl size22 rfl ?_) | (refine wpList_load_at rfl 44 (.tmp 5) rfl rfl (heap_alloc_past _ _ _ _ Rw2.out) Try.underlying44 rfl size44 rfl ?_))
  refine (HR.out _).mono ?_
  rintro r w3 ⟨rfl, hb⟩
  have HBw3 := hid (show Below w.heap.size w w3 by have hB0 := HBw2.out; refine Below.trans ?_ (hb.mono ?_); (focus ((repeat' (first | (with_reducible exact Below.refl _ _) | (with_reducible assumption) | (with_reducible refine Below.alloc ?_ ?_ _) | (with_reducible refine Below.drew ?_) | (with_reducible refine below_drewN ?_ _) | (with_reducible refine Below.setCell ?_ ?_ _) | (with_reducible refine below_setRow ?_ ?_ _) | go_size)); done)); (focus (first | (simp; done) | (simp; omega) | (have hB1 := hB0.size; simp; omega))))
  have hsw3 := hb.size
  (try simp at hsw3)
  have hzw3 : w.heap.size < w3.heap.size := by omega
  have hkw3 := hid (fun n x => @heap_still _ _ n x hb)
  have hbw3 := hid hb
  clear hb
  have Pw3 := hid (hkw3.out _ _ (heap_alloc_past _ _ _ _ Pw2.out))
  have Sw3 := hid (hkw3.out _ _ (heap_alloc_past _ _ _ _ Sw2.out))
  have Rw3 := hid (hkw3.out _ _ (heap_alloc_past _ _ _ _ Rw2.out))
  have Aw3 := hid (hkw3.out _ _ (heap_alloc_past _ _ _ _ Aw2.out))
  go_wp2_with (first | (refine wpList_store_new rfl 46 (.tmp 9) (.tmp 48) rfl rfl rfl rfl size46 rfl rfl rfl ?_))
  refine (awake_any _).mono ?_
  rintro r w4 ⟨rfl, hb⟩
  have HBw4 := hid (show Below w.heap.size w w4 by have hB0 := HBw3.out; refine Below.trans ?_ (hb.mono ?_); (focus ((repeat' (first | (with_reducible exact Below.refl _ _) | (with_reducible assumption) | (with_reducible refine Below.alloc ?_ ?_ _) | (with_reducible refine Below.drew ?_) | (with_reducible refine below_drewN ?_ _) | (with_reducible refine Below.setCell ?_ ?_ _) | (with_reducible refine below_setRow ?_ ?_ _) | go_size)); done)); (focus (first | (simp; done) | (simp; omega) | (have hB1 := hB0.size; simp; omega))))
  have hsw4 := hb.size
  (try simp at hsw4)
  have hzw4 : w.heap.size < w4.heap.size := by omega
  obtain ⟨hcw4, hfw4⟩ := bcell hb
  have hkw4 := hid (fun n x => @heap_still _ _ n x hb)
  clear hb
  go_wp2_with fail
  go_ret
  exact ⟨rfl, HBw4.out⟩
set_option maxRecDepth 100000 in
set_option maxHeartbeats 6400000 in
theorem places_walk (pl ph at_ kb bl bh il ih : Nat → Int) (a b c d t e f g h r0 r1 n m0 m1 m2 m3 : Int) (w : World)
    (hpb : ∀ i, i < 3 → (-268435456 ≤ pl i ∧ pl i ≤ 268435456) ∧ (-268435456 ≤ ph i ∧ ph i ≤ 268435456)) (hrb : (0 ≤ r0 ∧ r0 ≤ 4194304) ∧ (0 ≤ r1 ∧ r1 ≤ 4194304)) (htb : 0 ≤ t ∧ t ≤ 2147483648) (hnb : 1 ≤ n ∧ n ≤ 64000000000000)
    (hkb : ∀ i, i < 3 → -64000000000000 ≤ kb i ∧ kb i ≤ 64000000000000) (hbb : ∀ i, i < 3 → (-268435456 ≤ bl i ∧ bl i ≤ 268435456) ∧ (-268435456 ≤ bh i ∧ bh i ≤ 268435456))
    (hx : ∀ W, Calls Try.prog 49 #[.agg #[.int .i64 (pl 0), .int .i64 (ph 0), .int .i64 (pl 1), .int .i64 (ph 1), .int .i64 (pl 2), .int .i64 (ph 2), .int .i64 a, .int .i64 b, .int .i64 c, .int .i64 d, .int .i64 t], .agg #[.int .i64 e, .int .i64 f, .int .i64 g, .int .i64 h], .agg #[.int .i64 r0, .int .i64 r1]] W fun r w' => r = .returned (.tuple #[.agg #[.int .i64 (bl 0), .int .i64 (bh 0), .int .i64 (bl 1), .int .i64 (bh 1), .int .i64 (bl 2), .int .i64 (bh 2)], .int .i64 0]) ∧ Below W.heap.size W w')
    (hr : ∀ W, Calls Try.prog 50 #[.agg #[.int .i64 (pl 0), .int .i64 (ph 0), .int .i64 (pl 1), .int .i64 (ph 1), .int .i64 (pl 2), .int .i64 (ph 2), .int .i64 a, .int .i64 b, .int .i64 c, .int .i64 d, .int .i64 t], .agg #[.int .i64 e, .int .i64 f, .int .i64 g, .int .i64 h], .agg #[.int .i64 r0, .int .i64 r1]] W fun r w' => r = .returned (.tuple #[.agg #[.int .i64 (bl 0), .int .i64 (bh 0), .int .i64 (bl 1), .int .i64 (bh 1), .int .i64 (bl 2), .int .i64 (bh 2)], .int .i64 0]) ∧ Below W.heap.size W w')
    (hp : ∀ W, Calls Try.prog 21 #[.agg #[.int .i64 a, .int .i64 b, .int .i64 c, .int .i64 d], .agg #[.int .i64 e, .int .i64 f, .int .i64 g, .int .i64 h]] W fun r w' => r = .returned (.tuple #[.agg #[.int .i64 m0, .int .i64 m1, .int .i64 m2, .int .i64 m3], .int .i64 0]) ∧ Below W.heap.size W w')
    (hbm : ∀ W, Calls Try.prog 23 #[.agg #[.int .i64 m0, .int .i64 m1, .int .i64 m2, .int .i64 m3]] W fun r w' => r = .returned (.tuple #[.agg #[.int .i64 (kb 0), .int .i64 (kb 1), .int .i64 (kb 2)], .int .i64 n, .int .i64 0]) ∧ Below W.heap.size W w')
    (hin : ∀ i, i < 3 → ((bl i : Int) : Rat) ≤ cQ pl ph at_ i + farQ r0 r1 at_ * ((kb i : Int) : Rat) / (n : Rat) ∧ cQ pl ph at_ i + farQ r0 r1 at_ * ((kb i : Int) : Rat) / (n : Rat) ≤ ((bh i : Int) : Rat))
    (hnl : ∀ i, i < 3 → -268435456 ≤ nlQ pl ph at_ i ∧ nlQ pl ph at_ i ≤ 268435456) (hrf : 0 ≤ (farQ r0 r1 at_).floor ∧ (farQ r0 r1 at_).floor ≤ 4194304)
    (hx2 : ∀ W, Calls Try.prog 49 #[.agg #[.int .i64 (nlQ pl ph at_ 0), .int .i64 (ph 0), .int .i64 (nlQ pl ph at_ 1), .int .i64 (ph 1), .int .i64 (nlQ pl ph at_ 2), .int .i64 (ph 2), .int .i64 a, .int .i64 b, .int .i64 c, .int .i64 d, .int .i64 (t / 2)], .agg #[.int .i64 e, .int .i64 f, .int .i64 g, .int .i64 h], .agg #[.int .i64 (farQ r0 r1 at_).floor, .int .i64 r1]] W fun r w' => r = .returned (.tuple #[.agg #[.int .i64 (il 0), .int .i64 (ih 0), .int .i64 (il 1), .int .i64 (ih 1), .int .i64 (il 2), .int .i64 (ih 2)], .int .i64 0]) ∧ Below W.heap.size W w')
    (his : ∀ W, Calls Try.prog 30 #[.agg #[.int .i64 (il 0), .int .i64 (ih 0), .int .i64 (il 1), .int .i64 (ih 1), .int .i64 (il 2), .int .i64 (ih 2)], .agg #[.int .i64 (bl 0), .int .i64 (bh 0), .int .i64 (bl 1), .int .i64 (bh 1), .int .i64 (bl 2), .int .i64 (bh 2)]] W fun r w' => r = .returned (.bool true) ∧ Below W.heap.size W w') :
    Calls Try.prog 12 #[.agg #[.int .i64 (pl 0), .int .i64 (ph 0), .int .i64 (pl 1), .int .i64 (ph 1), .int .i64 (pl 2), .int .i64 (ph 2), .int .i64 a, .int .i64 b, .int .i64 c, .int .i64 d, .int .i64 t, .int .i64 e, .int .i64 f, .int .i64 g, .int .i64 h, .int .i64 r0, .int .i64 r1, .int .i64 (at_ 0), .int .i64 (at_ 1), .int .i64 (at_ 2), .int .i64 (at_ 3)]] w fun r w' => r = .returned (.bool true) ∧ Below w.heap.size w w' := by
  have HX := hid hx
  have HR := hid hr
  have HPR := hid hp
  have HBM := hid hbm
  have HIN := hid hin
  have HNL := hid hnl
  have HX2 := hid hx2
  have HIS := hid his
  have HPB := hid hpb
  have HKB := hid hkb
  have HBB := hid hbb
  clear hx hr hp hbm hin hnl hx2 his hpb hkb hbb
  have HBw := hid (Below.refl w.heap.size w)
  go_enter Try.func12, Try.ntmps12
  go_wp2_with fail
  refine gen_world (fun W0 hW => ?_)
  have HB0 := hid (show Below w.heap.size w W0 by rw [hW]; (repeat' (first | (with_reducible exact Below.refl _ _) | (with_reducible assumption) | (with_reducible refine Below.alloc ?_ ?_ _) | (with_reducible refine Below.drew ?_) | (with_reducible refine below_drewN ?_ _) | (with_reducible refine Below.setCell ?_ ?_ _) | (with_reducible refine below_setRow ?_ ?_ _) | go_size)))
  have FV := hid (show W0.heap[w.heap.size]? = some (.cells #[.int .i64 (pl 0), .int .i64 (ph 0), .int .i64 (pl 1), .int .i64 (ph 1), .int .i64 (pl 2), .int .i64 (ph 2), .int .i64 a, .int .i64 b, .int .i64 c, .int .i64 d, .int .i64 t, .int .i64 e, .int .i64 f, .int .i64 g, .int .i64 h, .int .i64 r0, .int .i64 r1, .int .i64 (at_ 0), .int .i64 (at_ 1), .int .i64 (at_ 2), .int .i64 (at_ 3)] 88) by rw [hW]; exact (by repeat' (first | (refine heap_alloc_at _ _ _ ?_; (first | rfl | (simp; done) | (simp; omega))) | (refine heap_alloc_past _ _ _ _ ?_))))
  have hs0 : w.heap.size < W0.heap.size := (Array.getElem?_eq_some_iff.1 FV.out).1
  clear hW
  refine gen_act (fun A0 hA => ?_)
  refine wp_region_by (by kernel_rfl) (by kernel_rfl) [some 28, some 29, some 30, some 31, some 32, some 33, some 34, some 35, some 3, some 4, some 5, some 6, none, none, none, none] rfl (by decide) (BoxR W0 8 4 (fun j => [.pointer (some ⟨w.heap.size, 0, none⟩), .agg #[.int .i64 (pl 0), .int .i64 (ph 0), .int .i64 (pl 1), .int .i64 (ph 1), .int .i64 (pl 2), .int .i64 (ph 2), .int .i64 a, .int .i64 b, .int .i64 c, .int .i64 d, .int .i64 t], .pointer (some ⟨w.heap.size, 11, none⟩), .agg #[.int .i64 e, .int .i64 f, .int .i64 g, .int .i64 h], .pointer (some ⟨w.heap.size, 15, none⟩), .agg #[.int .i64 r0, .int .i64 r1], .pointer (some ⟨w.heap.size, 17, none⟩), .agg #[.int .i64 (at_ 0), .int .i64 (at_ 1), .int .i64 (at_ 2), .int .i64 (at_ 3)]].getD j undef) (fun i => [#[.int .i64 0, .int .i64 0, .int .i64 0, .int .i64 0, .int .i64 0, .int .i64 0, .int .i64 0, .int .i64 0, .int .i64 0, .int .i64 0, .int .i64 0], #[.int .i64 0, .int .i64 0, .int .i64 0, .int .i64 0], #[.int .i64 0, .int .i64 0], #[.int .i64 0, .int .i64 0, .int .i64 0, .int .i64 0]].getD i #[]) (fun i => [#[.int .i64 (pl 0), .int .i64 (ph 0), .int .i64 (pl 1), .int .i64 (ph 1), .int .i64 (pl 2), .int .i64 (ph 2), .int .i64 a, .int .i64 b, .int .i64 c, .int .i64 d, .int .i64 t], #[.int .i64 e, .int .i64 f, .int .i64 g, .int .i64 h], #[.int .i64 r0, .int .i64 r1], #[.int .i64 (at_ 0), .int .i64 (at_ 1), .int .i64 (at_ 2), .int .i64 (at_ 3)]].getD i #[]) (fun i => ([80, 22, 44, 22] : List Nat).getD i 0)) (selfF A0 _) (putF_self A0 _) BoxR.start ?hs1_1_w1 ?hend_1_w1
  case hs1_1_w1 =>
    refine ⟨?_, ?_, ?_, ?_, ?_, ?_, ?_, ?_, ?_, ?_, ?_, ?_, ?_, ?_, ?_, ?_, trivial⟩
    · intro K L us W hK0 hL hd hR
      have hK := hid (fun v A' W' h1 h2 h3 => hK0 v A' W' h1 (hR.pure (k := 0) (by decide) h2 h3)); clear hK0
      (try simp [Region.binds] at hd)
      have hB := hR.grow
      have GB := hid hB
      clear hd hR hB
      simp only [putF]
      rw [hA]
      go_frame
      go_wp2_with fail
      exact hK.out _ _ _ (by rw [hA]; simp only [putF]; kernel_rfl) (Below.refl _ _) rfl
    · intro K L us W hK0 hL hd hR
      have hK := hid (fun v A' W' h1 h2 h3 => hK0 v A' W' h1 (hR.pure (k := 1) (by decide) h2 h3)); clear hK0
      (try simp [Region.binds] at hd)
      have hB := hR.grow
      have GB := hid hB
      have e0 : us 0 = .pointer (some ⟨w.heap.size, 0, none⟩) := hR.vals 0 (by decide) (by first | exact hd | exact hd.1 | exact hd.2.1 | simp_all)
      have G0 := hid (heap_still hB FV.out)
      have c0 : W.cell? ⟨w.heap.size, 0, none⟩ = some (.int .i64 (pl 0)) := (cell_row (j := 0) G0.out).trans rfl
      have c1 : W.cell? ⟨w.heap.size, 1, none⟩ = some (.int .i64 (ph 0)) := (cell_row (j := 1) G0.out).trans rfl
      have c2 : W.cell? ⟨w.heap.size, 2, none⟩ = some (.int .i64 (pl 1)) := (cell_row (j := 2) G0.out).trans rfl
      have c3 : W.cell? ⟨w.heap.size, 3, none⟩ = some (.int .i64 (ph 1)) := (cell_row (j := 3) G0.out).trans rfl
      have c4 : W.cell? ⟨w.heap.size, 4, none⟩ = some (.int .i64 (pl 2)) := (cell_row (j := 4) G0.out).trans rfl
      have c5 : W.cell? ⟨w.heap.size, 5, none⟩ = some (.int .i64 (ph 2)) := (cell_row (j := 5) G0.out).trans rfl
      have c6 : W.cell? ⟨w.heap.size, 6, none⟩ = some (.int .i64 a) := (cell_row (j := 6) G0.out).trans rfl
      have c7 : W.cell? ⟨w.heap.size, 7, none⟩ = some (.int .i64 b) := (cell_row (j := 7) G0.out).trans rfl
      have c8 : W.cell? ⟨w.heap.size, 8, none⟩ = some (.int .i64 c) := (cell_row (j := 8) G0.out).trans rfl
      have c9 : W.cell? ⟨w.heap.size, 9, none⟩ = some (.int .i64 d) := (cell_row (j := 9) G0.out).trans rfl
      have c10 : W.cell? ⟨w.heap.size, 10, none⟩ = some (.int .i64 t) := (cell_row (j := 10) G0.out).trans rfl
      clear hd hR hB
      simp only [putF]
      rw [hA, e0]
      go_frame
      go_wp2_with fail
      exact hK.out _ _ _ (by rw [hA]; simp only [putF]; rw [e0]; kernel_rfl) (Below.refl _ _) rfl
    · intro K L us W hK0 hL hd hR
      have hK := hid (fun v A' W' h1 h2 h3 => hK0 v A' W' h1 (hR.pure (k := 2) (by decide) h2 h3)); clear hK0
      (try simp [Region.binds] at hd)
      have hB := hR.grow
      have GB := hid hB
      clear hd hR hB
      simp only [putF]
      rw [hA]
      go_frame
      go_wp2_with fail
      exact hK.out _ _ _ (by rw [hA]; simp only [putF]; kernel_rfl) (Below.refl _ _) rfl
    · intro K L us W hK0 hL hd hR
      have hK := hid (fun v A' W' h1 h2 h3 => hK0 v A' W' h1 (hR.pure (k := 3) (by decide) h2 h3)); clear hK0
      (try simp [Region.binds] at hd)
      have hB := hR.grow
      have GB := hid hB
      have e2 : us 2 = .pointer (some ⟨w.heap.size, 11, none⟩) := hR.vals 2 (by decide) (by first | exact hd | exact hd.1 | exact hd.2.1 | simp_all)
      have G0 := hid (heap_still hB FV.out)
      have c0 : W.cell? ⟨w.heap.size, 11, none⟩ = some (.int .i64 e) := (cell_row (j := 11) G0.out).trans rfl
      have c1 : W.cell? ⟨w.heap.size, 12, none⟩ = some (.int .i64 f) := (cell_row (j := 12) G0.out).trans rfl
      have c2 : W.cell? ⟨w.heap.size, 13, none⟩ = some (.int .i64 g) := (cell_row (j := 13) G0.out).trans rfl
      have c3 : W.cell? ⟨w.heap.size, 14, none⟩ = some (.int .i64 h) := (cell_row (j := 14) G0.out).trans rfl
      clear hd hR hB
      simp only [putF]
      rw [hA, e2]
      go_frame
      go_wp2_with fail
      exact hK.out _ _ _ (by rw [hA]; simp only [putF]; rw [e2]; kernel_rfl) (Below.refl _ _) rfl
    · intro K L us W hK0 hL hd hR
      have hK := hid (fun v A' W' h1 h2 h3 => hK0 v A' W' h1 (hR.pure (k := 4) (by decide) h2 h3)); clear hK0
      (try simp [Region.binds] at hd)
      have hB := hR.grow
      have GB := hid hB
      clear hd hR hB
      simp only [putF]
      rw [hA]
      go_frame
      go_wp2_with fail
      exact hK.out _ _ _ (by rw [hA]; simp only [putF]; kernel_rfl) (Below.refl _ _) rfl
    · intro K L us W hK0 hL hd hR
      have hK := hid (fun v A' W' h1 h2 h3 => hK0 v A' W' h1 (hR.pure (k := 5) (by decide) h2 h3)); clear hK0
      (try simp [Region.binds] at hd)
      have hB := hR.grow
      have GB := hid hB
      have e4 : us 4 = .pointer (some ⟨w.heap.size, 15, none⟩) := hR.vals 4 (by decide) (by first | exact hd | exact hd.1 | exact hd.2.1 | simp_all)
      have G0 := hid (heap_still hB FV.out)
      have c0 : W.cell? ⟨w.heap.size, 15, none⟩ = some (.int .i64 r0) := (cell_row (j := 15) G0.out).trans rfl
      have c1 : W.cell? ⟨w.heap.size, 16, none⟩ = some (.int .i64 r1) := (cell_row (j := 16) G0.out).trans rfl
      clear hd hR hB
      simp only [putF]
      rw [hA, e4]
      go_frame
      go_wp2_with fail
      exact hK.out _ _ _ (by rw [hA]; simp only [putF]; rw [e4]; kernel_rfl) (Below.refl _ _) rfl
    · intro K L us W hK0 hL hd hR
      have hK := hid (fun v A' W' h1 h2 h3 => hK0 v A' W' h1 (hR.pure (k := 6) (by decide) h2 h3)); clear hK0
      (try simp [Region.binds] at hd)
      have hB := hR.grow
      have GB := hid hB
      clear hd hR hB
      simp only [putF]
      rw [hA]
      go_frame
      go_wp2_with fail
      exact hK.out _ _ _ (by rw [hA]; simp only [putF]; kernel_rfl) (Below.refl _ _) rfl
    · intro K L us W hK0 hL hd hR
      have hK := hid (fun v A' W' h1 h2 h3 => hK0 v A' W' h1 (hR.pure (k := 7) (by decide) h2 h3)); clear hK0
      (try simp [Region.binds] at hd)
      have hB := hR.grow
      have GB := hid hB
      have e6 : us 6 = .pointer (some ⟨w.heap.size, 17, none⟩) := hR.vals 6 (by decide) (by first | exact hd | exact hd.1 | exact hd.2.1 | simp_all)
      have G0 := hid (heap_still hB FV.out)
      have c0 : W.cell? ⟨w.heap.size, 17, none⟩ = some (.int .i64 (at_ 0)) := (cell_row (j := 17) G0.out).trans rfl
      have c1 : W.cell? ⟨w.heap.size, 18, none⟩ = some (.int .i64 (at_ 1)) := (cell_row (j := 18) G0.out).trans rfl
      have c2 : W.cell? ⟨w.heap.size, 19, none⟩ = some (.int .i64 (at_ 2)) := (cell_row (j := 19) G0.out).trans rfl
      have c3 : W.cell? ⟨w.heap.size, 20, none⟩ = some (.int .i64 (at_ 3)) := (cell_row (j := 20) G0.out).trans rfl
      clear hd hR hB
      simp only [putF]
      rw [hA, e6]
      go_frame
      go_wp2_with fail
      exact hK.out _ _ _ (by rw [hA]; simp only [putF]; rw [e6]; kernel_rfl) (Below.refl _ _) rfl
    · intro K L us W hK0 hL hd hR
      have hK := hid hK0; clear hK0
      have hR2 := hid (hR.alloc (i := 0) (by decide) hL)
      clear hd hR
      simp only [putF]
      rw [hA]
      go_frame
      go_wp2_with fail
      exact hK.out (.pointer (some ⟨W.heap.size, 0, none⟩)) _ _ (by rw [hA]; kernel_rfl) hR2.out
    · intro K L us W hK0 hL hd hR
      have hK := hid hK0; clear hK0
      have hR2 := hid (hR.alloc (i := 1) (by decide) hL)
      clear hd hR
      simp only [putF]
      rw [hA]
      go_frame
      go_wp2_with fail
      exact hK.out (.pointer (some ⟨W.heap.size, 0, none⟩)) _ _ (by rw [hA]; kernel_rfl) hR2.out
    · intro K L us W hK0 hL hd hR
      have hK := hid hK0; clear hK0
      have hR2 := hid (hR.alloc (i := 2) (by decide) hL)
      clear hd hR
      simp only [putF]
      rw [hA]
      go_frame
      go_wp2_with fail
      exact hK.out (.pointer (some ⟨W.heap.size, 0, none⟩)) _ _ (by rw [hA]; kernel_rfl) hR2.out
    · intro K L us W hK0 hL hd hR
      have hK := hid hK0; clear hK0
      have hR2 := hid (hR.alloc (i := 3) (by decide) hL)
      clear hd hR
      simp only [putF]
      rw [hA]
      go_frame
      go_wp2_with fail
      exact hK.out (.pointer (some ⟨W.heap.size, 0, none⟩)) _ _ (by rw [hA]; kernel_rfl) hR2.out
    · intro K L us W hK0 hL hd hR
      have hK := hid hK0; clear hK0
      (try simp [Region.binds] at hd)
      have hla : L 8 = true := by first | exact hd.1 | exact hd | exact hd.2.1 | simp_all
      have hls : L 1 = true := by first | exact hd.2.1 | exact hd.2 | exact hd.1 | simp_all
      obtain ⟨gbx, e0, hg, hh⟩ := hR.box 0 (by decide) hla
      have hL2 : L (8 + 4 + 0) = false := hL
      rw [hL2, if_neg (by decide)] at hh
      have e1 : us 1 = .agg #[.int .i64 (pl 0), .int .i64 (ph 0), .int .i64 (pl 1), .int .i64 (ph 1), .int .i64 (pl 2), .int .i64 (ph 2), .int .i64 a, .int .i64 b, .int .i64 c, .int .i64 d, .int .i64 t] := hR.vals 1 (by decide) hls
      have hR2 := hid (hR.store (i := 0) (v := undef) (by decide) hla e0 hg hh)
      have hh2 : W.heap[gbx]? = some (.cells #[.int .i64 0, .int .i64 0, .int .i64 0, .int .i64 0, .int .i64 0, .int .i64 0, .int .i64 0, .int .i64 0, .int .i64 0, .int .i64 0, .int .i64 0] 80) := hh
      have e2 : us 8 = .pointer (some ⟨gbx, 0, none⟩) := e0
      have HH := hid hh2
      clear hd hR hh e0 hL2
      simp only [putF]
      rw [hA, e2, e1]
      go_frame
      go_wp2_with (refine wpList_store_at rfl 80 (.tmp 3) (.tmp 29) rfl rfl rfl HH.out size80 rfl rfl rfl ?_)
      exact hK.out undef _ _ (by rw [hA]; simp only [putF]; rw [e2, e1]; kernel_rfl) hR2.out
    · intro K L us W hK0 hL hd hR
      have hK := hid hK0; clear hK0
      (try simp [Region.binds] at hd)
      have hla : L 9 = true := by first | exact hd.1 | exact hd | exact hd.2.1 | simp_all
      have hls : L 3 = true := by first | exact hd.2.1 | exact hd.2 | exact hd.1 | simp_all
      obtain ⟨gbx, e0, hg, hh⟩ := hR.box 1 (by decide) hla
      have hL2 : L (8 + 4 + 1) = false := hL
      rw [hL2, if_neg (by decide)] at hh
      have e1 : us 3 = .agg #[.int .i64 e, .int .i64 f, .int .i64 g, .int .i64 h] := hR.vals 3 (by decide) hls
      have hR2 := hid (hR.store (i := 1) (v := undef) (by decide) hla e0 hg hh)
      have hh2 : W.heap[gbx]? = some (.cells #[.int .i64 0, .int .i64 0, .int .i64 0, .int .i64 0] 22) := hh
      have e2 : us 9 = .pointer (some ⟨gbx, 0, none⟩) := e0
      have HH := hid hh2
      clear hd hR hh e0 hL2
      simp only [putF]
      rw [hA, e2, e1]
      go_frame
      go_wp2_with (refine wpList_store_at rfl 22 (.tmp 4) (.tmp 31) rfl rfl rfl HH.out size22 rfl rfl rfl ?_)
      exact hK.out undef _ _ (by rw [hA]; simp only [putF]; rw [e2, e1]; kernel_rfl) hR2.out
    · intro K L us W hK0 hL hd hR
      have hK := hid hK0; clear hK0
      (try simp [Region.binds] at hd)
      have hla : L 10 = true := by first | exact hd.1 | exact hd | exact hd.2.1 | simp_all
      have hls : L 5 = true := by first | exact hd.2.1 | exact hd.2 | exact hd.1 | simp_all
      obtain ⟨gbx, e0, hg, hh⟩ := hR.box 2 (by decide) hla
      have hL2 : L (8 + 4 + 2) = false := hL
      rw [hL2, if_neg (by decide)] at hh
      have e1 : us 5 = .agg #[.int .i64 r0, .int .i64 r1] := hR.vals 5 (by decide) hls
      have hR2 := hid (hR.store (i := 2) (v := undef) (by decide) hla e0 hg hh)
      have hh2 : W.heap[gbx]? = some (.cells #[.int .i64 0, .int .i64 0] 44) := hh
      have e2 : us 10 = .pointer (some ⟨gbx, 0, none⟩) := e0
      have HH := hid hh2
      clear hd hR hh e0 hL2
      simp only [putF]
      rw [hA, e2, e1]
      go_frame
      go_wp2_with (refine wpList_store_at rfl 44 (.tmp 5) (.tmp 33) rfl rfl rfl HH.out size44 rfl rfl rfl ?_)
      exact hK.out undef _ _ (by rw [hA]; simp only [putF]; rw [e2, e1]; kernel_rfl) hR2.out
    · intro K L us W hK0 hL hd hR
      have hK := hid hK0; clear hK0
      (try simp [Region.binds] at hd)
      have hla : L 11 = true := by first | exact hd.1 | exact hd | exact hd.2.1 | simp_all
      have hls : L 7 = true := by first | exact hd.2.1 | exact hd.2 | exact hd.1 | simp_all
      obtain ⟨gbx, e0, hg, hh⟩ := hR.box 3 (by decide) hla
      have hL2 : L (8 + 4 + 3) = false := hL
      rw [hL2, if_neg (by decide)] at hh
      have e1 : us 7 = .agg #[.int .i64 (at_ 0), .int .i64 (at_ 1), .int .i64 (at_ 2), .int .i64 (at_ 3)] := hR.vals 7 (by decide) hls
      have hR2 := hid (hR.store (i := 3) (v := undef) (by decide) hla e0 hg hh)
      have hh2 : W.heap[gbx]? = some (.cells #[.int .i64 0, .int .i64 0, .int .i64 0, .int .i64 0] 22) := hh
      have e2 : us 11 = .pointer (some ⟨gbx, 0, none⟩) := e0
      have HH := hid hh2
      clear hd hR hh e0 hL2
      simp only [putF]
      rw [hA, e2, e1]
      go_frame
      go_wp2_with (refine wpList_store_at rfl 22 (.tmp 6) (.tmp 35) rfl rfl rfl HH.out size22 rfl rfl rfl ?_)
      exact hK.out undef _ _ (by rw [hA]; simp only [putF]; rw [e2, e1]; kernel_rfl) hR2.out
  intro L us w1 hL hR
  obtain ⟨g3, e3, hg3, hh3⟩ := hR.box 0 (by decide) (hL _ (by decide))
  rw [if_pos (hL _ (by decide))] at hh3
  have HH3 := hid (show w1.heap[g3]? = some (.cells #[.int .i64 (pl 0), .int .i64 (ph 0), .int .i64 (pl 1), .int .i64 (ph 1), .int .i64 (pl 2), .int .i64 (ph 2), .int .i64 a, .int .i64 b, .int .i64 c, .int .i64 d, .int .i64 t] 80) from hh3)
  have e3 : us 8 = .pointer (some ⟨g3, 0, none⟩) := e3
  obtain ⟨g4, e4, hg4, hh4⟩ := hR.box 1 (by decide) (hL _ (by decide))
  rw [if_pos (hL _ (by decide))] at hh4
  have HH4 := hid (show w1.heap[g4]? = some (.cells #[.int .i64 e, .int .i64 f, .int .i64 g, .int .i64 h] 22) from hh4)
  have e4 : us 9 = .pointer (some ⟨g4, 0, none⟩) := e4
  obtain ⟨g5, e5, hg5, hh5⟩ := hR.box 2 (by decide) (hL _ (by decide))
  rw [if_pos (hL _ (by decide))] at hh5
  have HH5 := hid (show w1.heap[g5]? = some (.cells #[.int .i64 r0, .int .i64 r1] 44) from hh5)
  have e5 : us 10 = .pointer (some ⟨g5, 0, none⟩) := e5
  obtain ⟨g6, e6, hg6, hh6⟩ := hR.box 3 (by decide) (hL _ (by decide))
  rw [if_pos (hL _ (by decide))] at hh6
  have HH6 := hid (show w1.heap[g6]? = some (.cells #[.int .i64 (at_ 0), .int .i64 (at_ 1), .int .i64 (at_ 2), .int .i64 (at_ 3)] 22) from hh6)
  have e6 : us 11 = .pointer (some ⟨g6, 0, none⟩) := e6
  have hne3_4 : g3 ≠ g4 := fun h => hR.ne 0 1 (by decide) (by decide) (by decide) (hL _ (by decide)) (hL _ (by decide)) (by rw [show us (8 + 0) = _ from e3, show us (8 + 1) = _ from e4, h])
  have hne3_5 : g3 ≠ g5 := fun h => hR.ne 0 2 (by decide) (by decide) (by decide) (hL _ (by decide)) (hL _ (by decide)) (by rw [show us (8 + 0) = _ from e3, show us (8 + 2) = _ from e5, h])
  have hne3_6 : g3 ≠ g6 := fun h => hR.ne 0 3 (by decide) (by decide) (by decide) (hL _ (by decide)) (hL _ (by decide)) (by rw [show us (8 + 0) = _ from e3, show us (8 + 3) = _ from e6, h])
  have hne4_5 : g4 ≠ g5 := fun h => hR.ne 1 2 (by decide) (by decide) (by decide) (hL _ (by decide)) (hL _ (by decide)) (by rw [show us (8 + 1) = _ from e4, show us (8 + 2) = _ from e5, h])
  have hne4_6 : g4 ≠ g6 := fun h => hR.ne 1 3 (by decide) (by decide) (by decide) (hL _ (by decide)) (hL _ (by decide)) (by rw [show us (8 + 1) = _ from e4, show us (8 + 3) = _ from e6, h])
  have hne5_6 : g5 ≠ g6 := fun h => hR.ne 2 3 (by decide) (by decide) (by decide) (hL _ (by decide)) (hL _ (by decide)) (by rw [show us (8 + 2) = _ from e5, show us (8 + 3) = _ from e6, h])
  have HBw1 := hid (HB0.out.trans (hR.grow.mono HB0.out.size))
  have HSw1 := hid (fun n x => @heap_still _ _ n x hR.grow)
  have hzw1 := hR.grow.size
  simp only [putF]
  rw [hA, e3, e4, e5, e6]
  clear hA hR hL hh3 e3 hh4 e4 hh5 e5 hh6 e6
  go_frame
  have Pw1 := hid HH3.out
  have Sw1 := hid HH4.out
  have Rw1 := hid HH5.out
  have Aw1 := hid HH6.out
  clear HH3 HH4 HH5 HH6 FV
  go_wp2_with (first | (refine wpList_load_at rfl 80 (.tmp 3) rfl rfl Pw1.out Try.underlying80 rfl size80 rfl ?_) | (refine wpList_load_at rfl 22 (.tmp 4) rfl rfl Sw1.out Try.underlying22 rfl size22 rfl ?_) | (refine wpList_load_at rfl 44 (.tmp 5) rfl rfl Rw1.out Try.underlying44 rfl size44 rfl ?_))
  refine (HX.out _).mono ?_
  rintro r w2 ⟨rfl, hb⟩
  have HBw2 := hid (show Below w.heap.size w w2 by have hB0 := HBw1.out; refine Below.trans ?_ (hb.mono ?_); (focus ((repeat' (first | (with_reducible exact Below.refl _ _) | (with_reducible assumption) | (with_reducible refine Below.alloc ?_ ?_ _) | (with_reducible refine Below.drew ?_) | (with_reducible refine below_drewN ?_ _) | (with_reducible refine Below.setCell ?_ ?_ _) | (with_reducible refine below_setRow ?_ ?_ _) | go_size)); done)); (focus (first | (simp; done) | (simp; omega) | (have hB1 := hB0.size; simp; omega))))
  have hsw2 := hb.size
  (try simp at hsw2)
  have hzw2 : w.heap.size < w2.heap.size := by omega
  have hkw2 := hid (fun n x => @heap_still _ _ n x hb)
  have hbw2 := hid hb
  clear hb
  have Pw2 := hid (hkw2.out _ _ Pw1.out)
  have Sw2 := hid (hkw2.out _ _ Sw1.out)
  have Rw2 := hid (hkw2.out _ _ Rw1.out)
  have Aw2 := hid (hkw2.out _ _ Aw1.out)
  go_wp2_with (first | (refine wpList_store_new rfl 46 (.tmp 7) (.tmp 41) rfl rfl rfl rfl size46 rfl rfl rfl ?_) | (refine wpList_load_at rfl 80 (.tmp 3) rfl rfl (heap_alloc_past _ _ _ _ Pw2.out) Try.underlying80 rfl size80 rfl ?_) | (refine wpList_load_at rfl 22 (.tmp 4) rfl rfl (heap_alloc_past _ _ _ _ Sw2.out) Try.underlying22 rfl size22 rfl ?_) | (refine wpList_load_at rfl 44 (.tmp 5) rfl rfl (heap_alloc_past _ _ _ _ Rw2.out) Try.underlying44 rfl size44 rfl ?_))
  refine (HR.out _).mono ?_
  rintro r w3 ⟨rfl, hb⟩
  have HBw3 := hid (show Below w.heap.size w w3 by have hB0 := HBw2.out; refine Below.trans ?_ (hb.mono ?_); (focus ((repeat' (first | (with_reducible exact Below.refl _ _) | (with_reducible assumption) | (with_reducible refine Below.alloc ?_ ?_ _) | (with_reducible refine Below.drew ?_) | (with_reducible refine below_drewN ?_ _) | (with_reducible refine Below.setCell ?_ ?_ _) | (with_reducible refine below_setRow ?_ ?_ _) | go_size)); done)); (focus (first | (simp; done) | (simp; omega) | (have hB1 := hB0.size; simp; omega))))
  have hsw3 := hb.size
  (try simp at hsw3)
  have hzw3 : w.heap.size < w3.heap.size := by omega
  have hkw3 := hid (fun n x => @heap_still _ _ n x hb)
  have hbw3 := hid hb
  clear hb
  have Pw3 := hid (hkw3.out _ _ (heap_alloc_past _ _ _ _ Pw2.out))
  have Sw3 := hid (hkw3.out _ _ (heap_alloc_past _ _ _ _ Sw2.out))
  have Rw3 := hid (hkw3.out _ _ (heap_alloc_past _ _ _ _ Rw2.out))
  have Aw3 := hid (hkw3.out _ _ (heap_alloc_past _ _ _ _ Aw2.out))
  have Xw3 := hid (hkw3.out _ _ (heap_alloc_at _ _ _ rfl) : w3.heap[w2.heap.size]? = some (.cells #[.int .i64 (bl 0), .int .i64 (bh 0), .int .i64 (bl 1), .int .i64 (bh 1), .int .i64 (bl 2), .int .i64 (bh 2)] 46))
  go_wp2_with (first | (refine wpList_store_new rfl 46 (.tmp 9) (.tmp 48) rfl rfl rfl rfl size46 rfl rfl rfl ?_) | (refine pt_load rfl 22 (.tmp 61) rfl g3 6 rfl [.int .i64 a, .int .i64 b, .int .i64 c, .int .i64 d] (heap_alloc_past _ _ _ _ Pw3.out) rfl Try.underlying22 rfl size22 ?_) | (refine wpList_load_at rfl 22 (.tmp 4) rfl rfl (heap_alloc_past _ _ _ _ Sw3.out) Try.underlying22 rfl size22 rfl ?_))
  refine (HPR.out _).mono ?_
  rintro r w4 ⟨rfl, hb⟩
  have HBw4 := hid (show Below w.heap.size w w4 by have hB0 := HBw3.out; refine Below.trans ?_ (hb.mono ?_); (focus ((repeat' (first | (with_reducible exact Below.refl _ _) | (with_reducible assumption) | (with_reducible refine Below.alloc ?_ ?_ _) | (with_reducible refine Below.drew ?_) | (with_reducible refine below_drewN ?_ _) | (with_reducible refine Below.setCell ?_ ?_ _) | (with_reducible refine below_setRow ?_ ?_ _) | go_size)); done)); (focus (first | (simp; done) | (simp; omega) | (have hB1 := hB0.size; simp; omega))))
  have hsw4 := hb.size
  (try simp at hsw4)
  have hzw4 : w.heap.size < w4.heap.size := by omega
  have hkw4 := hid (fun n x => @heap_still _ _ n x hb)
  have hbw4 := hid hb
  clear hb
  have Pw4 := hid (hkw4.out _ _ (heap_alloc_past _ _ _ _ Pw3.out))
  have Sw4 := hid (hkw4.out _ _ (heap_alloc_past _ _ _ _ Sw3.out))
  have Rw4 := hid (hkw4.out _ _ (heap_alloc_past _ _ _ _ Rw3.out))
  have Aw4 := hid (hkw4.out _ _ (heap_alloc_past _ _ _ _ Aw3.out))
  have Xw4 := hid (hkw4.out _ _ (heap_alloc_past _ _ _ _ Xw3.out))
  go_wp2_with (first | (refine wpList_store_new rfl 22 (.tmp 11) (.tmp 65) rfl rfl rfl rfl size22 rfl rfl rfl ?_) | (refine wpList_load_at rfl 22 (.tmp 11) rfl rfl (heap_alloc_at _ _ _ rfl) Try.underlying22 rfl size22 rfl ?_))
  refine (HBM.out _).mono ?_
  rintro r w5 ⟨rfl, hb⟩
  have HBw5 := hid (show Below w.heap.size w w5 by have hB0 := HBw4.out; refine Below.trans ?_ (hb.mono ?_); (focus ((repeat' (first | (with_reducible exact Below.refl _ _) | (with_reducible assumption) | (with_reducible refine Below.alloc ?_ ?_ _) | (with_reducible refine Below.drew ?_) | (with_reducible refine below_drewN ?_ _) | (with_reducible refine Below.setCell ?_ ?_ _) | (with_reducible refine below_setRow ?_ ?_ _) | go_size)); done)); (focus (first | (simp; done) | (simp; omega) | (have hB1 := hB0.size; simp; omega))))
  have hsw5 := hb.size
  (try simp at hsw5)
  have hzw5 : w.heap.size < w5.heap.size := by omega
  have hkw5 := hid (fun n x => @heap_still _ _ n x hb)
  have hbw5 := hid hb
  clear hb
  have Pw5 := hid (hkw5.out _ _ (heap_alloc_past _ _ _ _ Pw4.out))
  have Sw5 := hid (hkw5.out _ _ (heap_alloc_past _ _ _ _ Sw4.out))
  have Rw5 := hid (hkw5.out _ _ (heap_alloc_past _ _ _ _ Rw4.out))
  have Aw5 := hid (hkw5.out _ _ (heap_alloc_past _ _ _ _ Aw4.out))
  have Xw5 := hid (hkw5.out _ _ (heap_alloc_past _ _ _ _ Xw4.out))
  have cA : ∀ o, (w5.alloc o).cell? ⟨g6, 3, none⟩ = some (.int .i64 (at_ 3)) := fun o => (cell_row (j := 3) (heap_alloc_past _ o _ _ Aw5.out)).trans rfl
  go_wp2_with (first | (refine wpList_store_new rfl 26 (.tmp 13) (.tmp 70) rfl rfl rfl rfl size26 rfl rfl rfl ?_) | (refine wpList_load_at rfl 44 (.tmp 5) rfl rfl (heap_alloc_past _ _ _ _ Rw5.out) Try.underlying44 rfl size44 rfl ?_))
  clear cA
  refine (part_any r0 r1 (at_ 3) _ (by omega) (by omega)).mono ?_
  rintro r w6 ⟨⟨vF, rfl, hq⟩, hb⟩
  have HBw6 := hid (show Below w.heap.size w w6 by have hB0 := HBw5.out; have hB1 := hB0.size; refine Below.trans ?_ (hb.mono ?_); (focus ((repeat' (first | (with_reducible exact Below.refl _ _) | (with_reducible assumption) | (with_reducible refine Below.alloc ?_ ?_ _) | (with_reducible refine Below.drew ?_) | (with_reducible refine below_drewN ?_ _) | (with_reducible refine Below.setCell ?_ ?_ _) | (with_reducible refine below_setRow ?_ ?_ _) | go_size)); done)); (focus (first | (simp; done) | (simp; omega) | (have hB1 := hB0.size; simp; omega))))
  obtain ⟨csF, rfl, _, _⟩ := hq.cells
  obtain ⟨sF, aF, pF, cF, bF, rF, dF, hsh⟩ := hq.shape
  subst hsh
  have HQF := hid hq
  have hkw6 := hid (fun n x => @heap_still _ _ n x hb)
  have hnw6 := hid hb
  clear hq hb
  have Pw6 := hid (hkw6.out _ _ (heap_alloc_past _ _ _ _ Pw5.out))
  have Sw6 := hid (hkw6.out _ _ (heap_alloc_past _ _ _ _ Sw5.out))
  have Rw6 := hid (hkw6.out _ _ (heap_alloc_past _ _ _ _ Rw5.out))
  have Aw6 := hid (hkw6.out _ _ (heap_alloc_past _ _ _ _ Aw5.out))
  have Xw6 := hid (hkw6.out _ _ (heap_alloc_past _ _ _ _ Xw5.out))
  have Bw6 := hid (hkw6.out _ _ (heap_alloc_at _ _ _ rfl) : w6.heap[w5.heap.size]? = some (.cells #[.int .i64 (kb 0), .int .i64 (kb 1), .int .i64 (kb 2)] 26))
  go_wp2_with (first | (refine wpList_store_new rfl 35 (.tmp 16) (.tmp 76) rfl rfl rfl rfl size35 rfl rfl rfl ?_) | (refine wpList_load_at rfl 80 (.tmp 3) rfl rfl (heap_alloc_past _ _ _ _ Pw6.out) Try.underlying80 rfl size80 rfl ?_) | (refine wpList_store_new rfl 80 (.tmp 17) (.tmp 77) rfl rfl rfl (by simp) size80 rfl rfl rfl ?_) | (refine pt_load rfl 44 (.tmp 78) rfl w2.heap.size 0 rfl [.int .i64 (bl 0), .int .i64 (bh 0)] (heap_alloc_past _ _ _ _ (heap_alloc_past _ _ _ _ Xw6.out)) rfl Try.underlying44 rfl size44 ?_) | (refine pt_load rfl 44 (.tmp 80) rfl w2.heap.size 2 rfl [.int .i64 (bl 1), .int .i64 (bh 1)] (heap_alloc_past _ _ _ _ (heap_alloc_past _ _ _ _ Xw6.out)) rfl Try.underlying44 rfl size44 ?_) | (refine pt_load rfl 44 (.tmp 82) rfl w2.heap.size 4 rfl [.int .i64 (bl 2), .int .i64 (bh 2)] (heap_alloc_past _ _ _ _ (heap_alloc_past _ _ _ _ Xw6.out)) rfl Try.underlying44 rfl size44 ?_))
  refine gen_world (fun w7 hW => ?_)
  have HBw7 := hid (show Below w.heap.size w w7 by rw [hW]; have hB0 := HBw6.out; have hB1 := hB0.size; (repeat' (first | (with_reducible exact Below.refl _ _) | (with_reducible assumption) | (with_reducible refine Below.alloc ?_ ?_ _) | (with_reducible refine Below.drew ?_) | (with_reducible refine below_drewN ?_ _) | (with_reducible refine Below.setCell ?_ ?_ _) | (with_reducible refine below_setRow ?_ ?_ _) | go_size)))
  have HST := hid (show PlSt pl ph at_ kb bl bh a b c d t e f g h r0 r1 g3 g4 g5 g6 w2.heap.size w5.heap.size w6.heap.size (w6.heap.size + 1 + 1) #[.bool sF, .slice aF pF cF, .slice bF rF dF] w7 by
    rw [hW]
    exact ⟨heap_alloc_past _ _ _ _ (heap_alloc_past _ _ _ _ (heap_alloc_past _ _ _ _ Pw6.out)), heap_alloc_past _ _ _ _ (heap_alloc_past _ _ _ _ (heap_alloc_past _ _ _ _ Sw6.out)), heap_alloc_past _ _ _ _ (heap_alloc_past _ _ _ _ (heap_alloc_past _ _ _ _ Rw6.out)),
      heap_alloc_past _ _ _ _ (heap_alloc_past _ _ _ _ (heap_alloc_past _ _ _ _ Aw6.out)), heap_alloc_past _ _ _ _ (heap_alloc_past _ _ _ _ (heap_alloc_past _ _ _ _ Xw6.out)), heap_alloc_past _ _ _ _ (heap_alloc_past _ _ _ _ (heap_alloc_past _ _ _ _ Bw6.out)),
      heap_alloc_past _ _ _ _ (heap_alloc_past _ _ _ _ (heap_alloc_at w6 _ _ rfl)), heap_alloc_at _ _ _ (by simp), HQF.out.grow ((((Below.refl w6.heap.size w6).alloc (Nat.le_refl _) _).alloc (by simp) _).alloc (by simp; omega) _)⟩)
  have HNA := hid (show w7.heap[w6.heap.size + 1]? = some (.cells (narA pl ph at_ a b c d t 0) 80) by rw [hW]; exact heap_alloc_past _ _ _ _ (heap_alloc_at _ _ _ (by simp)))
  have hg3 : g3 < w6.heap.size := (Array.getElem?_eq_some_iff.1 Pw6.out).1
  have hg4 : g4 < w6.heap.size := (Array.getElem?_eq_some_iff.1 Sw6.out).1
  have hg5 : g5 < w6.heap.size := (Array.getElem?_eq_some_iff.1 Rw6.out).1
  have hg6 : g6 < w6.heap.size := (Array.getElem?_eq_some_iff.1 Aw6.out).1
  have hqx : w2.heap.size < w6.heap.size := (Array.getElem?_eq_some_iff.1 Xw6.out).1
  have hqb : w5.heap.size < w6.heap.size := (Array.getElem?_eq_some_iff.1 Bw6.out).1
  have hsz6 : w.heap.size ≤ w6.heap.size := HBw6.out.size
  clear hW Pw6 Sw6 Rw6 Aw6 Xw6 Bw6 HQF Pw1 Sw1 Rw1 Aw1 Pw2 Sw2 Rw2 Aw2 Pw3 Sw3 Rw3 Aw3 Xw3 Pw4 Sw4 Rw4 Aw4 Xw4 Pw5 Sw5 Rw5 Aw5 Xw5 HX HR HPR HBM
  go_loopw [86] (fun i W => ∃ (m : Nat), m ≤ 3 ∧ i = .int .i64 m ∧ Below w.heap.size w W ∧ PlSt pl ph at_ kb bl bh a b c d t e f g h r0 r1 g3 g4 g5 g6 w2.heap.size w5.heap.size w6.heap.size (w6.heap.size + 1 + 1) #[.bool sF, .slice aF pF cF, .slice bF rF dF] W ∧ W.heap[w6.heap.size + 1]? = some (.cells (narA pl ph at_ a b c d t m) 80)) (fun i _ => 3 - (intOf i).toNat)
  case atStart => exact ⟨0, by omega, rfl, HBw7.out, HST.out, HNA.out⟩
  case round =>
    clear HST HNA HBw7
    obtain ⟨m, hm, rfl, hB, hST, hNA⟩ := hrel
    have HBwr := hid hB
    have HST := hid hST
    have HNA := hid hNA
    have hszr : w6.heap.size + 1 + 1 < wr.heap.size := (Array.getElem?_eq_some_iff.1 hST.2.2.2.2.2.2.2.1).1
    clear hB hST hNA
    by_cases hlt : m < 3
    · have hdm : decide ((m : Int) < 3) = true := by simp; omega
      have FP := hid (pl_at pl ph a b c d t m hlt)
      have FA := hid (at_at at_ m hlt)
      have FK := hid (kb_at kb m hlt)
      have FX := hid (box_drop bl bh m hlt)
      have FI := hid (HIN.out m hlt)
      have FN := hid (HNL.out m hlt)
      have fpb := HPB.out m hlt
      have fkb := HKB.out m hlt
      have fbb := HBB.out m hlt
      go_wp2_with (first | (refine pt_load rfl 44 (.tmp 89) rfl (w6.heap.size + 1 + 1) (m * 2) rfl [.int .i64 (bl m), .int .i64 (bh m)] HST.out.2.2.2.2.2.2.2.1 FX.out Try.underlying44 rfl size44 ?_) | (refine wpList_store_new rfl 44 (.tmp 19) (.tmp 90) rfl rfl rfl rfl size44 rfl rfl rfl ?_))
      refine gen_world (fun W1 hW => ?_)
      have HBW1 := hid (show Below w.heap.size w W1 by rw [hW]; have hB0 := HBwr.out; have hB1 := hB0.size; (repeat' (first | (with_reducible exact Below.refl _ _) | (with_reducible assumption) | (with_reducible refine Below.alloc ?_ ?_ _) | (with_reducible refine Below.drew ?_) | (with_reducible refine below_drewN ?_ _) | (with_reducible refine Below.setCell ?_ ?_ _) | (with_reducible refine below_setRow ?_ ?_ _) | go_size)))
      have G1 := hid ((congrArg (fun X => PlSt pl ph at_ kb bl bh a b c d t e f g h r0 r1 g3 g4 g5 g6 w2.heap.size w5.heap.size w6.heap.size (w6.heap.size + 1 + 1) #[.bool sF, .slice aF pF cF, .slice bF rF dF] X) hW).mpr (HST.out.alloc (.cells #[.int .i64 (bl m), .int .i64 (bh m)] 44)))
      have N1 := hid (show W1.heap[w6.heap.size + 1]? = some (.cells (narA pl ph at_ a b c d t m) 80) by rw [hW]; exact heap_alloc_past _ _ _ _ HNA.out)
      have B1 := hid (show W1.heap[wr.heap.size]? = some (.cells #[.int .i64 (bl m), .int .i64 (bh m)] 44) by rw [hW]; exact heap_alloc_at _ _ _ rfl)
      have hs1 : wr.heap.size < W1.heap.size := (Array.getElem?_eq_some_iff.1 B1.out).1
      clear hW HST HNA HBwr
      have Q1 := hid G1.out.1
      have A1 := hid G1.out.2.2.2.1
      refine gen_act (fun A0 hA => ?_)
      refine wp_region_last (by kernel_rfl) (by kernel_rfl) [some 91, some 92, some 93, some 94, some 95, some 96, some 97, some 98, some 20, none] rfl (by decide) 9 rfl (by kernel_rfl) (by kernel_rfl)
        [IsV (.int .i64 (m : Int)), IsV (.pointer (some ⟨g3, 0, none⟩)), IsV (.pointer (some ⟨g3, m * 2, none⟩)), IsV (.agg #[.int .i64 (pl m), .int .i64 (ph m)]), IsV (.int .i64 (m : Int)), IsV (.pointer (some ⟨g6, m, none⟩)), IsV (.int .i64 (at_ m)), fun W v => QAt W v (cQ pl ph at_ m) 65, FreshP W1.heap.size]
        ⟨IsV.stb _, IsV.stb _, IsV.stb _, IsV.stb _, IsV.stb _, IsV.stb _, IsV.stb _, QAt.stb _ _, FreshP.stb _, trivial⟩ ?hs1_15_W2 ?hlast_15_W2
      case hs1_15_W2 =>
        refine ⟨?_, ?_, ?_, ?_, ?_, ?_, ?_, ?_, ?_, trivial⟩
        · intro K us W hK0 hB hd
          have hK := hid hK0; clear hK0
          have HBW := hid hB
          have hsW := hB.size
          have GB := hid (HBW1.out.trans (hB.mono HBW1.out.size))
          clear hd
          simp only [putF]
          rw [hA]
          go_frame
          go_wp2_with fail
          exact hK.out _ _ _ (by rw [hA]; simp only [putF]; kernel_rfl) (Below.refl _ _) rfl
        · intro K us W hK0 hB hd
          have hK := hid hK0; clear hK0
          have HBW := hid hB
          have hsW := hB.size
          have GB := hid (HBW1.out.trans (hB.mono HBW1.out.size))
          clear hd
          simp only [putF]
          rw [hA]
          go_frame
          go_wp2_with fail
          exact hK.out _ _ _ (by rw [hA]; simp only [putF]; kernel_rfl) (Below.refl _ _) rfl
        · intro K us W hK0 hB hd
          have hK := hid hK0; clear hK0
          have HBW := hid hB
          have hsW := hB.size
          have GB := hid (HBW1.out.trans (hB.mono HBW1.out.size))
          have e1 : us 1 = .pointer (some ⟨g3, 0, none⟩) := hd ⟨1, Ground.data⟩ (by simp) rfl
          have e0 : us 0 = .int .i64 (m : Int) := hd ⟨0, Ground.data⟩ (by simp) rfl
          clear hd
          simp only [putF]
          rw [hA, e1, e0]
          go_frame
          go_wp2_with fail
          exact hK.out _ _ _ (by rw [hA]; simp only [putF]; rw [e1, e0]; kernel_rfl) (Below.refl _ _) rfl
        · intro K us W hK0 hB hd
          have hK := hid hK0; clear hK0
          have HBW := hid hB
          have hsW := hB.size
          have GB := hid (HBW1.out.trans (hB.mono HBW1.out.size))
          have e2 : us 2 = .pointer (some ⟨g3, m * 2, none⟩) := hd ⟨2, Ground.data⟩ (by simp) rfl
          clear hd
          have c0 : W.cell? ⟨g3, m * 2, none⟩ = some (.int .i64 (pl m)) := (cell_row (heap_still hB Q1.out)).trans FP.out.1
          have c1 : W.cell? ⟨g3, m * 2 + 1, none⟩ = some (.int .i64 (ph m)) := (cell_row (heap_still hB Q1.out)).trans FP.out.2
          simp only [putF]
          rw [hA, e2]
          go_frame
          go_wp2_with fail
          exact hK.out _ _ _ (by rw [hA]; simp only [putF]; rw [e2]; kernel_rfl) (Below.refl _ _) rfl
        · intro K us W hK0 hB hd
          have hK := hid hK0; clear hK0
          have HBW := hid hB
          have hsW := hB.size
          have GB := hid (HBW1.out.trans (hB.mono HBW1.out.size))
          clear hd
          simp only [putF]
          rw [hA]
          go_frame
          go_wp2_with fail
          exact hK.out _ _ _ (by rw [hA]; simp only [putF]; kernel_rfl) (Below.refl _ _) rfl
        · intro K us W hK0 hB hd
          have hK := hid hK0; clear hK0
          have HBW := hid hB
          have hsW := hB.size
          have GB := hid (HBW1.out.trans (hB.mono HBW1.out.size))
          have e4 : us 4 = .int .i64 (m : Int) := hd ⟨4, Ground.data⟩ (by simp) rfl
          clear hd
          simp only [putF]
          rw [hA, e4]
          go_frame
          go_wp2_with fail
          exact hK.out _ _ _ (by rw [hA]; simp only [putF]; rw [e4]; kernel_rfl) (Below.refl _ _) rfl
        · intro K us W hK0 hB hd
          have hK := hid hK0; clear hK0
          have HBW := hid hB
          have hsW := hB.size
          have GB := hid (HBW1.out.trans (hB.mono HBW1.out.size))
          have e5 : us 5 = .pointer (some ⟨g6, m, none⟩) := hd ⟨5, Ground.data⟩ (by simp) rfl
          clear hd
          have c0 : W.cell? ⟨g6, m, none⟩ = some (.int .i64 (at_ m)) := (cell_row (heap_still hB A1.out)).trans FA.out
          simp only [putF]
          rw [hA, e5]
          go_frame
          go_wp2_with fail
          exact hK.out _ _ _ (by rw [hA]; simp only [putF]; rw [e5]; kernel_rfl) (Below.refl _ _) rfl
        · intro K us W hK0 hB hd
          have hK := hid hK0; clear hK0
          have HBW := hid hB
          have hsW := hB.size
          have GB := hid (HBW1.out.trans (hB.mono HBW1.out.size))
          have e3 : us 3 = .agg #[.int .i64 (pl m), .int .i64 (ph m)] := hd ⟨3, Ground.data⟩ (by simp) rfl
          have e6 : us 6 = .int .i64 (at_ m) := hd ⟨6, Ground.data⟩ (by simp) rfl
          clear hd
          simp only [putF]
          rw [hA, e3, e6]
          go_frame
          go_wp2_with fail
          refine (part_any (pl m) (ph m) (at_ m) W (by omega) (by omega)).mono ?_
          rintro r W' ⟨⟨v, rfl, hv⟩, hb⟩
          go_wp2_with fail
          exact hK.out _ _ _ (by rw [hA]; simp only [putF]; rw [e3, e6]; kernel_rfl) hb hv
        · intro K us W hK0 hB hd
          have hK := hid hK0; clear hK0
          have HBW := hid hB
          have hsW := hB.size
          have GB := hid (HBW1.out.trans (hB.mono HBW1.out.size))
          clear hd
          simp only [putF]
          rw [hA]
          go_frame
          go_wp2_with fail
          exact hK.out _ _ _ (by rw [hA]; simp only [putF]; kernel_rfl) ((Below.refl _ _).alloc (Nat.le_refl _) _) (⟨_, rfl, hsW, heap_alloc_at _ _ _ rfl⟩)
      intro K us W2 hK0 hB hp
      have hK := hid hK0
      clear hK0
      have hd8 : (FreshP W1.heap.size) W2 (us 8) := hp 8 (by decide)
      obtain ⟨g8, e8, hg8, hh8⟩ := hd8
      have hd7 : (fun W v => QAt W v (cQ pl ph at_ m) 65) W2 (us 7) := hp 7 (by decide)
      obtain ⟨cs7, e7, hcs7, hco7⟩ := hd7.cells
      rw [e7] at hd7
      have HH7 := hid hd7
      clear hd7
      have HBW2 := hid (HBW1.out.trans (hB.mono HBW1.out.size))
      have HSW2 := hid (fun n x => @heap_still _ _ n x hB)
      have hzW2 := hB.size
      have hbW2 := hid hB
      clear hp
      simp only [putF]
      rw [hA, e8, e7]
      skip
      go_frame
      go_wp2_with (refine wpList_store_at rfl 35 (.tmp 20) (.tmp 98) rfl rfl rfl hh8 size35 hcs7 rfl hco7 ?_)
      refine hK.out undef _ _ (by rw [hA]; simp only [putF]; rw [e8, e7]; kernel_rfl) ?_
      clear hK hB hA e8 e7
      obtain ⟨sC, aC, pC, cC, bC, rC, dC, hsh⟩ := HH7.out.shape
      subst hsh
      have hg8 : g8 < W2.heap.size := (Array.getElem?_eq_some_iff.1 hh8).1
      have G2 := hid ((G1.out.still hbW2.out).row (cs := #[.bool sC, .slice aC pC cC, .slice bC rC dC]) hh8 (by decide) (by omega))
      have N2 := hid (setRow_past (cells := #[.bool sC, .slice aC pC cC, .slice bC rC dC]) (HSW2.out _ _ N1.out) (by omega : w6.heap.size + 1 ≠ g8))
      have B2 := hid (setRow_past (cells := #[.bool sC, .slice aC pC cC, .slice bC rC dC]) (HSW2.out _ _ B1.out) (by omega : wr.heap.size ≠ g8))
      have C2 := hid (setRow_heap _ _ _ #[.bool sC, .slice aC pC cC, .slice bC rC dC] _ _ hh8)
      have QC2 := hid (HH7.out.row (cs := #[.bool sC, .slice aC pC cC, .slice bC rC dC]) hh8 (by decide))
      have HBW3 := hid (below_setRow HBW2.out (by omega : w.heap.size ≤ g8) #[.bool sC, .slice aC pC cC, .slice bC rC dC])
      clear hh8 HH7 G1 N1 B1 Q1 A1
      go_wp2_with fail
      generalize W2.setRow g8 #[.bool sC, .slice aC pC cC, .slice bC rC dC] = W3 at *
      have F3 := hid G2.out.2.2.2.2.2.2.1
      have K3 := hid G2.out.2.2.2.2.2.1
      have QF3 := hid G2.out.2.2.2.2.2.2.2.2
      have hn0 : ((n : Int) : Rat) ≠ 0 := fun hh => by have := Rat.intCast_eq_zero_iff.1 hh; omega
      have HN0 := hid hn0
      clear hn0
      refine gen_act (fun A0 hA => ?_)
      refine wp_region_last (by kernel_rfl) (by kernel_rfl) [some 99, some 100, some 101, some 102, some 103, some 104, some 105, some 106, some 107, some 108, some 109, some 21, none] rfl (by decide) 12 rfl (by kernel_rfl) (by kernel_rfl)
        [IsV (.agg #[.bool sC, .slice aC pC cC, .slice bC rC dC]), IsV (.agg #[.bool sF, .slice aF pF cF, .slice bF rF dF]), IsV (.int .i64 (m : Int)), IsV (.pointer (some ⟨w5.heap.size, m, none⟩)), IsV (.int .i64 (kb m)), fun W v => QAt W v ((kb m : Int) : Rat) 4, fun W v => QAt W v (farQ r0 r1 at_ * ((kb m : Int) : Rat)) 130, IsV (.int .i64 n), fun W v => QAt W v ((n : Int) : Rat) 4, fun W v => QAt W v (farQ r0 r1 at_ * ((kb m : Int) : Rat) / ((n : Int) : Rat)) 260, fun W v => QAt W v (cQ pl ph at_ m + farQ r0 r1 at_ * ((kb m : Int) : Rat) / ((n : Int) : Rat)) 1041, FreshP W3.heap.size]
        ⟨IsV.stb _, IsV.stb _, IsV.stb _, IsV.stb _, IsV.stb _, QAt.stb _ _, QAt.stb _ _, IsV.stb _, QAt.stb _ _, QAt.stb _ _, QAt.stb _ _, FreshP.stb _, trivial⟩ ?hs1_16_W4 ?hlast_16_W4
      case hs1_16_W4 =>
        refine ⟨?_, ?_, ?_, ?_, ?_, ?_, ?_, ?_, ?_, ?_, ?_, ?_, trivial⟩
        · intro K us W hK0 hB hd
          have hK := hid hK0; clear hK0
          have HBW := hid hB
          have hsW := hB.size
          have GB := hid (HBW3.out.trans (hB.mono HBW3.out.size))
          clear hd
          go_light
          have G0 := hid (heap_still hB C2.out)
          have c0 : W.cell? ⟨g8, 0, none⟩ = some (.bool sC) := (cell_row (j := 0) G0.out).trans rfl
          have c1 : W.cell? ⟨g8, 1, none⟩ = some (.slice aC pC cC) := (cell_row (j := 1) G0.out).trans rfl
          have c2 : W.cell? ⟨g8, 2, none⟩ = some (.slice bC rC dC) := (cell_row (j := 2) G0.out).trans rfl
          simp only [putF]
          rw [hA]
          go_frame
          go_wp2_with fail
          exact hK.out _ _ _ (by rw [hA]; simp only [putF]; kernel_rfl) (Below.refl _ _) rfl
        · intro K us W hK0 hB hd
          have hK := hid hK0; clear hK0
          have HBW := hid hB
          have hsW := hB.size
          have GB := hid (HBW3.out.trans (hB.mono HBW3.out.size))
          clear hd
          go_light
          have G0 := hid (heap_still hB F3.out)
          have c0 : W.cell? ⟨w6.heap.size, 0, none⟩ = some (.bool sF) := (cell_row (j := 0) G0.out).trans rfl
          have c1 : W.cell? ⟨w6.heap.size, 1, none⟩ = some (.slice aF pF cF) := (cell_row (j := 1) G0.out).trans rfl
          have c2 : W.cell? ⟨w6.heap.size, 2, none⟩ = some (.slice bF rF dF) := (cell_row (j := 2) G0.out).trans rfl
          simp only [putF]
          rw [hA]
          go_frame
          go_wp2_with fail
          exact hK.out _ _ _ (by rw [hA]; simp only [putF]; kernel_rfl) (Below.refl _ _) rfl
        · intro K us W hK0 hB hd
          have hK := hid hK0; clear hK0
          have HBW := hid hB
          have hsW := hB.size
          have GB := hid (HBW3.out.trans (hB.mono HBW3.out.size))
          clear hd
          go_light
          simp only [putF]
          rw [hA]
          go_frame
          go_wp2_with fail
          exact hK.out _ _ _ (by rw [hA]; simp only [putF]; kernel_rfl) (Below.refl _ _) rfl
        · intro K us W hK0 hB hd
          have hK := hid hK0; clear hK0
          have HBW := hid hB
          have hsW := hB.size
          have GB := hid (HBW3.out.trans (hB.mono HBW3.out.size))
          have e2 : us 2 = .int .i64 (m : Int) := hd ⟨2, Ground.data⟩ (by simp) rfl
          clear hd
          go_light
          simp only [putF]
          rw [hA, e2]
          go_frame
          go_wp2_with fail
          exact hK.out _ _ _ (by rw [hA]; simp only [putF]; rw [e2]; kernel_rfl) (Below.refl _ _) rfl
        · intro K us W hK0 hB hd
          have hK := hid hK0; clear hK0
          have HBW := hid hB
          have hsW := hB.size
          have GB := hid (HBW3.out.trans (hB.mono HBW3.out.size))
          have e3 : us 3 = .pointer (some ⟨w5.heap.size, m, none⟩) := hd ⟨3, Ground.data⟩ (by simp) rfl
          clear hd
          go_light
          have c0 : W.cell? ⟨w5.heap.size, m, none⟩ = some (.int .i64 (kb m)) := (cell_row (heap_still hB K3.out)).trans FK.out
          simp only [putF]
          rw [hA, e3]
          go_frame
          go_wp2_with fail
          exact hK.out _ _ _ (by rw [hA]; simp only [putF]; rw [e3]; kernel_rfl) (Below.refl _ _) rfl
        · intro K us W hK0 hB hd
          have hK := hid hK0; clear hK0
          have HBW := hid hB
          have hsW := hB.size
          have GB := hid (HBW3.out.trans (hB.mono HBW3.out.size))
          have e4 : us 4 = .int .i64 (kb m) := hd ⟨4, Ground.data⟩ (by simp) rfl
          clear hd
          go_light
          simp only [putF]
          rw [hA, e4]
          go_frame
          go_wp2_with fail
          refine (whole_any (kb m) W (by omega)).mono ?_
          rintro r W' ⟨⟨v, rfl, hv⟩, hb⟩
          go_wp2_with fail
          exact hK.out _ _ _ (by rw [hA]; simp only [putF]; rw [e4]; kernel_rfl) hb hv
        · intro K us W hK0 hB hd
          have hK := hid hK0; clear hK0
          have HBW := hid hB
          have hsW := hB.size
          have GB := hid (HBW3.out.trans (hB.mono HBW3.out.size))
          have e1 : us 1 = .agg #[.bool sF, .slice aF pF cF, .slice bF rF dF] := hd ⟨1, Ground.data⟩ (by simp) rfl
          have hd5 : (fun W v => QAt W v ((kb m : Int) : Rat) 4) W (us 5) := hd ⟨5, Ground.data⟩ (by simp) rfl
          obtain ⟨cs5, e5, hcs5, hco5⟩ := hd5.cells
          rw [e5] at hd5
          have HH5 := hid hd5
          clear hd5
          clear hd
          go_light
          simp only [putF]
          rw [hA, e1, e5]
          go_frame
          go_wp2_with fail
          refine (qmul_any _ _ 65 _ _ W (QF3.out.grow hB) (HH5.out.wide (by decide)) (by decide)).mono ?_
          rintro r W' ⟨⟨v, rfl, hv⟩, hb⟩
          go_wp2_with fail
          exact hK.out _ _ _ (by rw [hA]; simp only [putF]; rw [e1, e5]; kernel_rfl) hb hv
        · intro K us W hK0 hB hd
          have hK := hid hK0; clear hK0
          have HBW := hid hB
          have hsW := hB.size
          have GB := hid (HBW3.out.trans (hB.mono HBW3.out.size))
          clear hd
          go_light
          simp only [putF]
          rw [hA]
          go_frame
          go_wp2_with fail
          exact hK.out _ _ _ (by rw [hA]; simp only [putF]; kernel_rfl) (Below.refl _ _) rfl
        · intro K us W hK0 hB hd
          have hK := hid hK0; clear hK0
          have HBW := hid hB
          have hsW := hB.size
          have GB := hid (HBW3.out.trans (hB.mono HBW3.out.size))
          have e7 : us 7 = .int .i64 n := hd ⟨7, Ground.data⟩ (by simp) rfl
          clear hd
          go_light
          simp only [putF]
          rw [hA, e7]
          go_frame
          go_wp2_with fail
          refine (whole_any n W (by omega)).mono ?_
          rintro r W' ⟨⟨v, rfl, hv⟩, hb⟩
          go_wp2_with fail
          exact hK.out _ _ _ (by rw [hA]; simp only [putF]; rw [e7]; kernel_rfl) hb hv
        · intro K us W hK0 hB hd
          have hK := hid hK0; clear hK0
          have HBW := hid hB
          have hsW := hB.size
          have GB := hid (HBW3.out.trans (hB.mono HBW3.out.size))
          have hd6 : (fun W v => QAt W v (farQ r0 r1 at_ * ((kb m : Int) : Rat)) 130) W (us 6) := hd ⟨6, Ground.data⟩ (by simp) rfl
          obtain ⟨cs6, e6, hcs6, hco6⟩ := hd6.cells
          rw [e6] at hd6
          have HH6 := hid hd6
          clear hd6
          have hd8 : (fun W v => QAt W v ((n : Int) : Rat) 4) W (us 8) := hd ⟨8, Ground.data⟩ (by simp) rfl
          obtain ⟨cs8, e8, hcs8, hco8⟩ := hd8.cells
          rw [e8] at hd8
          have HH8 := hid hd8
          clear hd8
          clear hd
          go_light
          simp only [putF]
          rw [hA, e6, e8]
          go_frame
          go_wp2_with fail
          refine (qdiv_any _ _ 130 _ _ W HH6.out (HH8.out.wide (by decide)) (by decide) HN0.out).mono ?_
          rintro r W' ⟨⟨v, rfl, hv⟩, hb⟩
          go_wp2_with fail
          exact hK.out _ _ _ (by rw [hA]; simp only [putF]; rw [e6, e8]; kernel_rfl) hb hv
        · intro K us W hK0 hB hd
          have hK := hid hK0; clear hK0
          have HBW := hid hB
          have hsW := hB.size
          have GB := hid (HBW3.out.trans (hB.mono HBW3.out.size))
          have e0 : us 0 = .agg #[.bool sC, .slice aC pC cC, .slice bC rC dC] := hd ⟨0, Ground.data⟩ (by simp) rfl
          have hd9 : (fun W v => QAt W v (farQ r0 r1 at_ * ((kb m : Int) : Rat) / ((n : Int) : Rat)) 260) W (us 9) := hd ⟨9, Ground.data⟩ (by simp) rfl
          obtain ⟨cs9, e9, hcs9, hco9⟩ := hd9.cells
          rw [e9] at hd9
          have HH9 := hid hd9
          clear hd9
          clear hd
          go_light
          simp only [putF]
          rw [hA, e0, e9]
          go_frame
          go_wp2_with fail
          refine (qadd_any _ _ 260 _ _ W ((QC2.out.grow hB).wide (by decide)) HH9.out (by decide)).mono ?_
          rintro r W' ⟨⟨v, rfl, hv⟩, hb⟩
          go_wp2_with fail
          exact hK.out _ _ _ (by rw [hA]; simp only [putF]; rw [e0, e9]; kernel_rfl) hb hv
        · intro K us W hK0 hB hd
          have hK := hid hK0; clear hK0
          have HBW := hid hB
          have hsW := hB.size
          have GB := hid (HBW3.out.trans (hB.mono HBW3.out.size))
          clear hd
          go_light
          simp only [putF]
          rw [hA]
          go_frame
          go_wp2_with fail
          exact hK.out _ _ _ (by rw [hA]; simp only [putF]; kernel_rfl) ((Below.refl _ _).alloc (Nat.le_refl _) _) (⟨_, rfl, hsW, heap_alloc_at _ _ _ rfl⟩)
      intro K us W4 hK0 hB hp
      have hK := hid hK0
      clear hK0
      have hd11 : (FreshP W3.heap.size) W4 (us 11) := hp 11 (by decide)
      obtain ⟨g11, e11, hg11, hh11⟩ := hd11
      have hd10 : (fun W v => QAt W v (cQ pl ph at_ m + farQ r0 r1 at_ * ((kb m : Int) : Rat) / ((n : Int) : Rat)) 1041) W4 (us 10) := hp 10 (by decide)
      obtain ⟨cs10, e10, hcs10, hco10⟩ := hd10.cells
      rw [e10] at hd10
      have HH10 := hid hd10
      clear hd10
      have HBW4 := hid (HBW3.out.trans (hB.mono HBW3.out.size))
      have HSW4 := hid (fun n x => @heap_still _ _ n x hB)
      have hzW4 := hB.size
      have hbW4 := hid hB
      clear hp
      simp only [putF]
      rw [hA, e11, e10]
      skip
      go_frame
      go_wp2_with (refine wpList_store_at rfl 35 (.tmp 21) (.tmp 109) rfl rfl rfl hh11 size35 hcs10 rfl hco10 ?_)
      refine hK.out undef _ _ (by rw [hA]; simp only [putF]; rw [e11, e10]; kernel_rfl) ?_
      clear hK hB hA e11 e10
      obtain ⟨sX, aX, pX, cX, bX, rX, dX, hsh⟩ := HH10.out.shape
      subst hsh
      have hg11 : g11 < W4.heap.size := (Array.getElem?_eq_some_iff.1 hh11).1
      have hz34 : W3.heap.size ≤ W4.heap.size := hbW4.out.size
      have hl8 : g8 < W3.heap.size := (Array.getElem?_eq_some_iff.1 C2.out).1
      have hlr : wr.heap.size < W3.heap.size := (Array.getElem?_eq_some_iff.1 B2.out).1
      have G4 := hid ((G2.out.still hbW4.out).row (cs := #[.bool sX, .slice aX pX cX, .slice bX rX dX]) hh11 (by decide) (by omega))
      have N4 := hid (setRow_past (cells := #[.bool sX, .slice aX pX cX, .slice bX rX dX]) (HSW4.out _ _ N2.out) (by omega : w6.heap.size + 1 ≠ g11))
      have B4 := hid (setRow_past (cells := #[.bool sX, .slice aX pX cX, .slice bX rX dX]) (HSW4.out _ _ B2.out) (by omega : wr.heap.size ≠ g11))
      have C4 := hid (setRow_past (cells := #[.bool sX, .slice aX pX cX, .slice bX rX dX]) (HSW4.out _ _ C2.out) (by omega : g8 ≠ g11))
      have X4 := hid (setRow_heap _ _ _ #[.bool sX, .slice aX pX cX, .slice bX rX dX] _ _ hh11)
      have QC4 := hid ((QC2.out.grow hbW4.out).row (cs := #[.bool sX, .slice aX pX cX, .slice bX rX dX]) hh11 (by decide))
      have QX4 := hid (HH10.out.row (cs := #[.bool sX, .slice aX pX cX, .slice bX rX dX]) hh11 (by decide))
      have HBW5 := hid (below_setRow HBW4.out (by omega : w.heap.size ≤ g11) #[.bool sX, .slice aX pX cX, .slice bX rX dX])
      clear hh11 HH10 G2 N2 B2 C2 QC2 F3 K3 QF3
      have HC1 := hid (show decide (cmpQ (cQ pl ph at_ m + farQ r0 r1 at_ * ((kb m : Int) : Rat) / ((n : Int) : Rat)) ((bl m : Int) : Rat) < 0) = false from decide_eq_false (fun hh => absurd ((cmp_lt _ _).1 hh) (Rat.not_lt.2 FI.out.1)))
      have HC2 := hid (show decide (0 < cmpQ (cQ pl ph at_ m + farQ r0 r1 at_ * ((kb m : Int) : Rat) / ((n : Int) : Rat)) ((bh m : Int) : Rat)) = false from decide_eq_false (fun hh => absurd ((cmp_gt _ _).1 hh) (Rat.not_lt.2 FI.out.2)))
      generalize cQ pl ph at_ m + farQ r0 r1 at_ * ((kb m : Int) : Rat) / ((n : Int) : Rat) = QM at *
      go_wp2_with fail
      generalize W4.setRow g11 #[.bool sX, .slice aX pX cX, .slice bX rX dX] = W5 at *
      refine gen_act (fun A0 hA => ?_)
      refine wp_region_pl (by kernel_rfl) (by kernel_rfl) [some 110, some 111, some 112, some 113, some 114, some 115, some 116, some 117, some 118, some 119, some 120, some 121, some 122, some 123] rfl (by decide)
        [IsV (.agg #[.bool sX, .slice aX pX cX, .slice bX rX dX]), IsV (.pointer (some ⟨wr.heap.size, 0, none⟩)), IsV (.int .i64 (bl m)), fun W v => QAt W v ((bl m : Int) : Rat) 4, IsV (.int .i64 (cmpQ QM ((bl m : Int) : Rat))), IsV (.bool false), IsV (.bool false), IsV (.agg #[.bool sX, .slice aX pX cX, .slice bX rX dX]), IsV (.pointer (some ⟨wr.heap.size, 1, none⟩)), IsV (.int .i64 (bh m)), fun W v => QAt W v ((bh m : Int) : Rat) 4, IsV (.int .i64 (cmpQ QM ((bh m : Int) : Rat))), IsV (.bool false), IsV (.bool false)]
        ⟨IsV.stb _, IsV.stb _, IsV.stb _, QAt.stb _ _, IsV.stb _, IsV.stb _, IsV.stb _, IsV.stb _, IsV.stb _, IsV.stb _, QAt.stb _ _, IsV.stb _, IsV.stb _, IsV.stb _, trivial⟩ ?hs1_17_W6 ?hend_17_W6
      case hs1_17_W6 =>
        refine ⟨?_, ?_, ?_, ?_, ?_, ?_, ?_, ?_, ?_, ?_, ?_, ?_, ?_, ?_, trivial⟩
        · intro K us W hK0 hB hd
          have hK := hid hK0; clear hK0
          have HBW := hid hB
          have hsW := hB.size
          have GB := hid (HBW5.out.trans (hB.mono HBW5.out.size))
          clear hd
          go_light
          have G0 := hid (heap_still hB X4.out)
          have c0 : W.cell? ⟨g11, 0, none⟩ = some (.bool sX) := (cell_row (j := 0) G0.out).trans rfl
          have c1 : W.cell? ⟨g11, 1, none⟩ = some (.slice aX pX cX) := (cell_row (j := 1) G0.out).trans rfl
          have c2 : W.cell? ⟨g11, 2, none⟩ = some (.slice bX rX dX) := (cell_row (j := 2) G0.out).trans rfl
          simp only [putF]
          rw [hA]
          go_frame
          go_wp2_with fail
          exact hK.out _ _ _ (by rw [hA]; simp only [putF]; kernel_rfl) (Below.refl _ _) rfl
        · intro K us W hK0 hB hd
          have hK := hid hK0; clear hK0
          have HBW := hid hB
          have hsW := hB.size
          have GB := hid (HBW5.out.trans (hB.mono HBW5.out.size))
          clear hd
          go_light
          simp only [putF]
          rw [hA]
          go_frame
          go_wp2_with fail
          exact hK.out _ _ _ (by rw [hA]; simp only [putF]; kernel_rfl) (Below.refl _ _) rfl
        · intro K us W hK0 hB hd
          have hK := hid hK0; clear hK0
          have HBW := hid hB
          have hsW := hB.size
          have GB := hid (HBW5.out.trans (hB.mono HBW5.out.size))
          have e1 : us 1 = .pointer (some ⟨wr.heap.size, 0, none⟩) := hd ⟨1, Ground.data⟩ (by simp) rfl
          clear hd
          go_light
          have G0 := hid (heap_still hB B4.out)
          have c0 : W.cell? ⟨wr.heap.size, 0, none⟩ = some (.int .i64 (bl m)) := (cell_row (j := 0) G0.out).trans rfl
          simp only [putF]
          rw [hA, e1]
          go_frame
          go_wp2_with fail
          exact hK.out _ _ _ (by rw [hA]; simp only [putF]; rw [e1]; kernel_rfl) (Below.refl _ _) rfl
        · intro K us W hK0 hB hd
          have hK := hid hK0; clear hK0
          have HBW := hid hB
          have hsW := hB.size
          have GB := hid (HBW5.out.trans (hB.mono HBW5.out.size))
          have e2 : us 2 = .int .i64 (bl m) := hd ⟨2, Ground.data⟩ (by simp) rfl
          clear hd
          go_light
          simp only [putF]
          rw [hA, e2]
          go_frame
          go_wp2_with fail
          refine (whole_any (bl m) W (by omega)).mono ?_
          rintro r W' ⟨⟨v, rfl, hv⟩, hb⟩
          go_wp2_with fail
          exact hK.out _ _ _ (by rw [hA]; simp only [putF]; rw [e2]; kernel_rfl) hb hv
        · intro K us W hK0 hB hd
          have hK := hid hK0; clear hK0
          have HBW := hid hB
          have hsW := hB.size
          have GB := hid (HBW5.out.trans (hB.mono HBW5.out.size))
          have e0 : us 0 = .agg #[.bool sX, .slice aX pX cX, .slice bX rX dX] := hd ⟨0, Ground.data⟩ (by simp) rfl
          have hd3 : (fun W v => QAt W v ((bl m : Int) : Rat) 4) W (us 3) := hd ⟨3, Ground.data⟩ (by simp) rfl
          obtain ⟨cs3, e3, hcs3, hco3⟩ := hd3.cells
          rw [e3] at hd3
          have HH3 := hid hd3
          clear hd3
          clear hd
          go_light
          simp only [putF]
          rw [hA, e0, e3]
          go_frame
          go_wp2_with fail
          refine (qcmp_any _ _ 1041 _ _ W (QX4.out.grow hB) (HH3.out.wide (by decide)) (by decide)).mono ?_
          rintro r W' ⟨rfl, hb⟩
          go_wp2_with fail
          exact hK.out _ _ _ (by rw [hA]; simp only [putF]; rw [e0, e3]; kernel_rfl) hb rfl
        · intro K us W hK0 hB hd
          have hK := hid hK0; clear hK0
          have HBW := hid hB
          have hsW := hB.size
          have GB := hid (HBW5.out.trans (hB.mono HBW5.out.size))
          have e4 : us 4 = .int .i64 (cmpQ QM ((bl m : Int) : Rat)) := hd ⟨4, Ground.data⟩ (by simp) rfl
          clear hd
          go_light
          have hc1 := HC1.out
          simp only [putF]
          rw [hA, e4]
          go_frame
          go_wp2_with fail
          exact hK.out _ _ _ (by rw [hA]; simp only [putF]; rw [e4]; kernel_rfl) (Below.refl _ _) rfl
        · intro K us W hK0 hB hd
          have hK := hid hK0; clear hK0
          have HBW := hid hB
          have hsW := hB.size
          have GB := hid (HBW5.out.trans (hB.mono HBW5.out.size))
          have e5 : us 5 = .bool false := hd ⟨5, Ground.data⟩ (by simp) rfl
          clear hd
          go_light
          simp only [putF]
          rw [hA, e5]
          go_frame
          go_wp2_with fail
          exact hK.out _ _ _ (by rw [hA]; simp only [putF]; rw [e5]; kernel_rfl) (Below.refl _ _) rfl
        · intro K us W hK0 hB hd
          have hK := hid hK0; clear hK0
          have HBW := hid hB
          have hsW := hB.size
          have GB := hid (HBW5.out.trans (hB.mono HBW5.out.size))
          have e6 : us 6 = .bool false := hd ⟨6, Ground.guard⟩ (by simp) rfl
          simp only [putF]
          rw [hA, e6]
          go_frame
          refine wpList_strip (by kernel_rfl) ?_
          clear hd
          go_light
          have G0 := hid (heap_still hB X4.out)
          have c0 : W.cell? ⟨g11, 0, none⟩ = some (.bool sX) := (cell_row (j := 0) G0.out).trans rfl
          have c1 : W.cell? ⟨g11, 1, none⟩ = some (.slice aX pX cX) := (cell_row (j := 1) G0.out).trans rfl
          have c2 : W.cell? ⟨g11, 2, none⟩ = some (.slice bX rX dX) := (cell_row (j := 2) G0.out).trans rfl
          go_wp2_with fail
          exact hK.out _ _ _ (by rw [hA]; simp only [putF]; rw [e6]; kernel_rfl) (Below.refl _ _) rfl
        · intro K us W hK0 hB hd
          have hK := hid hK0; clear hK0
          have HBW := hid hB
          have hsW := hB.size
          have GB := hid (HBW5.out.trans (hB.mono HBW5.out.size))
          have e6 : us 6 = .bool false := hd ⟨6, Ground.guard⟩ (by simp) rfl
          simp only [putF]
          rw [hA, e6]
          go_frame
          refine wpList_strip (by kernel_rfl) ?_
          clear hd
          go_light
          go_wp2_with fail
          exact hK.out _ _ _ (by rw [hA]; simp only [putF]; rw [e6]; kernel_rfl) (Below.refl _ _) rfl
        · intro K us W hK0 hB hd
          have hK := hid hK0; clear hK0
          have HBW := hid hB
          have hsW := hB.size
          have GB := hid (HBW5.out.trans (hB.mono HBW5.out.size))
          have e6 : us 6 = .bool false := hd ⟨6, Ground.guard⟩ (by simp) rfl
          simp only [putF]
          rw [hA, e6]
          go_frame
          refine wpList_strip (by kernel_rfl) ?_
          have e8 : us 8 = .pointer (some ⟨wr.heap.size, 1, none⟩) := hd ⟨8, Ground.data⟩ (by simp) rfl
          clear hd
          go_light
          have G0 := hid (heap_still hB B4.out)
          have c0 : W.cell? ⟨wr.heap.size, 1, none⟩ = some (.int .i64 (bh m)) := (cell_row (j := 1) G0.out).trans rfl
          rw [e8]
          go_wp2_with fail
          exact hK.out _ _ _ (by rw [hA]; simp only [putF]; rw [e6, e8]; kernel_rfl) (Below.refl _ _) rfl
        · intro K us W hK0 hB hd
          have hK := hid hK0; clear hK0
          have HBW := hid hB
          have hsW := hB.size
          have GB := hid (HBW5.out.trans (hB.mono HBW5.out.size))
          have e6 : us 6 = .bool false := hd ⟨6, Ground.chain⟩ (by simp) rfl
          simp only [putF]
          rw [hA, e6]
          go_frame
          refine wpList_strip (by kernel_rfl) ?_
          have e9 : us 9 = .int .i64 (bh m) := hd ⟨9, Ground.data⟩ (by simp) rfl
          clear hd
          go_light
          rw [e9]
          go_wp2_with fail
          refine (whole_any (bh m) W (by omega)).mono ?_
          rintro r W' ⟨⟨v, rfl, hv⟩, hb⟩
          go_wp2_with fail
          exact hK.out _ _ _ (by rw [hA]; simp only [putF]; rw [e6, e9]; kernel_rfl) hb hv
        · intro K us W hK0 hB hd
          have hK := hid hK0; clear hK0
          have HBW := hid hB
          have hsW := hB.size
          have GB := hid (HBW5.out.trans (hB.mono HBW5.out.size))
          have e6 : us 6 = .bool false := hd ⟨6, Ground.guard⟩ (by simp) rfl
          simp only [putF]
          rw [hA, e6]
          go_frame
          refine wpList_strip (by kernel_rfl) ?_
          have e7 : us 7 = .agg #[.bool sX, .slice aX pX cX, .slice bX rX dX] := hd ⟨7, Ground.data⟩ (by simp) rfl
          have hd10 : (fun W v => QAt W v ((bh m : Int) : Rat) 4) W (us 10) := hd ⟨10, Ground.data⟩ (by simp) rfl
          obtain ⟨cs10, e10, hcs10, hco10⟩ := hd10.cells
          rw [e10] at hd10
          have HH10 := hid hd10
          clear hd10
          clear hd
          go_light
          rw [e7, e10]
          go_wp2_with fail
          refine (qcmp_any _ _ 1041 _ _ W (QX4.out.grow hB) (HH10.out.wide (by decide)) (by decide)).mono ?_
          rintro r W' ⟨rfl, hb⟩
          go_wp2_with fail
          exact hK.out _ _ _ (by rw [hA]; simp only [putF]; rw [e6, e7, e10]; kernel_rfl) hb rfl
        · intro K us W hK0 hB hd
          have hK := hid hK0; clear hK0
          have HBW := hid hB
          have hsW := hB.size
          have GB := hid (HBW5.out.trans (hB.mono HBW5.out.size))
          have e6 : us 6 = .bool false := hd ⟨6, Ground.guard⟩ (by simp) rfl
          simp only [putF]
          rw [hA, e6]
          go_frame
          refine wpList_strip (by kernel_rfl) ?_
          have e11 : us 11 = .int .i64 (cmpQ QM ((bh m : Int) : Rat)) := hd ⟨11, Ground.data⟩ (by simp) rfl
          clear hd
          go_light
          have hc2 := HC2.out
          rw [e11]
          go_wp2_with fail
          exact hK.out _ _ _ (by rw [hA]; simp only [putF]; rw [e6, e11]; kernel_rfl) (Below.refl _ _) rfl
        · intro K us W hK0 hB hd
          have hK := hid hK0; clear hK0
          have HBW := hid hB
          have hsW := hB.size
          have GB := hid (HBW5.out.trans (hB.mono HBW5.out.size))
          have e6 : us 6 = .bool false := hd ⟨6, Ground.data⟩ (by simp) rfl
          have e12 : us 12 = .bool false := hd ⟨12, Ground.data⟩ (by simp) rfl
          clear hd
          go_light
          simp only [putF]
          rw [hA, e6, e12]
          go_frame
          go_wp2_with fail
          exact hK.out _ _ _ (by rw [hA]; simp only [putF]; rw [e6, e12]; kernel_rfl) (Below.refl _ _) rfl
      intro us W6 hB hp
      have e13 : us 13 = .bool false := hp 13 (by decide)
      have HBW6 := hid (HBW5.out.trans (hB.mono HBW5.out.size))
      have HSW6 := hid (fun n x => @heap_still _ _ n x hB)
      have hzW6 := hB.size
      have hbW6 := hid hB
      clear hp
      clear hB
      simp only [putF]
      rw [hA, e13]
      clear hA e13
      go_frame
      have G6 := hid (G4.out.still hbW6.out)
      have N6 := hid (HSW6.out _ _ N4.out)
      have C6 := hid (HSW6.out _ _ C4.out)
      have QC6 := hid (QC4.out.grow hbW6.out)
      clear G4 N4 B4 C4 X4 QC4 QX4
      go_wp2_with (refine wpList_load_at rfl 35 (.tmp 20) rfl rfl C6.out Try.underlying35 rfl size35 rfl ?_)
      refine (qfloor_any _ 65 _ _ QC6.out (by decide)).mono ?_
      rintro r W7 ⟨⟨vi, rfl, hi⟩, hb⟩
      have HBW7 := hid (HBW6.out.trans (hb.mono HBW6.out.size))
      have G7 := hid (G6.out.still hb)
      have N7 := hid (heap_still hb N6.out)
      have HI := hid (show IntAt W7 vi (nlQ pl ph at_ m) 67 from hi)
      have fnl := FN.out
      clear hi hb G6 N6 C6 QC6
      go_wp2_with fail
      refine (fits_any (nlQ pl ph at_ m) 67 vi _ HI.out (by omega)).mono ?_
      rintro r W8 ⟨rfl, hb⟩
      have HBW8 := hid (HBW7.out.trans (hb.mono HBW7.out.size))
      have G8 := hid (G7.out.still hb)
      have N8 := hid (heap_still hb N7.out)
      clear hb G7 N7 HI
      have cP : W8.cell? ⟨g3, m * 2 + 1, none⟩ = some (.int .i64 (ph m)) := (cell_row G8.out.1).trans FP.out.2
      go_wp2_with (refine pt_store rfl 44 (.tmp 139) (.tmp 137) rfl (w6.heap.size + 1) (m * 2) _ rfl rfl N8.out size44 rfl (by show m * 2 + 2 ≤ 11; omega) rfl ?_)
      have hszW8 : w6.heap.size + 1 < W8.heap.size := (Array.getElem?_eq_some_iff.1 N8.out).1
      refine ⟨⟨m + 1, by omega, by go_num, below_setRow HBW8.out (by omega) _, G8.out.row N8.out (by decide) (by omega), ?_⟩, by simp [intOf]; omega⟩
      rw [← narA_next pl ph at_ a b c d t m hlt]
      exact setRow_heap _ _ _ _ _ _ N8.out
    · obtain rfl : m = 3 := by omega
      go_wp2_with (refine wpList_load_at rfl 35 (.tmp 16) rfl rfl HST.out.2.2.2.2.2.2.1 Try.underlying35 rfl size35 rfl ?_)
      refine (qfloor_any _ 65 _ _ HST.out.2.2.2.2.2.2.2.2 (by decide)).mono ?_
      rintro r W1 ⟨⟨vi, rfl, hi⟩, hb⟩
      have HBW1 := hid (HBwr.out.trans (hb.mono HBwr.out.size))
      have G1 := hid (HST.out.still hb)
      have N1 := hid (heap_still hb HNA.out)
      have HI := hid hi
      clear hi hb HST HNA HBwr
      go_wp2_with fail
      refine (fits_any (farQ r0 r1 at_).floor 67 vi _ HI.out (by omega)).mono ?_
      rintro r W2 ⟨rfl, hb⟩
      have HBW2 := hid (HBW1.out.trans (hb.mono HBW1.out.size))
      have G2 := hid (G1.out.still hb)
      have N2 := hid (heap_still hb N1.out)
      have hszW2 : w6.heap.size + 1 + 1 < W2.heap.size := (Array.getElem?_eq_some_iff.1 G2.out.2.2.2.2.2.2.2.1).1
      clear hb G1 N1 HI
      have cT : W2.cell? ⟨g3, 10, none⟩ = some (.int .i64 t) := (cell_row (j := 10) G2.out.1).trans rfl
      have htd : t.tdiv 2 = t / 2 := Int.tdiv_eq_ediv_of_nonneg htb.1
      have M3 := hid (setRow_heap _ _ _ (ptL (narA pl ph at_ a b c d t 3) 10 [.int .i64 (t / 2)]) _ _ N2.out)
      have S3 := hid (setRow_past (cells := (ptL (narA pl ph at_ a b c d t 3) 10 [.int .i64 (t / 2)])) G2.out.2.1 (by omega : g4 ≠ w6.heap.size + 1))
      have X3 := hid (setRow_past (cells := (ptL (narA pl ph at_ a b c d t 3) 10 [.int .i64 (t / 2)])) G2.out.2.2.2.2.1 (by omega : w2.heap.size ≠ w6.heap.size + 1))
      have cR : (W2.setRow (w6.heap.size + 1) (ptL (narA pl ph at_ a b c d t 3) 10 [.int .i64 (t / 2)])).cell? ⟨g5, 1, none⟩ = some (.int .i64 r1) := (cell_row (j := 1) (setRow_past (cells := (ptL (narA pl ph at_ a b c d t 3) 10 [.int .i64 (t / 2)])) G2.out.2.2.1 (by omega : g5 ≠ w6.heap.size + 1))).trans rfl
      have HBW3 := hid (below_setRow HBW2.out (by omega : w.heap.size ≤ w6.heap.size + 1) (ptL (narA pl ph at_ a b c d t 3) 10 [.int .i64 (t / 2)]))
      go_wp2_with (first | (refine pt_store1 rfl 3 (.tmp 150) (.tmp 149) rfl (w6.heap.size + 1) 10 _ rfl rfl rfl rfl N2.out size3 (by show 10 + 1 ≤ 11; decide) ?_) | (refine wpList_load_at rfl 80 (.tmp 17) rfl rfl M3.out Try.underlying80 rfl size80 rfl ?_) | (refine wpList_load_at rfl 22 (.tmp 4) rfl rfl S3.out Try.underlying22 rfl size22 rfl ?_))
      clear cR cT
      have hW3s := (Array.getElem?_eq_some_iff.1 M3.out).1
      generalize W2.setRow (w6.heap.size + 1) (ptL (narA pl ph at_ a b c d t 3) 10 [.int .i64 (t / 2)]) = W3 at *
      refine (HX2.out _).mono ?_
      rintro r W4 ⟨rfl, hb⟩
      have HBW4 := hid (show Below w.heap.size w W4 by have hB0 := HBW3.out; refine Below.trans ?_ (hb.mono ?_); (focus ((repeat' (first | (with_reducible exact Below.refl _ _) | (with_reducible assumption) | (with_reducible refine Below.alloc ?_ ?_ _) | (with_reducible refine Below.drew ?_) | (with_reducible refine below_drewN ?_ _) | (with_reducible refine Below.setCell ?_ ?_ _) | (with_reducible refine below_setRow ?_ ?_ _) | go_size)); done)); (focus (first | (simp; done) | (simp; omega) | (have hB1 := hB0.size; simp; omega))))
      have hsW4 := hb.size
      (try simp at hsW4)
      have hzW4 : w.heap.size < W4.heap.size := by omega
      have hkW4 := hid (fun n x => @heap_still _ _ n x hb)
      have hbW4 := hid hb
      clear hb
      have X4 := hid (hkW4.out _ _ X3.out)
      go_wp2_with (first | (refine wpList_store_new rfl 46 (.tmp 26) (.tmp 159) rfl rfl rfl rfl size46 rfl rfl rfl ?_) | (refine wpList_load_at rfl 46 (.tmp 26) rfl rfl (heap_alloc_at _ _ _ rfl) Try.underlying46 rfl size46 rfl ?_) | (refine wpList_load_at rfl 46 (.tmp 7) rfl rfl (heap_alloc_past _ _ _ _ X4.out) Try.underlying46 rfl size46 rfl ?_))
      refine (HIS.out _).mono ?_
      rintro r W5 ⟨rfl, hb⟩
      have HBW5 := hid (show Below w.heap.size w W5 by have hB0 := HBW4.out; refine Below.trans ?_ (hb.mono ?_); (focus ((repeat' (first | (with_reducible exact Below.refl _ _) | (with_reducible assumption) | (with_reducible refine Below.alloc ?_ ?_ _) | (with_reducible refine Below.drew ?_) | (with_reducible refine below_drewN ?_ _) | (with_reducible refine Below.setCell ?_ ?_ _) | (with_reducible refine below_setRow ?_ ?_ _) | go_size)); done)); (focus (first | (simp; done) | (simp; omega) | (have hB1 := hB0.size; simp; omega))))
      have hsW5 := hb.size
      (try simp at hsW5)
      have hzW5 : w.heap.size < W5.heap.size := by omega
      have hkW5 := hid (fun n x => @heap_still _ _ n x hb)
      have hbW5 := hid hb
      clear hb
      go_wp2_with fail
      refine (awake_any _).mono ?_
      rintro r W6 ⟨rfl, hb⟩
      have HBW6 := hid (show Below w.heap.size w W6 by have hB0 := HBW5.out; refine Below.trans ?_ (hb.mono ?_); (focus ((repeat' (first | (with_reducible exact Below.refl _ _) | (with_reducible assumption) | (with_reducible refine Below.alloc ?_ ?_ _) | (with_reducible refine Below.drew ?_) | (with_reducible refine below_drewN ?_ _) | (with_reducible refine Below.setCell ?_ ?_ _) | (with_reducible refine below_setRow ?_ ?_ _) | go_size)); done)); (focus (first | (simp; done) | (simp; omega) | (have hB1 := hB0.size; simp; omega))))
      have hsW6 := hb.size
      (try simp at hsW6)
      have hzW6 : w.heap.size < W6.heap.size := by omega
      obtain ⟨hcW6, hfW6⟩ := bcell hb
      have hkW6 := hid (fun n x => @heap_still _ _ n x hb)
      clear hb
      go_wp2_with fail
      go_ret
      exact ⟨rfl, HBW6.out⟩
end Go.Proofs.Yteoikaedpgianaa
namespace Go.Proofs.Yteoikaedpgianaa
open Go.RowKit Limb

theorem pose_mk {x0 x1 y0 y1 z0 z1 a b c d t e f g h r0 r1 : Int} (h1 : spanB x0 x1 = true ∧ [x0, x1].all (inB (-268435456) 268435456) = true) (h2 : spanB y0 y1 = true ∧ [y0, y1].all (inB (-268435456) 268435456) = true) (h3 : spanB z0 z1 = true ∧ [z0, z1].all (inB (-268435456) 268435456) = true)
    (h4 : inB 0 2147483648 t = true) (h5 : spanB r0 r1 = true) (h6 : [r0, r1].all (inB 0 4194304) = true) (h7 : turnB 1000 a b c d = true) (h8 : turnB 1000 e f g h = true) : poseErr x0 x1 y0 y1 z0 z1 a b c d t e f g h r0 r1 = 0 := by
  unfold poseErr
  rw [if_pos h1.1, if_pos h1.2, if_pos h2.1, if_pos h2.2, if_pos h3.1, if_pos h3.2, if_pos h4, if_pos h5, if_pos h6, if_pos h7, if_pos h8]
theorem span_mk {l u x y : Int} (hl : -1152921504606846976 ≤ l) (hu : u ≤ 1152921504606846976) (h : l ≤ x ∧ x ≤ y ∧ y ≤ u) : spanB x y = true ∧ [x, y].all (inB l u) = true := by
  simp [spanB, inB]
  omega
theorem locOk_in {x y : Int} (h : locOk x y = true) : (-268435456 ≤ x ∧ x ≤ 268435456) ∧ (-268435456 ≤ y ∧ y ≤ 268435456) := by
  simp [locOk, inB] at h
  omega
theorem locOk_mk {x y : Int} (h : (-268435456 ≤ x ∧ x ≤ 268435456) ∧ (-268435456 ≤ y ∧ y ≤ 268435456)) : locOk x y = true := by
  simp [locOk, inB]
  omega
theorem box_mk {ax aX ay aY az aZ bx bX by' bY bz bZ : Int} (h1 : -268435456 ≤ bx ∧ bx ≤ ax ∧ ax ≤ aX ∧ aX ≤ bX ∧ bX ≤ 268435456) (h2 : -268435456 ≤ by' ∧ by' ≤ ay ∧ ay ≤ aY ∧ aY ≤ bY ∧ bY ≤ 268435456) (h3 : -268435456 ≤ bz ∧ bz ≤ az ∧ az ≤ aZ ∧ aZ ≤ bZ ∧ bZ ≤ 268435456) :
    boxB ax aX ay aY az aZ bx bX by' bY bz bZ = true := by
  simp [boxB, insB, spanB]
  omega
theorem lo_le_hi {k n lo hi r0 r1 wide : Int} (hk : -n ≤ k ∧ k ≤ n) (hn : 0 < n) (hw : 0 ≤ wide) (hl : -268435456 ≤ lo ∧ lo ≤ hi ∧ hi ≤ 268435456) (hr : 0 ≤ r0 ∧ r0 ≤ r1 ∧ r1 ≤ 4194304) : locLo k n lo r0 r1 wide ≤ locHi k n hi r0 r1 wide := by
  have h := al_be hk hn hl hr
  rw [locLo_al, locHi_be]
  omega
theorem locRes_yes (v0 v1 v2 v3 v4 v5 : Int) : locRes true v0 v1 v2 v3 v4 v5 = .tuple #[.agg #[.int .i64 v0, .int .i64 v1, .int .i64 v2, .int .i64 v3, .int .i64 v4, .int .i64 v5], .int .i64 0] := rfl
theorem places_law (pl ph at_ : Nat → Int) (a b c d t e f g h r0 r1 : Int) (w : World) :
    Calls Try.prog 12 #[.agg #[.int .i64 (pl 0), .int .i64 (ph 0), .int .i64 (pl 1), .int .i64 (ph 1), .int .i64 (pl 2), .int .i64 (ph 2), .int .i64 a, .int .i64 b, .int .i64 c, .int .i64 d, .int .i64 t, .int .i64 e, .int .i64 f, .int .i64 g, .int .i64 h, .int .i64 r0, .int .i64 r1, .int .i64 (at_ 0), .int .i64 (at_ 1), .int .i64 (at_ 2), .int .i64 (at_ 3)]] w fun r w' => r = .returned (.bool true) ∧ Below w.heap.size w w' := by
  by_cases hok : poseErr (pl 0) (ph 0) (pl 1) (ph 1) (pl 2) (ph 2) a b c d t e f g h r0 r1 = 0
  · have hX := fun W => xlocate_ok (pl 0) (ph 0) (pl 1) (ph 1) (pl 2) (ph 2) a b c d t e f g h r0 r1 W hok
    have hR := fun W => rlocate_ok (pl 0) (ph 0) (pl 1) (ph 1) (pl 2) (ph 2) a b c d t e f g h r0 r1 W hok
    obtain ⟨⟨hx, hx'⟩, ⟨hy, hy'⟩, ⟨hz, hz'⟩, ht, hr, hr', hp, hq⟩ := pose_ok hok
    obtain ⟨⟨p0, p1, p2, p3⟩, hn⟩ := turn_facts hp hq
    have hbd := Quat.beam_bd (Quat.m0 a b c d e f g h) (Quat.m1 a b c d e f g h) (Quat.m2 a b c d e f g h) (Quat.m3 a b c d e f g h)
    have hB := bmV_of hn.1 (ok4_iff.2 ⟨p0, p1, p2, p3⟩)
    have hP := prV_yes (a := a) (b := b) (c := c) (d := d) (e := e) (f := f) (g := g) (h := h) (by unfold okP; rw [(turn_ok hp).1, (turn_ok hq).1]; rfl)
    have sx := span_in hx hx'
    have sy := span_in hy hy'
    have sz := span_in hz hz'
    have sr := span_in hr hr'
    have st : 0 ≤ t ∧ t ≤ 2147483648 := by simp [inB] at ht; omega
    have hu := wide_bd (t := t) (r := r1) st (by omega)
    have hX2 := fun rf nl0 nl1 nl2 (h0 : poseErr nl0 (ph 0) nl1 (ph 1) nl2 (ph 2) a b c d (t / 2) e f g h rf r1 = 0) W => xlocate_ok nl0 (ph 0) nl1 (ph 1) nl2 (ph 2) a b c d (t / 2) e f g h rf r1 W h0
    have hPR := fun W => rproduct_any a b c d e f g h W
    have hBM := fun W => rbeam_any (Quat.m0 a b c d e f g h) (Quat.m1 a b c d e f g h) (Quat.m2 a b c d e f g h) (Quat.m3 a b c d e f g h) W
    rw [hP] at hPR
    rw [hB] at hBM
    unfold endsV at hX hR hX2
    dsimp only at hX hR hX2
    obtain ⟨k0, k1, k2⟩ := hbd
    generalize Quat.m0 a b c d e f g h = m0 at *
    generalize Quat.m1 a b c d e f g h = m1 at *
    generalize Quat.m2 a b c d e f g h = m2 at *
    generalize Quat.m3 a b c d e f g h = m3 at *
    generalize Quat.k0 m0 m1 m2 m3 = K0 at *
    generalize Quat.k1 m0 m1 m2 m3 = K1 at *
    generalize Quat.k2 m0 m1 m2 m3 = K2 at *
    generalize Quat.nn m0 m1 m2 m3 = n at *
    have hwm := wide_mono st.1 (show 0 ≤ r1 by omega)
    have hu2 := wide_bd (t := t / 2) (r := r1) (by omega) (by omega)
    generalize upV t r1 1000000 = u at *
    generalize upV (t / 2) r1 1000000 = u2 at *
    have hkb : ∀ i, i < 3 → -n ≤ [K0, K1, K2].getD i 0 ∧ [K0, K1, K2].getD i 0 ≤ n := three3 k0 k1 k2
    have hpl : ∀ i, i < 3 → -268435456 ≤ pl i ∧ pl i ≤ ph i ∧ ph i ≤ 268435456 := three3 sx sy sz
    by_cases hall : locAll (locLo K0 n (pl 0) r0 r1 u) (locHi K0 n (ph 0) r0 r1 u) (locLo K1 n (pl 1) r0 r1 u) (locHi K1 n (ph 1) r0 r1 u) (locLo K2 n (pl 2) r0 r1 u) (locHi K2 n (ph 2) r0 r1 u) = true
    · have hal := hall
      unfold locAll at hal
      rw [Bool.and_eq_true, Bool.and_eq_true] at hal
      have hbb : ∀ i, i < 3 → (-268435456 ≤ locLo ([K0, K1, K2].getD i 0) n (pl i) r0 r1 u ∧ locLo ([K0, K1, K2].getD i 0) n (pl i) r0 r1 u ≤ 268435456) ∧ (-268435456 ≤ locHi ([K0, K1, K2].getD i 0) n (ph i) r0 r1 u ∧ locHi ([K0, K1, K2].getD i 0) n (ph i) r0 r1 u ≤ 268435456) := three3 (locOk_in hal.1.1) (locOk_in hal.1.2) (locOk_in hal.2)
      have hfar := partQ_in sr.2.1 (sixK_bd (at_ 3))
      have hrf := floor_in hfar.1 hfar.2
      have hc := fun i (hi : i < 3) => partQ_in (hpl i hi).2.1 (sixK_bd (at_ i))
      have hnl : ∀ i, i < 3 → pl i ≤ nlQ pl ph at_ i ∧ nlQ pl ph at_ i ≤ ph i := fun i hi => floor_in (hc i hi).1 (hc i hi).2
      have hpe : poseErr (nlQ pl ph at_ 0) (ph 0) (nlQ pl ph at_ 1) (ph 1) (nlQ pl ph at_ 2) (ph 2) a b c d (t / 2) e f g h (farQ r0 r1 at_).floor r1 = 0 := by
        have n0 := hnl 0 (by decide)
        have n1 := hnl 1 (by decide)
        have n2 := hnl 2 (by decide)
        have q0 := hpl 0 (by decide)
        have q1 := hpl 1 (by decide)
        have q2 := hpl 2 (by decide)
        have hrr := span_mk (l := 0) (u := 4194304) (x := (farQ r0 r1 at_).floor) (y := r1) (by decide) (by decide) ⟨by have := hrf.1; show 0 ≤ (partQ r0 r1 (sixK (at_ 3))).floor; omega, hrf.2, by omega⟩
        exact pose_mk (span_mk (by decide) (by decide) (by omega)) (span_mk (by decide) (by decide) (by omega)) (span_mk (by decide) (by decide) (by omega)) (by simp [inB]; omega) hrr.1 hrr.2 hp hq
      have hin : ∀ i, i < 3 → locLo ([K0, K1, K2].getD i 0) n (pl i) r0 r1 u ≤ locLo ([K0, K1, K2].getD i 0) n (nlQ pl ph at_ i) (farQ r0 r1 at_).floor r1 u2 ∧
          locLo ([K0, K1, K2].getD i 0) n (nlQ pl ph at_ i) (farQ r0 r1 at_).floor r1 u2 ≤ locHi ([K0, K1, K2].getD i 0) n (ph i) (farQ r0 r1 at_).floor r1 u2 ∧ locHi ([K0, K1, K2].getD i 0) n (ph i) (farQ r0 r1 at_).floor r1 u2 ≤ locHi ([K0, K1, K2].getD i 0) n (ph i) r0 r1 u := fun i hi =>
        ⟨inner_lo (by omega) hrf.1 (hnl i hi).1 hwm, lo_le_hi (hkb i hi) (by omega) hu2.1 ⟨by have := hnl i hi; have := hpl i hi; omega, (hnl i hi).2, (hpl i hi).2.2⟩ ⟨by have := hrf.1; show 0 ≤ (partQ r0 r1 (sixK (at_ 3))).floor; omega, hrf.2, by omega⟩, inner_hi (by omega) hrf.1 hwm⟩
      have hall2 : locAll (locLo K0 n (nlQ pl ph at_ 0) (farQ r0 r1 at_).floor r1 u2) (locHi K0 n (ph 0) (farQ r0 r1 at_).floor r1 u2) (locLo K1 n (nlQ pl ph at_ 1) (farQ r0 r1 at_).floor r1 u2) (locHi K1 n (ph 1) (farQ r0 r1 at_).floor r1 u2) (locLo K2 n (nlQ pl ph at_ 2) (farQ r0 r1 at_).floor r1 u2) (locHi K2 n (ph 2) (farQ r0 r1 at_).floor r1 u2) = true := by
        unfold locAll
        rw [Bool.and_eq_true, Bool.and_eq_true]
        have key : ∀ i, i < 3 → locOk (locLo ([K0, K1, K2].getD i 0) n (nlQ pl ph at_ i) (farQ r0 r1 at_).floor r1 u2) (locHi ([K0, K1, K2].getD i 0) n (ph i) (farQ r0 r1 at_).floor r1 u2) = true := fun i hi => by
          have h1 := hin i hi
          have h2 := hbb i hi
          exact locOk_mk (by omega)
        exact ⟨⟨key 0 (by decide), key 1 (by decide)⟩, key 2 (by decide)⟩
      have hX3 := hX2 _ _ _ _ hpe
      skip
      rw [hall, locRes_yes] at hX hR
      rw [hall2, locRes_yes] at hX3
      have hbox : ∀ i, i < 3 → -268435456 ≤ locLo ([K0, K1, K2].getD i 0) n (pl i) r0 r1 u ∧ locLo ([K0, K1, K2].getD i 0) n (pl i) r0 r1 u ≤ locLo ([K0, K1, K2].getD i 0) n (nlQ pl ph at_ i) (farQ r0 r1 at_).floor r1 u2 ∧
          locLo ([K0, K1, K2].getD i 0) n (nlQ pl ph at_ i) (farQ r0 r1 at_).floor r1 u2 ≤ locHi ([K0, K1, K2].getD i 0) n (ph i) (farQ r0 r1 at_).floor r1 u2 ∧ locHi ([K0, K1, K2].getD i 0) n (ph i) (farQ r0 r1 at_).floor r1 u2 ≤ locHi ([K0, K1, K2].getD i 0) n (ph i) r0 r1 u ∧ locHi ([K0, K1, K2].getD i 0) n (ph i) r0 r1 u ≤ 268435456 := fun i hi => by
        have h1 := hin i hi
        have h2 := hbb i hi
        omega
      exact places_walk pl ph at_ (fun i => [K0, K1, K2].getD i 0) (fun i => locLo ([K0, K1, K2].getD i 0) n (pl i) r0 r1 u) (fun i => locHi ([K0, K1, K2].getD i 0) n (ph i) r0 r1 u)
        (fun i => locLo ([K0, K1, K2].getD i 0) n (nlQ pl ph at_ i) (farQ r0 r1 at_).floor r1 u2) (fun i => locHi ([K0, K1, K2].getD i 0) n (ph i) (farQ r0 r1 at_).floor r1 u2) a b c d t e f g h r0 r1 n m0 m1 m2 m3 w
        (fun i hi => by have := hpl i hi; omega) (by omega) st (by omega) (fun i hi => by have := hkb i hi; show -64000000000000 ≤ [K0, K1, K2].getD i 0 ∧ [K0, K1, K2].getD i 0 ≤ 64000000000000; omega) hbb hX hR hPR hBM
        (fun i hi => ⟨place_lo (by omega) hu.1 (hc i hi).1 hfar.1 hfar.2, place_hi (by omega) hu.1 (hc i hi).2 hfar.1 hfar.2⟩)
        (fun i hi => by have := hnl i hi; have := hpl i hi; omega) ⟨by have := hrf.1; show 0 ≤ (partQ r0 r1 (sixK (at_ 3))).floor; omega, by have := hrf.2; show (partQ r0 r1 (sixK (at_ 3))).floor ≤ 4194304; omega⟩ hX3
        (fun W => by
          have h := xInside_any (locLo K0 n (nlQ pl ph at_ 0) (farQ r0 r1 at_).floor r1 u2) (locHi K0 n (ph 0) (farQ r0 r1 at_).floor r1 u2) (locLo K1 n (nlQ pl ph at_ 1) (farQ r0 r1 at_).floor r1 u2) (locHi K1 n (ph 1) (farQ r0 r1 at_).floor r1 u2) (locLo K2 n (nlQ pl ph at_ 2) (farQ r0 r1 at_).floor r1 u2) (locHi K2 n (ph 2) (farQ r0 r1 at_).floor r1 u2)
            (locLo K0 n (pl 0) r0 r1 u) (locHi K0 n (ph 0) r0 r1 u) (locLo K1 n (pl 1) r0 r1 u) (locHi K1 n (ph 1) r0 r1 u) (locLo K2 n (pl 2) r0 r1 u) (locHi K2 n (ph 2) r0 r1 u) W
          exact h.mono (fun r w' hh => ⟨hh.1.trans (congrArg (fun x => Ending.returned (Value.bool x)) (box_mk (hbox 0 (by decide)) (hbox 1 (by decide)) (hbox 2 (by decide)))), hh.2⟩))
    · have hf := Bool.eq_false_iff.2 hall
      skip
      rw [hf] at hX hR
      exact places_no pl ph at_ a b c d t e f g h r0 r1 0 0 0 0 0 0 3 w (by decide) hX hR
  · exact places_no pl ph at_ a b c d t e f g h r0 r1 0 0 0 0 0 0 _ w hok (fun W => xlocate_bad _ _ _ _ _ _ _ _ _ _ _ _ _ _ _ _ _ W hok) (fun W => rlocate_bad _ _ _ _ _ _ _ _ _ _ _ _ _ _ _ _ _ W hok)
end Go.Proofs.Yteoikaedpgianaa
namespace Go.Proofs.Yteoikaedpgianaa
open Go.ChangeShapes Go.WideShapes Go.ChangeAt Go.RowKit Limb

theorem places_args (W : World) (xs : List Int) (hx : xs.length = 21) :
    Calls Try.prog 12 #[.agg (xs.map (Value.int .i64)).toArray] W fun r w' => r = .returned (.bool true) ∧ Below W.heap.size W w' := by
  match xs, hx with
  | [x0, x1, x2, x3, x4, x5, x6, x7, x8, x9, x10, x11, x12, x13, x14, x15, x16, x17, x18, x19, x20], _ => exact places_law (fun i => [x0, x2, x4].getD i 0) (fun i => [x1, x3, x5].getD i 0) (fun i => [x17, x18, x19, x20].getD i 0) x6 x7 x8 x9 x10 x11 x12 x13 x14 x15 x16 W
set_option maxRecDepth 100000 in
theorem trackPlaces_lifted (os : Os) (started : os.Started) (H : Type) (enc : TypeId × Value → H) :
    ReturnsInHanded {} Try.checked os 12 .any (Rows.trackPlacesSpec.pre6 enc Try.prog Try.f12 Rows.trackPlacesRow.domain false) (Rows.trackPlacesSpec.post enc Try.prog Try.f12 false true false false) := by
  refine law_lifted (C := Try.checked) (tb := 4) lawOwn started (by kernel_rfl) Try.func12 rfl ?_ (show Try.f12.resultTypes = #[4] by kernel_rfl) Try.underlying4 lawLaid ?_
    (ChangeSpec.witness6 (enc := enc) (C := Try.checked) false ⟨#[], #[.agg #[.int .i64 0, .int .i64 0, .int .i64 0, .int .i64 0, .int .i64 0, .int .i64 0, .int .i64 0, .int .i64 0, .int .i64 0, .int .i64 0, .int .i64 0, .int .i64 0, .int .i64 0, .int .i64 0, .int .i64 0, .int .i64 0, .int .i64 0, .int .i64 0, .int .i64 0, .int .i64 0, .int .i64 0]], []⟩ 8 (by kernel_rfl) (by kernel_rfl) (by kernel_rfl) (by kernel_rfl)) ?_
  · intro ds hds
    match ds, hds with
    | [d1], _ => exact ⟨rfl, rfl, rfl⟩
  · rw [Try.params12]
    intro t ht
    simp at ht
    subst ht
    exact ⟨by kernel_rfl, of_decide_eq_true (by kernel_rfl)⟩
  · intro W base args ds p hval hA hlt _
    change DataW.TrodAll enc Try.prog W 0 (fun _ => true) true Try.f12.params.toList args.toList ds p at hA
    change ∀ (j : Nat) t v, Try.f12.params[j]? = some t → args[j]? = some v → Value.okWide Try.prog W .any base t v at hval
    rw [Try.params12] at hA hval
    obtain ⟨v0, vs0, d0, ds0, p0, q0, hargs, rfl, rfl, h0, r0⟩ := trodAll_cons hA
    obtain ⟨rfl, rfl, rfl⟩ := trodAll_nil r0
    obtain rfl : args = #[v0] := by cases args; simp_all
    obtain ⟨c0, e0, f0⟩ := open_flat lawFlat88 lawSize88 (by kernel_rfl) (hval 0 88 v0 rfl rfl) h0
    obtain ⟨xs, hx, rfl⟩ := lawCells f0
    subst e0
    exact places_args W xs hx

/-- TrackPlaces, whatever the input. -/
theorem trackPlaces_holds : Rows.TrackPlacesSaid :=
  OpenClaim.holds_of_wide 12 Try.f12 rfl rfl rfl rfl rfl rfl rfl ⟨rfl, rfl, rfl, rfl, rfl⟩ rfl rfl rfl rfl rfl (by kernel_rfl) Try.func12 (by kernel_rfl)
    (of_decide_eq_true (by kernel_rfl)) (by unfold Func.isWrapper; rw [if_neg (of_decide_eq_false (by kernel_rfl))]; exact ⟨rfl, rfl⟩)
    (fun os started H enc _ => trackPlaces_lifted os started H enc)
#print axioms trackPlaces_holds
end Go.Proofs.Yteoikaedpgianaa
