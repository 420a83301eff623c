/- TopArchive: an archive whose disk loses power at any operation of a call. -/
import Derived.Test.YtcclpdfmmdonpaaGreatXTopH
import Derived.Test.YtcclpdfmmdonpaaGreatXTopI
namespace Go.Proofs.YtcclpdfmmdonpaaGreat
open Go.RowKit Go.WideShapes Go.ChangeAt Go.Maps Go.Sort
structure Sk where
  fg : Bool
  bl : Int
  av : Value
  rw : Value
  A : List Pt
  R : List Int
  tt : Int
  ag : Int
  k0 : Int
  k1 : Int
  m0 : Int
  m1 : Int
def Sk.row (p : Sk) : List Value := [.bool p.fg, .int .i64 p.bl, p.av, p.rw, .int .i64 p.tt, .int .i64 p.ag, .int .i64 p.k0, .int .i64 p.k1, .int .i64 p.m0, .int .i64 p.m1]
structure SkOk (W : World) (p : Sk) : Prop where
  add : PtsV W p.av p.A
  add0 : NilV p.av
  addn : p.A.length <= maxLen
  rem : IntsV W p.rw p.R
  rem0 : NilV p.rw
  remn : p.R.length <= maxLen
  wf : ∀ z ∈ p.R, (Lit.int .i64 z).wf = true
  bl2 : p.bl <= 9223372036854775807
theorem shaken_any (B g gd bb N : Nat) (a : Ac) (d : Dk) (bv sv pv vv rv av rw : Value) (fg : Bool) (bl tt ag k0 k1 m0 m1 : Int) (A : List Pt) (R : List Int) (w : World) (hS : Sta w B g gd bb N a d bv sv pv vv rv) (hN : N <= 36)
    (ha : ∀ W1, Below B w W1 -> PtsV W1 av A) (ha0 : NilV av) (hr : ∀ W1, Below B w W1 -> IntsV W1 rw R) (hr0 : NilV rw) (hA12 : A.length <= 12) (hR12 : R.length <= 12) (hwf : ∀ z ∈ R, (Lit.int .i64 z).wf = true) (hbl : bl <= 9223372036854775807) :
    Calls Tryz.prog 9 #[.pointer (some ⟨gd, 0, none⟩), .pointer (some ⟨g, 0, none⟩), .pointer (some ⟨bb, 0, none⟩), .agg #[.bool fg, .int .i64 bl, av, rw, .int .i64 tt, .int .i64 ag, .int .i64 k0, .int .i64 k1, .int .i64 m0, .int .i64 m1]] w fun r w' => StpPost B gd bb N a.c w r w' := by
  cases fg
  · exact shaken_c B g gd bb N a d bv sv pv vv rv av rw bl tt ag k0 k1 m0 m1 A R w hS hN ha ha0 hr hr0 hA12 hR12 hwf
  · exact shaken_f B g gd bb N a d bv sv pv vv rv av rw bl tt ag k0 k1 m0 m1 w hS hN hbl
theorem size40 : (Tryz.prog.info? 40).map (·.size) = some 10 := by kernel_rfl
def LoopK (w : World) (gd bb n : Nat) (c : Int) (iv av : Value) (W : World) : Prop :=
  ∃ (i g : Nat) (a : Ac) (d : Dk) (bv sv pv vv rv : Value), i <= n /\ iv = .int .i64 (i : Int) /\ av = .pointer (some ⟨g, 0, none⟩) /\ Sta W w.heap.size g gd bb (2 * i) a d bv sv pv vv rv /\ a.c = c /\ Below w.heap.size w W
set_option maxRecDepth 100000 in
set_option maxHeartbeats 3200000 in
theorem top_law (c : Int) (a : Option Addr) (cap : Nat) (L : List Sk) (w : World) (hcw : -9223372036854775808 <= c /\ c <= 9223372036854775807) (hLn : L.length <= maxLen)
    (hel : ∀ i p, L[i]? = some p -> (∃ b off, a = some ⟨b, off, none⟩ /\ b < w.heap.size /\ ∀ j, j < 10 -> w.cell? ⟨b, off + i * 10 + j, none⟩ = p.row[j]?) /\ SkOk w p) :
    Calls Tryz.prog 3 #[.int .i64 c, .slice a L.length cap] w fun r w' => r = .returned (.bool true) /\ Below w.heap.size w w' := by
  have HEL := hid hel; clear hel; obtain ⟨n, hn⟩ : ∃ n, n = L.length := ⟨_, rfl⟩; rw [<- hn] at hLn ⊢; have HNL := hid hn; clear hn; have hnb : (n : Int) <= 9223372036854775807 := by unfold maxLen at hLn; omega
  clear hLn; by_cases hout : (c < 1 ∨ 64 < c) ∨ 10 < n
  · have HO := hid hout; obtain ⟨x, hx⟩ : ∃ x, x = decide (c < 1) := ⟨_, rfl⟩; obtain ⟨y, hy⟩ : ∃ y, y = decide (64 < c) := ⟨_, rfl⟩; obtain ⟨z, hz⟩ : ∃ z, z = decide ((10 : Int) < (n : Int)) := ⟨_, rfl⟩
    have HT := hid (show x = true ∨ y = true ∨ z = true from by
      rw [hx, hy, hz]; simp only [decide_eq_true_eq]
      omega)
    have d1 := hx.symm; have d2 := hy.symm; have d3 := hz.symm; clear hout hx hy hz HEL
    cases x <;> cases y <;> cases z
    · have h9 := HT.out; simp at h9
    all_goals
      go_enter Tryz.func3, Tryz.ntmps3; go_wp2_with fail; refine (tiles_any _).mono ?_; rintro r w1 ⟨rfl, hb⟩; go_wp2_with fail; go_ret; exact ⟨rfl, hb⟩
  have hin : (1 <= c /\ c <= 64) /\ n <= 10 := by omega
  clear hout hcw; obtain ⟨cn, rfl⟩ : ∃ cn : Nat, c = (cn : Int) := ⟨c.toNat, by omega⟩; have d1 : decide ((cn : Int) < 1) = false := decide_eq_false (by omega); have d2 : decide (64 < (cn : Int)) = false := decide_eq_false (by omega); have d3 : decide ((10 : Int) < (n : Int)) = false := decide_eq_false (by omega); go_enter Tryz.func3, Tryz.ntmps3; go_wp2_with fail; refine (xnew_dk _).mono ?_; rintro r w1 ⟨rfl, hd, hb⟩; have HD1 := hid hd; have HB1 := hid hb; clear hd hb; go_wp2_with fail; refine (open_ok _ _ 0 Dk.new (Ac.empty cn) cn w1 HD1.out (holds_new hin.1.1 hin.1.2) (by omega) rfl).mono ?_; rintro r w2 ⟨⟨ga, bv, sv, pv, a0, rfl, ha2, hh2, hp2, hf2, hc2⟩, hb2⟩; have HA2 := hid ha2; have HH2 := hid hh2; have HP2 := hid hp2; have HF2 := hid hf2; have HC2 := hid hc2; have HD2 := hid (HD1.out.still hb2); have HB2 := hid (HB1.out.trans (hb2.mono HB1.out.size)); have HW1 := hid HB1.out.size; clear ha2 hh2 hp2 hf2 hc2 hb2 HD1 HB1; go_wp2_with fail; refine (rnew_any cn w2).mono ?_; rintro r w3 ⟨⟨vv, rv, rfl, hv3, hr3⟩, hb3⟩; have HV3 := hid hv3; have HR3 := hid hr3; obtain ⟨va, vc, hvv⟩ := OwnR.slice hv3; obtain ⟨vn, hvn⟩ : ∃ z, z = ((versL 0 1).map iRow).length := ⟨_, rfl⟩; rw [<- hvn] at hvv; subst hvv; clear hvn; obtain ⟨ra, rc, hrv⟩ := hr3.slice; obtain ⟨rn, hrn⟩ : ∃ z, z = ([[]] : List (List Pt)).length := ⟨_, rfl⟩; rw [<- hrn] at hrv; subst hrv; clear hrn; have HB3 := hid (HB2.out.trans (hb3.mono HB2.out.size)); have HA3 := hid (HA2.out.still hb3); have HD3 := hid (HD2.out.still hb3); clear hv3 hr3 hb3 HD2; unfold rfRow; go_upto_region 8 with (refine wpList_store_new rfl 33 (.tmp 8) (.tmp 43) rfl rfl rfl rfl size33 rfl rfl rfl ?_); refine gen_world (fun W4 hW4 => ?_); have KB4 := hid (show W4.heap[w3.heap.size]? = some (.cells #[.int .i64 cn, .slice va vn vc, .slice ra rn rc] 33) by rw [hW4]; exact (by repeat' (first | (refine heap_alloc_at _ _ _ ?_; (first | rfl | (simp; done) | (simp; omega))) | (refine heap_alloc_past _ _ _ _ ?_)))); have HA4 := hid (show Below w3.heap.size w3 W4 by rw [hW4]; (focus ((repeat' (first | (with_reducible first | exact Below.refl _ _ | assumption | refine Below.alloc ?_ ?_ _ | refine Below.drew ?_ | refine below_drewN ?_ _ | refine Below.setCell ?_ ?_ _ | refine below_setRow ?_ ?_ _) | go_size)); done))); clear hW4
  have HST := hid (show Sta W4 w.heap.size ga w.heap.size w3.heap.size 0 a0 Dk.new bv sv pv (.slice va vn vc) (.slice ra rn rc) from by
    have hw1 := HW1.out; have hw2 := HB2.out.size; have hw3 := HB3.out.size; refine ⟨(HA3.out.still HA4.out).mono hw1, HD3.out.still HA4.out, HH2.out, ?_, hw3, ?_, ?_, ?_, Nat.le_trans hw3 HA4.out.size⟩
    · show W4.heap[w3.heap.size]? = some (.cells #[.int .i64 a0.c, _, _] 33); rw [HC2.out]; exact KB4.out
    · rw [HF2.out, HP2.out]; exact OwnR.mono (OwnR.grow HV3.out HA4.out) hw2
    · rw [HP2.out]; exact (HR3.out.still HA4.out).mono hw2
    · intro k hk hk2; obtain ⟨E9, _, h9, _⟩ := HR3.out; have h1 := OwnR.ownBlock h9 k hk; obtain ⟨E8, _, h8, _⟩ := HA2.out.pts; obtain ⟨C8, h7⟩ := own_type h8 hk2; have := (Array.getElem?_eq_some_iff.1 h7).1
      omega)
  have HAC := hid (show a0.c = (cn : Int) from HC2.out); have HB4 := hid (HB3.out.trans (HA4.out.mono HB3.out.size)); clear HA2 HH2 HP2 HF2 HC2 HW1 HV3 HR3 HB3 HA3 HD3 HA4 HB2; obtain ⟨bb, hbb⟩ : ∃ z, z = w3.heap.size := ⟨_, rfl⟩; rw [<- hbb] at KB4 HST ⊢; clear hbb KB4; go_wp2_with fail
  go_loopw [46, 6] (LoopK w w.heap.size bb n cn) (fun iv _ _ => n - (intOf iv).toNat)
  case atStart => exact ⟨0, ga, a0, Dk.new, bv, sv, pv, _, _, by omega, rfl, rfl, HST.out, HAC.out, HB4.out⟩
  case round =>
    obtain ⟨i, g, a1, d1', bv1, sv1, pv1, vv1, rv1, hi, rfl, rfl, hS, hac, hB⟩ := hrel; have HS := hid hS; have HAC1 := hid hac; have HB := hid hB; clear hS hac hB HST HB4 HAC; by_cases hlt : i < n
    · have e3 : decide ((i : Int) < (n : Int)) = true := decide_eq_true (by omega); obtain ⟨p, hp⟩ : ∃ p, L[i]? = some p := ⟨L[i]'(by rw [<- HNL.out]; exact hlt), List.getElem?_eq_getElem _⟩; obtain ⟨⟨b, off, rfl, hb, hcell⟩, hok⟩ := HEL.out i p hp; clear hp; obtain ⟨fg, bl, av, rw, A, R, tt, ag, k0, k1, m0, m1⟩ := p; have HOK := hid hok; obtain ⟨aa, ac, hav, _⟩ := hok.add; obtain ⟨ra1, rc1, hrw, _⟩ := hok.rem; simp only at hav hrw; obtain ⟨an, han⟩ : ∃ z, z = A.length := ⟨_, rfl⟩; obtain ⟨rn1, hrn⟩ : ∃ z, z = R.length := ⟨_, rfl⟩; rw [<- han] at hav; rw [<- hrn] at hrw; subst hav hrw; have HAN := hid han; have HRN := hid hrn; have ham : (an : Int) <= 9223372036854775807 := by have := hok.addn; unfold maxLen at this; simp only at this; omega
      have hrm : (rn1 : Int) <= 9223372036854775807 := by have := hok.remn; unfold maxLen at this; simp only at this; omega
      have x0 : wr.cell? ⟨b, off + i * 10, none⟩ = some (.bool fg) := by rw [HB.out.cell hb]; exact hcell 0 (by omega)
      have x1 : wr.cell? ⟨b, off + i * 10 + 1, none⟩ = some (.int .i64 bl) := by rw [HB.out.cell hb]; exact hcell 1 (by omega)
      have x2 : wr.cell? ⟨b, off + i * 10 + 2, none⟩ = some (.slice aa an ac) := by rw [HB.out.cell hb]; exact hcell 2 (by omega)
      have x3 : wr.cell? ⟨b, off + i * 10 + 3, none⟩ = some (.slice ra1 rn1 rc1) := by rw [HB.out.cell hb]; exact hcell 3 (by omega)
      have x4 : wr.cell? ⟨b, off + i * 10 + 4, none⟩ = some (.int .i64 tt) := by rw [HB.out.cell hb]; exact hcell 4 (by omega)
      have x5 : wr.cell? ⟨b, off + i * 10 + 5, none⟩ = some (.int .i64 ag) := by rw [HB.out.cell hb]; exact hcell 5 (by omega)
      have x6 : wr.cell? ⟨b, off + i * 10 + 6, none⟩ = some (.int .i64 k0) := by rw [HB.out.cell hb]; exact hcell 6 (by omega)
      have x7 : wr.cell? ⟨b, off + i * 10 + 7, none⟩ = some (.int .i64 k1) := by rw [HB.out.cell hb]; exact hcell 7 (by omega)
      have x8 : wr.cell? ⟨b, off + i * 10 + 8, none⟩ = some (.int .i64 m0) := by rw [HB.out.cell hb]; exact hcell 8 (by omega)
      have x9 : wr.cell? ⟨b, off + i * 10 + 9, none⟩ = some (.int .i64 m1) := by rw [HB.out.cell hb]; exact hcell 9 (by omega)
      clear hcell hok han hrn; go_upto_region 11 with (refine wpList_store_new rfl 40 (.tmp 10) (.tmp 49) rfl rfl rfl rfl size40 rfl rfl rfl ?_); refine gen_world (fun W1 hW1 => ?_); have KW := hid (show W1.heap[wr.heap.size]? = some (.cells #[.bool fg, .int .i64 bl, .slice aa an ac, .slice ra1 rn1 rc1, .int .i64 tt, .int .i64 ag, .int .i64 k0, .int .i64 k1, .int .i64 m0, .int .i64 m1] 40) by rw [hW1]; exact (by repeat' (first | (refine heap_alloc_at _ _ _ ?_; (first | rfl | (simp; done) | (simp; omega))) | (refine heap_alloc_past _ _ _ _ ?_)))); have HBW := hid (show Below wr.heap.size wr W1 by rw [hW1]; (focus ((repeat' (first | (with_reducible first | exact Below.refl _ _ | assumption | refine Below.alloc ?_ ?_ _ | refine Below.drew ?_ | refine below_drewN ?_ _ | refine Below.setCell ?_ ?_ _ | refine below_setRow ?_ ?_ _) | go_size)); done))); clear hW1 x0 x1 x2 x3 x4 x5 x6 x7 x8 x9; have HB2 := hid (HB.out.trans (HBW.out.mono HB.out.size)); obtain ⟨t, ht⟩ : ∃ t, t = decide ((12 : Int) < (an : Int)) := ⟨_, rfl⟩; obtain ⟨u, hu⟩ : ∃ u, u = decide ((12 : Int) < (rn1 : Int)) := ⟨_, rfl⟩; have HTT := hid ht; have HUU := hid hu; have d5 := ht.symm; have d6 := hu.symm; clear ht hu; have y2 : W1.cell? ⟨wr.heap.size, 2, none⟩ = some (.slice aa an ac) := (cell_row (j := 2) KW.out).trans rfl; have y3 : W1.cell? ⟨wr.heap.size, 3, none⟩ = some (.slice ra1 rn1 rc1) := (cell_row (j := 3) KW.out).trans rfl; by_cases hbig : t = true ∨ u = true
      · have HBG := hid hbig; clear hbig
        cases t <;> cases u
        · have h9 := HBG.out; simp at h9
        all_goals
          go_wp2_with fail; refine (tiles_any _).mono ?_; rintro r w9 ⟨rfl, hb9⟩; go_wp2_with fail; go_ret; exact ⟨rfl, HB2.out.trans (hb9.mono HB2.out.size)⟩
      · obtain ⟨rfl, rfl⟩ : t = false /\ u = false := by cases t <;> cases u <;> simp at hbig ⊢
        clear hbig; have h12a : ¬ (12 : Int) < (an : Int) := of_decide_eq_false d5; have h12r : ¬ (12 : Int) < (rn1 : Int) := of_decide_eq_false d6; have HXA := hid h12a; have HXR := hid h12r; clear h12a h12r; go_upto_region 13 with fail; clear y2 y3; have y0 : W1.cell? ⟨wr.heap.size, 0, none⟩ = some (.bool fg) := (cell_row (j := 0) KW.out).trans rfl; have y1 : W1.cell? ⟨wr.heap.size, 1, none⟩ = some (.int .i64 bl) := (cell_row (j := 1) KW.out).trans rfl; have y2 : W1.cell? ⟨wr.heap.size, 2, none⟩ = some (.slice aa an ac) := (cell_row (j := 2) KW.out).trans rfl; have y3 : W1.cell? ⟨wr.heap.size, 3, none⟩ = some (.slice ra1 rn1 rc1) := (cell_row (j := 3) KW.out).trans rfl; have y4 : W1.cell? ⟨wr.heap.size, 4, none⟩ = some (.int .i64 tt) := (cell_row (j := 4) KW.out).trans rfl; have y5 : W1.cell? ⟨wr.heap.size, 5, none⟩ = some (.int .i64 ag) := (cell_row (j := 5) KW.out).trans rfl; have y6 : W1.cell? ⟨wr.heap.size, 6, none⟩ = some (.int .i64 k0) := (cell_row (j := 6) KW.out).trans rfl; have y7 : W1.cell? ⟨wr.heap.size, 7, none⟩ = some (.int .i64 k1) := (cell_row (j := 7) KW.out).trans rfl; have y8 : W1.cell? ⟨wr.heap.size, 8, none⟩ = some (.int .i64 m0) := (cell_row (j := 8) KW.out).trans rfl; have y9 : W1.cell? ⟨wr.heap.size, 9, none⟩ = some (.int .i64 m1) := (cell_row (j := 9) KW.out).trans rfl; have HS2 := hid (HS.out.still HBW.out); go_wp2_with fail; refine (shaken_any w.heap.size g w.heap.size bb (2 * i) a1 d1' bv1 sv1 pv1 vv1 rv1 _ _ fg bl tt ag k0 k1 m0 m1 A R W1 HS2.out (by omega) (fun W9 hb => HOK.out.add.below (HB2.out.trans hb)) HOK.out.add0 (fun W9 hb => HOK.out.rem.still (HB2.out.trans hb)) HOK.out.rem0 (by have := HAN.out; have := HXA.out; omega) (by have := HRN.out; have := HXR.out; omega) HOK.out.wf HOK.out.bl2).mono ?_; rintro r w3 ⟨⟨g', a', d', bv', sv', pv', vv', rv', rfl, hs3, hc3, _⟩, hb3⟩; have HS3 := hid hs3; have HC3 := hid (hc3.trans HAC1.out); have HB3 := hid (HB2.out.trans hb3); obtain ⟨va, vc, hvv⟩ := OwnR.slice hs3.vs; obtain ⟨vn, hvn⟩ : ∃ z, z = ((versL a'.lg.first a'.pts.length).map iRow).length := ⟨_, rfl⟩; rw [<- hvn] at hvv; subst hvv; clear hvn; obtain ⟨ra, rc, hrv⟩ := hs3.ps.slice; obtain ⟨rn, hrn⟩ : ∃ z, z = a'.pts.length := ⟨_, rfl⟩; rw [<- hrn] at hrv; subst hrv; clear hrn; have hpos := hs3.pos; have hsm := hs3.small (by omega); have hfst := hsm.first; have hptl := hsm.pts; obtain ⟨m, hm⟩ : ∃ m, a'.pts.length = m + 1 := ⟨a'.lg.steps.length, hpos⟩; obtain ⟨P, hP⟩ : ∃ P, a'.pts[m]? = some P := ⟨_, List.getElem?_eq_getElem (by omega)⟩; have HPK := hid (hsm.ok P (List.mem_of_getElem? hP)); have HLA := hid (rlast_any w.heap.size cn a'.lg.first _ _ a'.pts P m w3 hs3.vs hs3.ps hm (by omega) hP); unfold rfRow at HLA; have HTI := hid (fun W (hb : Below w3.heap.size w3 W) => xtiles_yes w.heap.size g' w.heap.size a' bv' sv' pv' W (hs3.still hb).arc hsm hP (a'.lg.first + (m : Int)) rfl); have b0 : w3.cell? ⟨bb, 0, none⟩ = some (.int .i64 cn) := by rw [cell_row (j := 0) hs3.bx, <- HC3.out]; rfl
        have b1 : w3.cell? ⟨bb, 1, none⟩ = some (.slice va vn vc) := (cell_row (j := 1) hs3.bx).trans rfl; have b2 : w3.cell? ⟨bb, 2, none⟩ = some (.slice ra rn rc) := (cell_row (j := 2) hs3.bx).trans rfl; have HM := hid hm; have HCN := hid (show a'.c.toNat = cn by rw [HC3.out]; rfl); clear hs3 hc3 hb3 y0 y1 y2 y3 y4 y5 y6 y7 y8 y9 hpos hsm hP hm d5 d6; go_wp2_with fail; refine HLA.out.mono ?_; rintro r w4 ⟨⟨xl, rfl, hxl⟩, hb4⟩; have HXL := hid hxl; have HB4 := hid hb4; obtain ⟨vz, hvz⟩ : ∃ z, z = a'.lg.first + (m : Int) := ⟨_, rfl⟩; rw [<- hvz] at HTI ⊢; clear hvz hxl hb4 b0 b1 b2 HLA; go_wp2_with fail; refine (HTI.out w4 HB4.out).mono ?_; rintro r w5 ⟨⟨x, E, rfl, ht, hlay⟩, hb5⟩; rw [HCN.out] at hlay; have HT := hid ht; have HLY := hid hlay; have HB5 := hid (HB4.out.trans (hb5.mono HB4.out.size)); have HX5 := hid (OwnP.keep HXL.out hb5); clear ht hlay hb5 HTI; go_wp2_with fail; refine (layout_good xl P cn w5 (OwnP.ptsV HX5.out) HPK.out.good (by omega)).mono ?_; rintro r w6 ⟨⟨v6, E2, rfl, ht2, hlay2, hl1, hl2⟩, hb6⟩; have HT2 := hid ht2; have HLY2 := hid hlay2; have HT1 := hid (HT.out.still hb6); have HB6 := hid (HB5.out.trans (hb6.mono HB5.out.size)); clear ht2 hlay2 hl1 hl2 hb6 HT; go_wp2_with fail; refine (same_tiles x v6 E E2 w6 HT1.out HT2.out (HLY.out.unique HLY2.out) (by have := (HLY.out.lens HPK.out.len).2; omega) (fun t ht => by have := (HLY.out.lens HPK.out.len).1 t ht; omega)).mono ?_; rintro r w7 ⟨rfl, hb7⟩; have HB7 := hid (HB6.out.trans (hb7.mono HB6.out.size)); clear hb7; go_wp2_with fail; exact ⟨⟨i + 1, g', a', d', bv', sv', pv', _, _, by omega, by go_num, rfl, HS3.out.still HB7.out, HC3.out, HB3.out.trans (HB7.out.mono HB3.out.size)⟩, by simp [intOf]; omega⟩
    · have e3 : decide ((i : Int) < (n : Int)) = false := decide_eq_false (by omega); go_wp2_with fail; refine (tiles_any _).mono ?_; rintro r w9 ⟨rfl, hb9⟩; go_wp2_with fail; go_ret; exact ⟨rfl, HB.out.trans (hb9.mono HB.out.size)⟩
end Go.Proofs.YtcclpdfmmdonpaaGreat
