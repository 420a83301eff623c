/- Update (program): the layout behind the update, and the keys of the tiles that changed. -/
import Derived.Test.YteanlcefdoigcaaAppX
import Derived.Test.YteanlcefdoigcaaChgX
namespace Go.Proofs.Yteanlcefdoigcaa
open Go.ChangeShapes Go.WideShapes Go.RowKit Go.Maps Go.Sort

def updErr (P A : List Pt) (R : List Int) (c : Int) : Int := if goodL P = true ∧ goodL A = true then (if 1 ≤ c ∧ c ≤ 64 then mergeErr P A R else 2) else 70
structure UpdRes (P A : List Pt) (R : List Int) (c e : Int) (E : List Te) (K : List Ky) : Prop where
  err : e = updErr P A R c
  none : e ≠ 0 → E = [] ∧ K = []
  some : e = 0 → ∃ F : List Tl, IsLayout (A ++ keepL P R) c.toNat (E.map Te.tl) ∧ IsLayout P c.toNat F ∧ IsChg F (E.map Te.tl) K
  len : E.length ≤ 1024
  pts : ∀ t ∈ E, t.pts.length ≤ 1024
section
variable {P A : List Pt} {R : List Int} {c : Int}
theorem UpdRes.same {e e' : Int} {E E' : List Te} {K K' : List Ky} (h : UpdRes P A R c e E K) (h' : UpdRes P A R c e' E' K') : e = e' ∧ E.map Te.tl = E'.map Te.tl ∧ K = K' := by
  obtain rfl : e = e' := h.err.trans h'.err.symm
  refine ⟨rfl, ?_⟩
  by_cases h0 : e = 0
  · obtain ⟨F, f1, f2, f3⟩ := h.some h0
    obtain ⟨G, g1, g2, g3⟩ := h'.some h0
    have e1 := f1.unique g1
    have e2 := f2.unique g2
    rw [e1, e2] at f3
    exact ⟨e1, f3.unique g3⟩
  · rw [(h.none h0).1, (h.none h0).2, (h'.none h0).1, (h'.none h0).2]
    exact ⟨rfl, rfl⟩
theorem UpdRes.bad {e : Int} (h : updErr P A R c = e) (h0 : e ≠ 0) : UpdRes P A R c e [] [] := ⟨h.symm, fun _ => ⟨rfl, rfl⟩, fun g => absurd g h0, by simp, fun t ht => by simp at ht⟩
theorem updErr_pt (h : ¬ (goodL P = true ∧ goodL A = true)) : updErr P A R c = 70 := by unfold updErr; rw [if_neg h]
theorem updErr_arg (h : goodL P = true) (h2 : goodL A = true) (h3 : ¬ (1 ≤ c ∧ c ≤ 64)) : updErr P A R c = 2 := by unfold updErr; rw [if_pos ⟨h, h2⟩, if_neg h3]
theorem updErr_go (h : goodL P = true) (h2 : goodL A = true) (h3 : 1 ≤ c ∧ c ≤ 64) : updErr P A R c = mergeErr P A R := by unfold updErr; rw [if_pos ⟨h, h2⟩, if_pos h3]
end
theorem upd_good {P A : List Pt} {R : List Int} {c : Nat} {L : List Pt} {E F : List Te} {K : List Ky} (hP : goodL P = true) (hA : goodL A = true) (hc : 1 ≤ c ∧ c ≤ 64) (hL : MergeRes P A R 0 L) (hE : IsLayout L c (E.map Te.tl)) (hF : IsLayout P c (F.map Te.tl)) (hK : IsChg (F.map Te.tl) (E.map Te.tl) K) : UpdRes P A R (c : Int) 0 E K := by
  have hg := hL.good hP hA rfl
  have hl := hE.lens (goodL_facts hg).2.2
  refine ⟨(updErr_go hP hA (by omega)).trans hL.err.symm |>.symm, fun h => absurd rfl h, fun _ => ⟨_, ?_, ?_, hK⟩, hl.2, hl.1⟩
  · rw [Int.toNat_natCast]; exact hE.perm (hL.perm rfl)
  · rw [Int.toNat_natCast]; exact hF
set_option maxRecDepth 100000 in
set_option maxHeartbeats 1600000 in
theorem xupdate_any (pv av rv : Value) (P A : List Pt) (R : List Int) (c : Int) (w : World) (hp : PtsV w pv P) (ha : PtsV w av A) (hr : IntsV w rv R) (hPl : P.length ≤ maxLen) (hAl : A.length ≤ maxLen) (hRl : R.length ≤ maxLen) (hRw : ∀ z ∈ R, (Lit.int .i64 z).wf = true) :
    Calls Try.prog 31 #[pv, av, rv, .int .i64 c] w fun r w' => (∃ v k e E K, r = .returned (.tuple #[v, k, .int .i64 e]) ∧ TilesV w' v E ∧ KeysV w' k K ∧ K.length ≤ maxLen ∧ UpdRes P A R c e E K ∧ (e ≠ 0 → v = .slice none 0 0 ∧ k = .slice none 0 0)) ∧ Below w.heap.size w w' := by
  have HPV := hid hp
  have HAV := hid ha
  have HRV := hid hr
  have HPL := hid hPl
  have HAL := hid hAl
  have HRL := hid hRl
  have HRW := hid hRw
  clear hp ha hr hPl hAl hRl hRw
  go_enter Try.func31, Try.ntmps31
  go_wp2_with fail
  refine (good_list pv P w HPV.out HPL.out).mono ?_
  rintro r w1 ⟨rfl, hb1⟩
  have HB1 := hid hb1
  have HPV1 := hid (HPV.out.still hb1)
  have HAV1 := hid (HAV.out.still hb1)
  have HRV1 := hid (HRV.out.still hb1)
  clear hb1
  cases hgp : goodL P
  · have HR := hid (UpdRes.bad (A := A) (R := R) (c := c) (updErr_pt (fun h => by rw [hgp] at h; exact absurd h.1 (by simp))) (by decide))
    clear hgp
    go_wp2_with fail
    go_ret3
    exact ⟨⟨_, _, _, [], [], rfl, tilesV_nil _ _ _, KeysV.nil _, by simp, HR.out, fun _ => ⟨rfl, rfl⟩⟩, HB1.out⟩
  have HGP := hid hgp
  clear hgp
  go_wp2_with fail
  refine (good_list av A w1 HAV1.out HAL.out).mono ?_
  rintro r w2 ⟨rfl, hb2⟩
  have HB2 := hid (HB1.out.trans (hb2.mono HB1.out.size))
  have HPV2 := hid (HPV1.out.still hb2)
  have HAV2 := hid (HAV1.out.still hb2)
  have HRV2 := hid (HRV1.out.still hb2)
  clear hb2
  cases hga : goodL A
  · have HR := hid (UpdRes.bad (P := P) (R := R) (c := c) (updErr_pt (fun h => by rw [hga] at h; exact absurd h.2 (by simp))) (by decide))
    clear hga
    go_wp2_with fail
    go_ret3
    exact ⟨⟨_, _, _, [], [], rfl, tilesV_nil _ _ _, KeysV.nil _, by simp, HR.out, fun _ => ⟨rfl, rfl⟩⟩, HB2.out⟩
  have HGA := hid hga
  clear hga
  by_cases hc1 : c < 1
  · have d3 : decide (c < 1) = true := decide_eq_true hc1
    have HR := hid (UpdRes.bad (R := R) (updErr_arg (c := c) HGP.out HGA.out (by omega)) (by decide))
    go_wp2_with fail
    go_ret3
    exact ⟨⟨_, _, _, [], [], rfl, tilesV_nil _ _ _, KeysV.nil _, by simp, HR.out, fun _ => ⟨rfl, rfl⟩⟩, HB2.out⟩
  have d3 : decide (c < 1) = false := decide_eq_false hc1
  by_cases hc2 : 64 < c
  · have d4 : decide (64 < c) = true := decide_eq_true hc2
    have HR := hid (UpdRes.bad (R := R) (updErr_arg (c := c) HGP.out HGA.out (by omega)) (by decide))
    go_wp2_with fail
    go_ret3
    exact ⟨⟨_, _, _, [], [], rfl, tilesV_nil _ _ _, KeysV.nil _, by simp, HR.out, fun _ => ⟨rfl, rfl⟩⟩, HB2.out⟩
  have d4 : decide (64 < c) = false := decide_eq_false hc2
  obtain ⟨c', rfl⟩ : ∃ c' : Nat, c = (c' : Int) := ⟨c.toNat, by omega⟩
  have HC := hid (show 1 ≤ c' ∧ c' ≤ 64 by omega)
  have HUE := hid (updErr_go (R := R) (c := (c' : Int)) HGP.out HGA.out (by omega))
  go_wp2_with fail
  refine (applied_any pv av rv P A R w2 HPV2.out HAV2.out HRV2.out HGP.out HGA.out HRL.out HRW.out).mono ?_
  rintro r w3 ⟨⟨lv, e, L, rfl, hl, hm⟩, hb3⟩
  have HB3 := hid (HB2.out.trans (hb3.mono HB2.out.size))
  have HPV3 := hid (HPV2.out.still hb3)
  have HLV := hid (OwnP.ptsV hl)
  have HMR := hid hm
  clear hb3 hl hm
  by_cases he : e = 0
  · subst he
    have HGL := hid (HMR.out.good HGP.out HGA.out rfl)
    obtain ⟨hS, hf, hln⟩ := goodL_facts HGL.out
    have HS := hid hS
    have HF := hid hf
    have HLN := hid (show L.length ≤ 4096 by omega)
    clear hS hf hln
    go_wp2_with fail
    refine (lay_pts lv L c' w3 HS.out HF.out HLN.out HLV.out).mono ?_
    rintro r w4 ⟨⟨tv, E, rfl, ht, hlay⟩, hb4⟩
    have HB4 := hid (HB3.out.trans (hb4.mono HB3.out.size))
    have HPV4 := hid (HPV3.out.still hb4)
    have HT := hid ht.tilesV
    have HCE := hid (OwnR.capV ht.1)
    have HE := hid hlay
    clear hb4 ht hlay HS HF HLN
    obtain ⟨hS, hf, hln⟩ := goodL_facts HGP.out
    have HS := hid hS
    have HF := hid hf
    have HLN := hid (show P.length ≤ 4096 by omega)
    clear hS hf hln
    go_wp2_with fail
    refine (lay_pts pv P c' w4 HS.out HF.out HLN.out HPV4.out).mono ?_
    rintro r w5 ⟨⟨ov, F, rfl, ht, hlay⟩, hb5⟩
    have HB5 := hid (HB4.out.trans (hb5.mono HB4.out.size))
    have HT5 := hid (TilesV.still HT.out hb5)
    have HO5 := hid ht.tilesV
    have HCF := hid (OwnR.capV ht.1)
    have HFL := hid hlay
    have HLE := hid (HE.out.lens (goodL_facts HGL.out).2.2)
    have HLF := hid (hlay.lens (goodL_facts HGP.out).2.2)
    have HOE := hid (IsLayout.ok HGL.out HE.out)
    have HOF := hid (IsLayout.ok HGP.out hlay)
    clear hb5 ht hlay HT
    go_wp2_with fail
    refine (changed_any ov tv F E w5 HO5.out HT5.out HCF.out HCE.out HOF.out.order HOE.out.order (fun u hu => (HOF.out.all u hu).small) (fun u hu => (HOE.out.all u hu).small) (by have := HLF.out.2; omega) (by have := HLE.out.2; omega) (fun u hu => by have := HLF.out.1 u hu; unfold maxLen; omega)).mono ?_
    rintro r w6 ⟨⟨kv, K, rfl, hk, hch⟩, hb6⟩
    have HB6 := hid (HB5.out.trans (hb6.mono HB5.out.size))
    have HT6 := hid (TilesV.still HT5.out hb6)
    have HK := hid (OwnK.keysV hk)
    have HKL := hid (show K.length ≤ maxLen by
      rcases hk.2.2 with ⟨_, h0⟩ | ⟨g, cap, cur, _, _, _, h3, h4, _⟩
      · rw [List.length_map] at h0; unfold maxLen; omega
      · rw [List.length_map] at h3; omega)
    have HR := hid (upd_good HGP.out HGA.out HC.out HMR.out HE.out HFL.out hch)
    clear hk hch hb6 HT5
    go_wp2_with fail
    go_ret3
    exact ⟨⟨_, _, _, E, K, rfl, HT6.out, HK.out, HKL.out, HR.out, fun h => absurd rfl h⟩, HB6.out⟩
  · have HR := hid (UpdRes.bad (HUE.out.trans HMR.out.err.symm) he)
    have d5 : (e == 0) = false := by simp; exact he
    go_wp2_with fail
    go_ret3
    exact ⟨⟨_, _, _, [], [], rfl, tilesV_nil _ _ _, KeysV.nil _, by simp, HR.out, fun _ => ⟨rfl, rfl⟩⟩, HB3.out⟩
end Go.Proofs.Yteanlcefdoigcaa
