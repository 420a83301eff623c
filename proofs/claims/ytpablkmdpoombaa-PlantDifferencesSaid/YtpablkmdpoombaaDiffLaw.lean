/- PlantDifferences: what must be added to and removed from old points, and that this makes the new ones of them, for at most 40 points in each list; for others the law answers by itself. Every input, no condition. (Printed by wip/gen_difflaw.py.) -/
import Derived.Test.YtpablkmdpoombaaXDiff
import Derived.Test.YtpablkmdpoombaaMgB
import Derived.Test.YtpablkmdpoombaaPAwake
import Derived.Test.YtpablkmdpoombaaAidE
namespace Go.Proofs.Ytpablkmdpoombaa
open Go.ChangeShapes Go.WideShapes Go.ChangeAt Go.RowKit Go.Maps Go.Sort

theorem OwnI.intsV {W : World} {base : Nat} {v : Value} {zs : List Int} (h : OwnI W base v zs) : IntsV W v zs := by
  obtain ⟨a, cap, hv⟩ := OwnR.slice h
  rw [List.length_map] at hv
  refine ⟨a, cap, hv, ?_⟩
  by_cases h0 : zs = []
  · exact Or.inl h0
  · rcases h.2.2 with ⟨_, h1⟩ | ⟨g, cap', cur, h1, _, hc, _⟩
    · rw [List.length_map] at h1; exact absurd (List.length_eq_zero_iff.1 h1) h0
    · rw [hv] at h1
      injection h1 with h1 _ h3
      subst h1
      subst hv
      obtain ⟨_, h5, _, h6⟩ := OwnI.cells h
      exact Or.inr ⟨g, 0, rfl, h5, fun i z hi => by rw [Nat.zero_add]; exact h6 i z hi⟩
theorem DiffRes.len {O P : List Pt} {e : Int} {A : List Pt} {D : List Int} (h : DiffRes O P e A D) : A.length ≤ P.length ∧ D.length ≤ O.length := by
  by_cases h0 : e = 0
  · refine ⟨?_, ?_⟩
    · rw [(h.add h0).1.length_eq]; exact List.length_filter_le _ _
    · rw [(h.rem h0).1.length_eq]; unfold remL; rw [List.length_map]; exact List.length_filter_le _ _
  · rw [(h.none h0).1, (h.none h0).2]; simp

set_option maxRecDepth 100000 in
set_option maxHeartbeats 6400000 in
theorem differences_law (ov pv : Value) (O P : List Pt) (w : World) (hO : PtsV w ov O) (hO0 : NilV ov) (hP : PtsV w pv P) (hP0 : NilV pv) (hOl : O.length ≤ maxLen) (hPl : P.length ≤ maxLen) :
    Calls Try.prog 8 #[ov, pv] w fun r w' => r = .returned (.bool true) ∧ Below w.heap.size w w' := by
  have HO := hid hO
  have HP := hid hP
  obtain ⟨oa, oc, rfl, _⟩ := hO
  obtain ⟨pa, pc, rfl, _⟩ := hP
  obtain ⟨n, hn⟩ : ∃ n, n = O.length := ⟨_, rfl⟩
  obtain ⟨m, hm⟩ : ∃ m, m = P.length := ⟨_, rfl⟩
  have HNn := hid hn
  have HNm := hid hm
  rw [← hn] at HO hO0 hOl ⊢
  rw [← hm] at HP hP0 hPl ⊢
  have hn' : n ≤ 9223372036854775807 := by unfold maxLen at hOl; omega
  have hm' : m ≤ 9223372036854775807 := by unfold maxLen at hPl; omega
  clear hn hm hOl hPl
  by_cases h1 : 40 < n
  · have d1 : decide ((40 : Int) < (n : Int)) = true := decide_eq_true (by omega)
    go_enter Try.func8, Try.ntmps8
    go_wp2_with fail
    refine (pawake_any _).mono ?_
    rintro r w9 ⟨rfl, hb⟩
    go_wp2_with fail
    go_ret
    exact ⟨rfl, (Below.refl w.heap.size w).trans (hb.mono (Below.refl w.heap.size w).size)⟩
  have d1 : decide ((40 : Int) < (n : Int)) = false := decide_eq_false (by omega)
  by_cases h2 : 40 < m
  · have d2 : decide ((40 : Int) < (m : Int)) = true := decide_eq_true (by omega)
    go_enter Try.func8, Try.ntmps8
    go_wp2_with fail
    refine (pawake_any _).mono ?_
    rintro r w9 ⟨rfl, hb⟩
    go_wp2_with fail
    go_ret
    exact ⟨rfl, (Below.refl w.heap.size w).trans (hb.mono (Below.refl w.heap.size w).size)⟩
  have d2 : decide ((40 : Int) < (m : Int)) = false := decide_eq_false (by omega)
  have HCX := hid (xdiff_any _ _ O P w HO.out HP.out)
  have HCR := hid (fun W (hb : Below w.heap.size w W) => rdiff_any _ _ O P W (HO.out.still hb) hO0 (HP.out.still hb) hP0)
  go_enter Try.func8, Try.ntmps8
  go_wp2_with fail
  refine HCX.out.mono ?_
  rintro r w1 ⟨⟨av, dv, e, A, D, rfl, hA, hD, hres⟩, hb1⟩
  have HB1 := hid hb1
  have HA := hid hA
  have HD := hid hD
  have HR := hid hres
  clear hb1 hA hD hres HCX
  go_wp2_with fail
  refine (HCR.out _ HB1.out).mono ?_
  rintro r w2 ⟨⟨bv, gv, f, B, G, rfl, hB, hG, hres⟩, hb⟩
  obtain ⟨rfl, rfl, rfl⟩ := HR.out.same hres
  have HB2 := hid (HB1.out.trans (hb.mono HB1.out.size))
  have HA2 := hid (OwnR.grow' HA.out hb)
  have HD2 := hid (OwnR.grow' HD.out hb)
  have HBv := hid hB
  have HGv := hid hG
  clear hb hB hG hres HA HD HB1 HCR
  have hAl : A.length ≤ 40 := by have := HR.out.len.1; rw [← HNm.out] at this; omega
  have hDl : D.length ≤ 40 := by have := HR.out.len.2; rw [← HNn.out] at this; omega
  have HAP := hid (OwnP.ptsV HA2.out)
  have HBP := hid (OwnP.ptsV HBv.out)
  have HDI := hid (OwnI.intsV HD2.out)
  have HGI := hid (OwnI.intsV HGv.out)
  have HAN := hid (OwnR.nilV HA2.out)
  obtain ⟨aa, ac, hav, _⟩ := HAP.out
  subst hav
  obtain ⟨ba, bc, hbv, _⟩ := HBP.out
  subst hbv
  obtain ⟨da, dc, hdv, hdr⟩ := HDI.out
  subst hdv
  obtain ⟨ga, gc, hgv, hgr⟩ := HGI.out
  subst hgv
  have HDR := hid hdr
  have HGR := hid hgr
  have HSM := hid (same_pts _ _ A w2 HAP.out HBP.out (by omega))
  clear hdr hgr
  obtain ⟨a, ha⟩ : ∃ a, a = A.length := ⟨_, rfl⟩
  obtain ⟨d, hd⟩ : ∃ d, d = D.length := ⟨_, rfl⟩
  have HNa := hid ha
  have HNd := hid hd
  rw [← ha] at HSM HAP HBP hAl HAN
  rw [← hd] at HDI HGI hDl
  rw [← ha, ← hd]
  clear ha hd HA2 HBv HD2 HGv
  go_wp2_with fail
  refine HSM.out.mono ?_
  rintro r w3 ⟨rfl, hb⟩
  have HB3 := hid (HB2.out.trans (hb.mono HB2.out.size))
  have hb3 := hid hb
  clear hb HSM
  go_wp2_with fail
  have hz3 : w2.heap.size ≤ w3.heap.size := hb3.out.size
  go_loopw [55] (fun iv W => ∃ i : Nat, i ≤ d ∧ iv = .int .i64 (i : Int) ∧ Below w3.heap.size w3 W) (fun iv _ => d - (intOf iv).toNat)
  case atStart => exact ⟨0, by omega, rfl, Below.refl _ _⟩
  case round =>
    obtain ⟨i, hi, rfl, hB⟩ := hrel
    have HB4 := hid hB
    have hz4 := hB.size
    clear hB
    by_cases hlt : i < d
    · have d3 : decide ((i : Int) < (d : Int)) = true := decide_eq_true (by omega)
      obtain ⟨z, hz⟩ : ∃ z, D[i]? = some z := ⟨_, List.getElem?_eq_getElem (by rw [← HNd.out]; exact hlt)⟩
      obtain ⟨b1, o1, rfl, hb1, hr1⟩ := HDR.out.resolve_left (fun h => by rw [h] at hz; simp at hz)
      obtain ⟨b2, o2, rfl, hb2, hr2⟩ := HGR.out.resolve_left (fun h => by rw [h] at hz; simp at hz)
      have x1 : wr.cell? ⟨b1, o1 + i, none⟩ = some (.int .i64 z) := by rw [HB4.out.cell (Nat.lt_of_lt_of_le hb1 hz3), hb3.out.cell hb1]; exact hr1 i z hz
      have x2 : wr.cell? ⟨b2, o2 + i, none⟩ = some (.int .i64 z) := by rw [HB4.out.cell (Nat.lt_of_lt_of_le hb2 hz3), hb3.out.cell hb2]; exact hr2 i z hz
      clear hz hr1 hr2
      have y1 := fun d os => cell_regrown x1 d os
      have y2 := fun d os => cell_regrown x2 d os
      clear x1 x2
      go_wp2_with fail
      refine wp_region_quiet_below (by kernel_rfl) (by kernel_rfl) ?_
      repeat (first | go_big_quiet_step (fail) | quiet_step (fail))
      refine wpQuiet_nil ?_
      intro _ hw'
      obtain ⟨⟨dqV, osV⟩, hw2⟩ := hw'
      subst hw2
      have HQV := hid (below_regrown wr dqV osV)
      generalize Sort.grow (redrawn wr dqV) osV = V at HQV ⊢
      have hsV := HQV.out.size
      have HB5 := hid (HB4.out.trans (HQV.out.mono hz4))
      clear y1 y2
      go_wp2_with fail
      exact ⟨⟨i + 1, by omega, by go_num, HB5.out⟩, by simp [intOf]; omega⟩
    · obtain rfl : i = d := by omega
      have d3 : decide ((i : Int) < (i : Int)) = false := by simp
      have HBW := hid (HB3.out.trans (HB4.out.mono HB3.out.size))
      by_cases he : e = 0
      · subst he
        have HMG := hid (diff_merge HR.out)
        have HVP := hid (validL_facts (HR.out.ok rfl).2)
        have hb23 : Below w2.heap.size w2 wr := hb3.out.trans (HB4.out.mono hz3)
        have HRM := hid (rmerge_any (.slice oa n oc) (.slice aa a ac) (.slice da i dc) O A D wr (HO.out.still HBW.out) (HAP.out.still hb23) HAN.out (HDI.out.still hb23) (by rw [← HNn.out]; omega) (by rw [← HNa.out]; omega) (by rw [← HNd.out]; unfold maxLen; omega))
        clear hb23
        go_wp2_with fail
        refine HRM.out.mono ?_
        rintro r w5 ⟨⟨lv, e', L, rfl, hL, hmr⟩, hb⟩
        have he' : e' = 0 := hmr.err.trans HMG.out.1
        subst he'
        have HLP := hid ((hmr.perm rfl).trans HMG.out.2)
        have HLA := hid ((hmr.asc rfl).imp (S := fun p q : Pt => ¬ q.id < p.id) (fun {_ _} h => by omega))
        have HB5 := hid (HBW.out.trans (hb.mono HBW.out.size))
        have HLV := hid (OwnP.ptsV hL)
        obtain ⟨la, lc, hlv⟩ := OwnP.slice hL
        subst hlv
        clear hb hL hmr HRM
        go_wp2_with fail
        refine (rsorted_any _ P w5 (HP.out.still HB5.out) hP0 (by rw [← HNm.out]; omega)).mono ?_
        rintro r w6 ⟨⟨sv, rfl, S, hS, hSp, hSs⟩, hb⟩
        have hSs2 := hSs.imp (S := fun p q : Pt => ¬ q.id < p.id) (fun {_ _} h => by omega)
        obtain rfl : S = L := asc_same (asc_strict hSp HVP.out.2.2 hSs2) (asc_strict HLP.out HVP.out.2.2 (HLA.out.imp (fun {_ _} h => by omega))) (fun p => (hSp.trans HLP.out.symm).mem_iff)
        have HS1 := hid (same_pts _ _ S w6 (HLV.out.still hb) (OwnP.ptsV hS) (by rw [HLP.out.length_eq, ← HNm.out]; omega))
        have HB6 := hid (HB5.out.trans (hb.mono HB5.out.size))
        obtain ⟨sa, sc, hsv⟩ := OwnP.slice hS
        subst hsv
        clear hb hS hSp hSs hSs2 HLV
        go_wp2_with fail
        refine HS1.out.mono ?_
        rintro r w7 ⟨rfl, hb⟩
        have HB7 := hid (HB6.out.trans (hb.mono HB6.out.size))
        clear hb HS1
        go_wp2_with fail
        refine (pawake_any _).mono ?_
        rintro r w9 ⟨rfl, hb⟩
        go_wp2_with fail
        go_ret
        exact ⟨rfl, HB7.out.trans (hb.mono HB7.out.size)⟩
      · have e1 : decide (e = 0) = false := decide_eq_false he
        have e2 : (e == 0) = false := by simpa using he
        have e3 : (e != 0) = true := by simpa using he
        go_wp2_with fail
        refine (pawake_any _).mono ?_
        rintro r w9 ⟨rfl, hb⟩
        go_wp2_with fail
        go_ret
        exact ⟨rfl, HBW.out.trans (hb.mono HBW.out.size)⟩
set_option maxRecDepth 100000 in
theorem plantDifferences_lifted (os : Os) (started : os.Started) (H : Type) (enc : TypeId × Value → H) :
    ReturnsInHanded {} Try.checked os 8 .any (Rows.plantDifferencesSpec.pre6 enc Try.prog Try.f8 Rows.plantDifferencesRow.domain false) (Rows.plantDifferencesSpec.post enc Try.prog Try.f8 false true false false) := by
  refine law_lifted (C := Try.checked) (tb := 4) lawOwn started (by kernel_rfl) Try.func8 rfl ?_ (show Try.f8.resultTypes = #[4] by kernel_rfl) Try.underlying4 lawLaid ?_
    (ChangeSpec.witness6 (enc := enc) (C := Try.checked) false ⟨#[], #[.slice none 0 0, .slice none 0 0], []⟩ 8 (by kernel_rfl) (by kernel_rfl) (by kernel_rfl) (by kernel_rfl)) ?_
  · intro ds hds
    match ds, hds with
    | [d1, d2], _ => exact ⟨rfl, rfl, rfl⟩
  · rw [Try.params8]
    intro t ht
    simp at ht
    subst ht
    exact ⟨by kernel_rfl, of_decide_eq_true (by kernel_rfl)⟩
  · intro W base args ds p hval hA hlt hsz
    change DataW.TrodAll enc Try.prog W 0 (fun _ => true) true Try.f8.params.toList args.toList ds p at hA
    change ∀ (j : Nat) t v, Try.f8.params[j]? = some t → args[j]? = some v → Value.okWide Try.prog W .any base t v at hval
    rw [Try.params8] at hA hval
    obtain ⟨v0, vs0, d0, ds0, p0, q0, hargs, rfl, rfl, h0, r0⟩ := trodAll_cons hA
    obtain ⟨v1, vs1, d1, ds1, p1, q1, rfl, rfl, rfl, h1, r1⟩ := trodAll_cons r0
    obtain ⟨rfl, rfl, rfl⟩ := trodAll_nil r1
    obtain rfl : args = #[v0, v1] := by cases args; simp_all
    obtain ⟨O, hO, hO0, hOl⟩ := open_pts (hval 0 22 v0 rfl rfl) h0
    obtain ⟨P, hP, hP0, hPl⟩ := open_pts (hval 1 22 v1 rfl rfl) h1
    exact differences_law v0 v1 O P W hO hO0 hP hP0 hOl hPl
/-- PlantDifferences, whatever the input. -/
theorem plantDifferences_holds : Rows.PlantDifferencesSaid :=
  OpenClaim.holds_of_wide 8 Try.f8 rfl rfl rfl rfl rfl rfl rfl ⟨rfl, rfl, rfl, rfl, rfl⟩ rfl rfl rfl rfl rfl (by kernel_rfl) Try.func8 (by kernel_rfl)
    (of_decide_eq_true (by kernel_rfl)) (by unfold Func.isWrapper; rw [if_neg (of_decide_eq_false (by kernel_rfl))]; exact ⟨rfl, rfl⟩)
    (fun os started H enc _ => plantDifferences_lifted os started H enc)
#print axioms plantDifferences_holds
end Go.Proofs.Ytpablkmdpoombaa
