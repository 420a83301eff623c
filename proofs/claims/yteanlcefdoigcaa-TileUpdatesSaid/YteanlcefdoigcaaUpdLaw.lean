/- TileUpdates: the layout and the changed tiles that Update returns are the document's, with the same error, for at most 50 points and 20 that are added and removed; for more the law answers by itself. Every input, no condition. -/
import Derived.Test.YteanlcefdoigcaaUpdX
import Derived.Test.YteanlcefdoigcaaRMrg
import Derived.Test.YteanlcefdoigcaaRChg
import Derived.Test.YteanlcefdoigcaaRLay
import Derived.Test.YteanlcefdoigcaaLawKit
namespace Go.Proofs.Yteanlcefdoigcaa
open Go.ChangeShapes Go.WideShapes Go.ChangeAt Go.RowKit Go.Maps Go.Sort

set_option maxRecDepth 100000 in
set_option maxHeartbeats 1600000 in
theorem rupdate_any (pv av rv : Value) (P A : List Pt) (R : List Int) (c : Int) (w : World) (hp : PtsV w pv P) (ha : PtsV w av A) (hp0 : NilV pv) (ha0 : NilV av) (hr : IntsV w rv R) (hRl : R.length ≤ maxLen) :
    Calls Try.prog 32 #[pv, av, rv, .int .i64 c] w fun r w' => (∃ v k e E K, r = .returned (.tuple #[v, k, .int .i64 e]) ∧ TilesV w' v E ∧ KeysV w' k K ∧ UpdRes P A R c e E K) ∧ Below w.heap.size w w' := by
  have HPV := hid hp
  have HAV := hid ha
  have HRV := hid hr
  have HRL := hid hRl
  clear hp ha hr hRl
  go_enter Try.func32, Try.ntmps32
  go_wp2_with fail
  refine (rvalid_list pv P w HPV.out).mono ?_
  rintro r w1 ⟨rfl, hb1⟩
  have HB1 := hid hb1
  have HPV1 := hid (HPV.out.still hb1)
  have HAV1 := hid (HAV.out.still hb1)
  have HRV1 := hid (HRV.out.still hb1)
  clear hb1
  cases hgp : goodL P
  · have HR := hid (UpdRes.bad (A := A) (R := R) (c := c) (updErr_pt (fun h => by rw [hgp] at h; exact absurd h.1 (by simp))) (by decide))
    clear hgp
    go_wp2_with fail
    go_ret3
    exact ⟨⟨_, _, _, [], [], rfl, tilesV_nil _ _ _, KeysV.nil _, HR.out⟩, HB1.out⟩
  have HGP := hid hgp
  clear hgp
  go_wp2_with fail
  refine (rvalid_list av A w1 HAV1.out).mono ?_
  rintro r w2 ⟨rfl, hb2⟩
  have HB2 := hid (HB1.out.trans (hb2.mono HB1.out.size))
  have HPV2 := hid (HPV1.out.still hb2)
  have HAV2 := hid (HAV1.out.still hb2)
  have HRV2 := hid (HRV1.out.still hb2)
  clear hb2
  cases hga : goodL A
  · have HR := hid (UpdRes.bad (P := P) (R := R) (c := c) (updErr_pt (fun h => by rw [hga] at h; exact absurd h.2 (by simp))) (by decide))
    clear hga
    go_wp2_with fail
    go_ret3
    exact ⟨⟨_, _, _, [], [], rfl, tilesV_nil _ _ _, KeysV.nil _, HR.out⟩, HB2.out⟩
  have HGA := hid hga
  clear hga
  go_wp2_with fail
  refine (from_any 1 c 64 w2).mono ?_
  rintro r w22 ⟨rfl, rfl⟩
  cases hcc : inB 1 64 c
  · have HR := hid (UpdRes.bad (R := R) (updErr_arg (c := c) HGP.out HGA.out (by simp [inB] at hcc; omega)) (by decide))
    clear hcc
    go_wp2_with fail
    go_ret3
    exact ⟨⟨_, _, _, [], [], rfl, tilesV_nil _ _ _, KeysV.nil _, HR.out⟩, HB2.out⟩
  have hc2 : 1 ≤ c ∧ c ≤ 64 := by unfold inB at hcc; simpa using hcc
  clear hcc
  obtain ⟨c', rfl⟩ : ∃ c' : Nat, c = (c' : Int) := ⟨c.toNat, by omega⟩
  have HC := hid (show 1 ≤ c' ∧ c' ≤ 64 by omega)
  have HUE := hid (updErr_go (R := R) (c := (c' : Int)) HGP.out HGA.out (by omega))
  clear hc2
  go_wp2_with fail
  refine (rmerge_any pv av rv P A R w2 HPV2.out HAV2.out ha0 HRV2.out (goodL_facts HGP.out).2.2 (goodL_facts HGA.out).2.2 HRL.out).mono ?_
  rintro r w3 ⟨⟨lv, e, L, rfl, hl, hm⟩, hb3⟩
  have HB3 := hid (HB2.out.trans (hb3.mono HB2.out.size))
  have HPV3 := hid (HPV2.out.still hb3)
  have HLV := hid (OwnP.ptsV hl)
  have HLN0 := hid (OwnR.nilV2 hl)
  have HMR := hid hm
  clear hb3 hl hm
  by_cases he : e = 0
  · subst he
    have HGL := hid (HMR.out.good HGP.out HGA.out rfl)
    obtain ⟨hS, hf, hln⟩ := goodL_facts HGL.out
    have HS := hid hS
    have HF := hid hf
    have HLN := hid (show L.length ≤ 4096 by omega)
    clear hS hf hln
    go_wp2_with fail
    refine (rlay_any lv L c' w3 HLV.out HLN0.out HS.out HF.out HLN.out).mono ?_
    rintro r w4 ⟨⟨tv, E, rfl, ht, hlay⟩, hb4⟩
    have HB4 := hid (HB3.out.trans (hb4.mono HB3.out.size))
    have HPV4 := hid (HPV3.out.still hb4)
    have HT := hid ht
    have HE := hid hlay
    clear hb4 ht hlay HS HF HLN
    obtain ⟨hS, hf, hln⟩ := goodL_facts HGP.out
    have HS := hid hS
    have HF := hid hf
    have HLN := hid (show P.length ≤ 4096 by omega)
    clear hS hf hln
    go_wp2_with fail
    refine (rlay_any pv P c' w4 HPV4.out hp0 HS.out HF.out HLN.out).mono ?_
    rintro r w5 ⟨⟨ov, F, rfl, ht, hlay⟩, hb5⟩
    have HB5 := hid (HB4.out.trans (hb5.mono HB4.out.size))
    have HT5 := hid (TilesV.still HT.out hb5)
    have HO5 := hid ht
    have HFL := hid hlay
    have HLE := hid (HE.out.lens (goodL_facts HGL.out).2.2)
    have HLF := hid (hlay.lens (goodL_facts HGP.out).2.2)
    have HOF := hid (IsLayout.ok HGP.out hlay)
    clear hb5 ht hlay HT
    go_wp2_with fail
    refine (rchanged_any ov tv F E w5 HO5.out HT5.out HOF.out.order (by have := HLF.out.2; omega) (by have := HLE.out.2; omega) (fun u hu => by have := HLF.out.1 u hu; unfold maxLen; omega) (fun u hu => by have := HLE.out.1 u hu; unfold maxLen; omega)).mono ?_
    rintro r w6 ⟨⟨kv, K, rfl, hk, hch⟩, hb6⟩
    have HB6 := hid (HB5.out.trans (hb6.mono HB5.out.size))
    have HT6 := hid (TilesV.still HT5.out hb6)
    have HK := hid (OwnK.keysV hk)
    have HR := hid (upd_good HGP.out HGA.out HC.out HMR.out HE.out HFL.out hch)
    clear hk hch hb6 HT5
    go_wp2_with fail
    go_ret3
    exact ⟨⟨_, _, _, E, K, rfl, HT6.out, HK.out, HR.out⟩, HB6.out⟩
  · have HR := hid (UpdRes.bad (HUE.out.trans HMR.out.err.symm) he)
    have d5 : (e == 0) = false := by simp; exact he
    go_wp2_with fail
    go_ret3
    exact ⟨⟨_, _, _, [], [], rfl, tilesV_nil _ _ _, KeysV.nil _, HR.out⟩, HB3.out⟩
theorem open_agg {P : Program} {w : World} {r : Reach} {b0 : Nat} {t : TypeId} {n : Nat} {v : Value} (hs : P.cellsOf t = n) (hagg : (match P.underlying t with | some (.struct _) => true | some (.array _ _) => true | _ => false) = true) (hv : Value.okWide P w r b0 t v) :
    ∃ cs : List Value, v = .agg cs.toArray ∧ cs.length = n := by
  obtain ⟨cs, rfl, hsz⟩ : ∃ cs, v = .agg cs ∧ cs.size = P.cellsOf t := by
    unfold Value.okWide at hv
    split at hv
    · obtain ⟨cs, rfl, h, _⟩ := hv; exact ⟨cs, rfl, h⟩
    · obtain ⟨cs, rfl, h, _⟩ := hv; exact ⟨cs, rfl, h⟩
    · rename_i h1 h2
      split at hagg
      · rename_i fs he; exact absurd he (h1 fs)
      · rename_i n e he; exact absurd he (h2 n e)
      · simp at hagg
  exact ⟨cs.toList, by simp, by simpa [hs] using hsz⟩
section
variable {H : Type} {enc : TypeId × Value → H} {w : World} {base : Nat} {spare : Nat → Bool} {held : Bool}
set_option maxRecDepth 100000 in
theorem ints_cell {fuel : Nat} {v : Value} {x : DataW H × List MemPlace} (hx : DataW.trod enc Try.prog w base spare held fuel 30 [v] = some x) : ∃ l : List Int, IntsV w v l ∧ l.length ≤ maxLen ∧ ∀ z ∈ l, (Lit.int .i64 z).wf = true := by
  obtain ⟨a, len, cap, rfl, hl, hn, hr⟩ := open_cell_rows Try.underlying30 lawFlat3 lawSize3 (by decide) hx
  by_cases h0 : len = 0
  · subst h0
    exact ⟨[], ⟨a, cap, rfl, Or.inl rfl⟩, by simp, fun z hz => by simp at hz⟩
  · obtain ⟨b, off, rfl, hb, hrows⟩ := hr (by omega)
    obtain ⟨S, h1, h2⟩ := rows_ints hrows
    subst h1
    exact ⟨S, ⟨_, cap, rfl, Or.inr ⟨b, off, rfl, hb, fun i z hi => (h2 i z hi).1⟩⟩, hl, fun z hz => by
      obtain ⟨i, hi, rfl⟩ := List.mem_iff_getElem.1 hz
      exact (h2 i _ (List.getElem?_eq_getElem hi)).2⟩
theorem cells61 : Try.prog.cellsOf 61 = 2 := by kernel_rfl
theorem cells22u : Try.prog.cellsOf 22 = 1 := by kernel_rfl
theorem cells30 : Try.prog.cellsOf 30 = 1 := by kernel_rfl
set_option maxRecDepth 100000 in
theorem open_edit {r : Reach} {b0 : Nat} {v : Value} {d : DataW H} {p : List MemPlace} (hv : Value.okWide Try.prog w r b0 61 v) (h : DataW.Trod enc Try.prog w base spare held 61 v d p) :
    ∃ (av rv : Value) (A : List Pt) (R : List Int), v = .agg #[av, rv] ∧ PtsV w av A ∧ NilV av ∧ A.length ≤ maxLen ∧ IntsV w rv R ∧ R.length ≤ maxLen ∧ ∀ z ∈ R, (Lit.int .i64 z).wf = true := by
  obtain ⟨cs, rfl, hsz⟩ := open_agg cells61 (by kernel_rfl) hv
  clear hv
  obtain ⟨fuel, hx⟩ := h
  match cs, hsz with
  | [c0, c1], _ =>
    obtain ⟨xs, m, _, _, _, hxl, hf⟩ := DataW.trod_struct Try.underlying61 hx
    have h0 := hf 0 _ rfl
    rw [List.getElem?_eq_getElem (by rw [hxl]; decide)] at h0
    have h1 := hf 1 _ rfl
    rw [List.getElem?_eq_getElem (by rw [hxl]; decide)] at h1
    obtain ⟨A, q1, q2, q3⟩ := pts_cell (v := c0) (by simpa [Value.cells, cells22u] using h0)
    obtain ⟨R, q4, q5, q6⟩ := ints_cell (v := c1) (by simpa [Value.cells, cells30] using h1)
    exact ⟨c0, c1, A, R, rfl, q1, q2, q3, q4, q5, q6⟩
end
set_option maxRecDepth 100000 in
set_option maxHeartbeats 1600000 in
theorem updates_law (pv av rv : Value) (P A : List Pt) (R : List Int) (c : Int) (w : World) (hp : PtsV w pv P) (hp0 : NilV pv) (ha : PtsV w av A) (ha0 : NilV av) (hr : IntsV w rv R) (hPl : P.length ≤ maxLen) (hAl : A.length ≤ maxLen) (hRl : R.length ≤ maxLen) (hRw : ∀ z ∈ R, (Lit.int .i64 z).wf = true) :
    Calls Try.prog 8 #[pv, .agg #[av, rv], .int .i64 c] w fun r w' => r = .returned (.bool true) ∧ Below w.heap.size w w' := by
  have HPV := hid hp
  have HAV := hid ha
  have HRV := hid hr
  have HP0 := hid hp0
  have HA0 := hid ha0
  have HPL := hid hPl
  have HAL := hid hAl
  have HRL := hid hRl
  have HRW := hid hRw
  obtain ⟨pa, pc, rfl, _⟩ := hp
  obtain ⟨aa, ac, rfl, _⟩ := ha
  obtain ⟨ra, rc, rfl, _⟩ := hr
  obtain ⟨n, hn⟩ : ∃ n, n = P.length := ⟨_, rfl⟩
  obtain ⟨m, hm⟩ : ∃ m, m = A.length := ⟨_, rfl⟩
  obtain ⟨q, hq⟩ : ∃ q, q = R.length := ⟨_, rfl⟩
  rw [← hn] at HPV HP0 ⊢
  rw [← hm] at HAV HA0 ⊢
  rw [← hq] at HRV ⊢
  clear hn hm hq hp0 ha0 hPl hAl hRl hRw
  go_enter Try.func8, Try.ntmps8
  go_upto_region 1 with fail
  refine gen_world (fun W1 hW1 => ?_)
  have HE1 := hid (show W1.heap[w.heap.size]? = some (.cells #[.slice aa m ac, .slice ra q rc] 61) by rw [hW1]; exact heap_alloc_at _ _ _ rfl)
  have HB1 := hid (show Below w.heap.size w W1 by rw [hW1]; exact (Below.refl _ _).alloc (Nat.le_refl _) _)
  clear hW1
  obtain ⟨g, hg⟩ : ∃ g, g = w.heap.size := ⟨_, rfl⟩
  rw [← hg] at HE1 ⊢
  clear hg
  have e0 : W1.cell? ⟨g, 0, none⟩ = some (.slice aa m ac) := (cell_row (j := 0) HE1.out).trans rfl
  have e1 : W1.cell? ⟨g, 1, none⟩ = some (.slice ra q rc) := (cell_row (j := 1) HE1.out).trans rfl
  by_cases h50 : 50 < n
  · have d1 : decide ((50 : Int) < (n : Int)) = true := decide_eq_true (by omega)
    go_wp2_with fail
    refine (awake_any _).mono ?_
    rintro r w9 ⟨rfl, hb⟩
    have HB9 := hid (show Below w.heap.size w w9 from HB1.out.trans (hb.mono HB1.out.size))
    clear hb
    go_wp2_with fail
    go_ret
    exact ⟨rfl, HB9.out⟩
  have d1 : decide ((50 : Int) < (n : Int)) = false := decide_eq_false (by omega)
  by_cases h20 : 20 < m
  · have d2 : decide ((20 : Int) < (m : Int)) = true := decide_eq_true (by omega)
    go_wp2_with fail
    refine (awake_any _).mono ?_
    rintro r w9 ⟨rfl, hb⟩
    have HB9 := hid (show Below w.heap.size w w9 from HB1.out.trans (hb.mono HB1.out.size))
    clear hb
    go_wp2_with fail
    go_ret
    exact ⟨rfl, HB9.out⟩
  have d2 : decide ((20 : Int) < (m : Int)) = false := decide_eq_false (by omega)
  by_cases h20b : 20 < q
  · have d3 : decide ((20 : Int) < (q : Int)) = true := decide_eq_true (by omega)
    go_wp2_with fail
    refine (awake_any _).mono ?_
    rintro r w9 ⟨rfl, hb⟩
    have HB9 := hid (show Below w.heap.size w w9 from HB1.out.trans (hb.mono HB1.out.size))
    clear hb
    go_wp2_with fail
    go_ret
    exact ⟨rfl, HB9.out⟩
  have d3 : decide ((20 : Int) < (q : Int)) = false := decide_eq_false (by omega)
  have HPV1 := hid (HPV.out.still HB1.out)
  have HAV1 := hid (HAV.out.still HB1.out)
  have HRV1 := hid (HRV.out.still HB1.out)
  go_wp2_with fail
  refine (xupdate_any _ _ _ P A R c W1 HPV1.out HAV1.out HRV1.out HPL.out HAL.out HRL.out HRW.out).mono ?_
  rintro r w2 ⟨⟨tv, kv, e, E, K, rfl, ht, hk, hkl, hu, _⟩, hb2⟩
  have HB2 := hid (HB1.out.trans (hb2.mono HB1.out.size))
  have HE2 := hid (heap_still hb2 HE1.out)
  have HPV2 := hid (HPV1.out.still hb2)
  have HAV2 := hid (HAV1.out.still hb2)
  have HRV2 := hid (HRV1.out.still hb2)
  have HT := hid ht
  have HK := hid hk
  have HKL := hid hkl
  have HU := hid hu
  clear hb2 ht hk hkl hu e0 e1
  have e0 : w2.cell? ⟨g, 0, none⟩ = some (.slice aa m ac) := (cell_row (j := 0) HE2.out).trans rfl
  have e1 : w2.cell? ⟨g, 1, none⟩ = some (.slice ra q rc) := (cell_row (j := 1) HE2.out).trans rfl
  go_wp2_with fail
  refine (rupdate_any _ _ _ P A R c w2 HPV2.out HAV2.out HP0.out HA0.out HRV2.out HRL.out).mono ?_
  rintro r w3 ⟨⟨tv', kv', e', E', K', rfl, ht, hk, hu⟩, hb3⟩
  have HB3 := hid (HB2.out.trans (hb3.mono HB2.out.size))
  have HT3 := hid (TilesV.still HT.out hb3)
  have HK3 := hid (HK.out.still hb3)
  have HTP3 := hid ht
  have HKP3 := hid hk
  have HS := hid (HU.out.same hu)
  obtain rfl : e = e' := HS.out.1
  obtain rfl : K = K' := HS.out.2.2
  clear hb3 ht hk hu e0 e1 HT HK
  go_wp2_with fail
  refine (same_tiles tv tv' E E' w3 HT3.out HTP3.out HS.out.2.1 (by have := HU.out.len; omega) (fun t ht => by have := HU.out.pts t ht; omega)).mono ?_
  rintro r w4 ⟨rfl, hb4⟩
  have HB4 := hid (HB3.out.trans (hb4.mono HB3.out.size))
  have HK4 := hid (HK3.out.still hb4)
  have HKP4 := hid (HKP3.out.still hb4)
  clear hb4 HK3 HKP3
  go_wp2_with fail
  refine (samekeys_any kv kv' K K w4 HK4.out HKP4.out HKL.out).mono ?_
  rintro r w5 ⟨rfl, hb5⟩
  rw [decide_eq_true (rfl : K = K)]
  have HB5 := hid (HB4.out.trans (hb5.mono HB4.out.size))
  clear hb5
  go_wp2_with fail
  refine (awake_any _).mono ?_
  rintro r w9 ⟨rfl, hb⟩
  have HB9 := hid (show Below w.heap.size w w9 from HB5.out.trans (hb.mono HB5.out.size))
  clear hb
  go_wp2_with fail
  go_ret
  exact ⟨rfl, HB9.out⟩
set_option maxRecDepth 100000 in
theorem tileUpdates_lifted (os : Os) (started : os.Started) (H : Type) (enc : TypeId × Value → H) :
    ReturnsInHanded {} Try.checked os 8 .any (Rows.tileUpdatesSpec.pre6 enc Try.prog Try.f8 Rows.tileUpdatesRow.domain false) (Rows.tileUpdatesSpec.post enc Try.prog Try.f8 false true false false) := by
  refine law_lifted (C := Try.checked) (tb := 4) lawOwn started (by kernel_rfl) Try.func8 rfl ?_ (show Try.f8.resultTypes = #[4] by kernel_rfl) Try.underlying4 lawLaid ?_
    (ChangeSpec.witness6 (enc := enc) (C := Try.checked) false ⟨#[], #[.slice none 0 0, .agg #[.slice none 0 0, .slice none 0 0], .int .i64 0], []⟩ 8 (by kernel_rfl) (by kernel_rfl) (by kernel_rfl) (by kernel_rfl)) ?_
  · intro ds hds
    match ds, hds with
    | [d1, d2, d3], _ => exact ⟨rfl, rfl, rfl⟩
  · rw [Try.params8]
    intro t ht
    simp at ht
    rcases ht with rfl | rfl | rfl
    all_goals exact ⟨by kernel_rfl, of_decide_eq_true (by kernel_rfl)⟩
  · intro W base args ds p hval hA hlt _
    change DataW.TrodAll enc Try.prog W 0 (fun _ => true) true Try.f8.params.toList args.toList ds p at hA
    change ∀ (j : Nat) t v, Try.f8.params[j]? = some t → args[j]? = some v → Value.okWide Try.prog W .any base t v at hval
    rw [Try.params8] at hA hval
    obtain ⟨v0, vs0, d0, ds0, p0, q0, hargs, rfl, rfl, h0, r0⟩ := trodAll_cons hA
    obtain ⟨v1, vs1, d1, ds1, p1, q1, rfl, rfl, rfl, h1, r1⟩ := trodAll_cons r0
    obtain ⟨v2, vs2, d2, ds2, p2, q2, rfl, rfl, rfl, h2, r2⟩ := trodAll_cons r1
    obtain ⟨rfl, rfl, rfl⟩ := trodAll_nil r2
    obtain rfl : args = #[v0, v1, v2] := by cases args; simp_all
    obtain ⟨S, hS, hS0, hSn⟩ := open_pts (hval 0 22 v0 rfl rfl) h0
    obtain ⟨av, rv, A, R, rfl, hA1, hA2, hA3, hR1, hR2, hR3⟩ := open_edit (hval 1 61 v1 rfl rfl) h1
    obtain ⟨n, rfl, _, _⟩ := open_int Try.underlying3 (hval 2 3 v2 rfl rfl) h2
    exact updates_law v0 av rv S A R n W hS hS0 hA1 hA2 hR1 hSn hA3 hR2 hR3
/-- TileUpdates, whatever the input. -/
theorem tileUpdates_holds : Rows.TileUpdatesSaid :=
  OpenClaim.holds_of_wide 8 Try.f8 rfl rfl rfl rfl rfl rfl rfl ⟨rfl, rfl, rfl, rfl, rfl⟩ rfl rfl rfl rfl rfl (by kernel_rfl) Try.func8 (by kernel_rfl)
    (of_decide_eq_true (by kernel_rfl)) (by unfold Func.isWrapper; rw [if_neg (of_decide_eq_false (by kernel_rfl))]; exact ⟨rfl, rfl⟩)
    (fun os started H enc _ => tileUpdates_lifted os started H enc)
#print axioms tileUpdates_holds
end Go.Proofs.Yteanlcefdoigcaa
