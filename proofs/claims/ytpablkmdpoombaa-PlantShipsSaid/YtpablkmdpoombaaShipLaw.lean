/- PlantShips: the bytes of a delivery are the document's, they are received as the points, and they are refused if one byte was changed, for at most 40 points; for more the law answers by itself. Every input, no condition. -/
import Derived.Test.YtpablkmdpoombaaRecLaw
namespace Go.Proofs.Ytpablkmdpoombaa
open Go.ChangeShapes Go.WideShapes Go.ChangeAt Go.RowKit Go.Maps Go.Sort

theorem ownB_row {W : World} {B : Nat} {v : Value} {xs : List Nat} (h : OwnB W B v xs) (hp : 0 < xs.length) : ∃ g cap, v = .slice (some ⟨g, 0, none⟩) xs.length cap ∧ W.frozen? ⟨g, 0, none⟩ = false ∧ ∀ i, W.frozen? ⟨g, i, none⟩ = false := by
  obtain ⟨h1, h2⟩ := h.1
  rcases h2 with ⟨_, h0⟩ | ⟨g0, cap, cur, hv, hB, hr, hn, hm, _⟩
  · omega
  · subst hv
    exact ⟨g0, cap, rfl, by simp [World.frozen?, hr], fun i => by simp [World.frozen?, hr]⟩
theorem bytes_set {W : World} {g m i value : Nat} {l : List Nat} (h : bytesAt W g 0 m (fun j => l.getD j 0)) (hm : l.length = m) :
    bytesAt (W.setCell ⟨g, i, none⟩ (.int .u8 (value : Nat))) g 0 m (fun j => (l.set i value).getD j 0) := by
  intro j hj
  have h0 := h j hj
  rw [Nat.zero_add] at h0 ⊢
  by_cases e : j = i
  · subst e
    rw [World.cell?_setCell_same W ⟨g, j, none⟩ (.int .u8 (value : Nat)) h0]
    show some (Value.int .u8 ((value : Nat) : Int)) = some (Value.int .u8 (((l.set j value).getD j 0 : Nat) : Int))
    rw [List.getD_eq_getElem?_getD, List.getElem?_set_self (by omega)]
    rfl
  · rw [World.cell?_setCell_other W ⟨g, i, none⟩ ⟨g, j, none⟩ (.int .u8 (value : Nat)) (show (⟨g, i, none⟩ : Addr) ≠ ⟨g, j, none⟩ from fun h => by injection h with _ h2; omega), h0]
    show some (Value.int .u8 ((l.getD j 0 : Nat) : Int)) = some (Value.int .u8 (((l.set i value).getD j 0 : Nat) : Int))
    rw [List.getD_eq_getElem?_getD, List.getD_eq_getElem?_getD, List.getElem?_set_ne (fun h => e h.symm)]
set_option maxRecDepth 100000 in
set_option maxHeartbeats 6400000 in
theorem ships_law (pv : Value) (S : List Pt) (z : Int) (value : Nat) (w : World) (hp : PtsV w pv S) (hp0 : NilV pv) (hS : S.length ≤ maxLen) (hq : value < 256) :
    Calls Try.prog 3 #[pv, .int .i64 z, .int .u8 (value : Nat)] w fun r w' => r = .returned (.bool true) ∧ Below w.heap.size w w' := by
  have HP := hid hp
  have HP0 := hid hp0
  obtain ⟨pa, pc, rfl, _⟩ := hp
  obtain ⟨n, hn⟩ : ∃ n, n = S.length := ⟨_, rfl⟩
  rw [← hn] at hS HP HP0 ⊢
  have HN := hid hn
  have HML := hid hS
  clear hn hp0 hS
  by_cases h40 : 40 < n
  · have d0 : decide ((40 : Int) < (n : Int)) = true := decide_eq_true (by omega)
    go_enter Try.func3, Try.ntmps3
    go_wp2_with fail
    refine (pawake_any _).mono ?_
    rintro r w4 ⟨rfl, hb4⟩
    go_wp2_with fail
    go_ret
    exact ⟨rfl, hb4⟩
  have d0 : decide ((40 : Int) < (n : Int)) = false := decide_eq_false (by omega)
  go_enter Try.func3, Try.ntmps3
  go_wp2_with fail
  refine (xShip_any _ S w HP.out (by rw [← HN.out]; exact HML.out)).mono ?_
  rintro r w2 ⟨hr2, hb2⟩
  have HB2 := hid hb2
  have HP2 := hid (HP.out.still hb2)
  have hz2 := hb2.size
  clear hb2
  rcases hr2 with ⟨hg, v7, L, rfl, hperm, hasc, ho7⟩ | ⟨hg, rfl⟩
  · have HO7 := hid ho7
    have HG := hid hg
    have HPERM := hid hperm
    have HASC := hid hasc
    obtain ⟨p7', n7, c7, rfl⟩ := ho7.shape
    clear ho7 hg hperm hasc
    go_wp2_with fail
    refine (rShip_any _ S w2 HP2.out HP0.out).mono ?_
    rintro r w3 ⟨hr3, hb3⟩
    rcases hr3 with ⟨_, v9, L2, rfl, hperm2, hasc2, ho9⟩ | ⟨hg, _⟩
    rotate_left
    · rw [HG.out] at hg; exact Bool.noConfusion hg
    obtain rfl : L2 = L := asc_unique hasc2 HASC.out (hperm2.trans HPERM.out.symm)
    clear hperm2 hasc2
    have HP3 := hid (HP2.out.still hb3)
    have HB3 := hid (HB2.out.trans (hb3.mono hz2))
    have hz3 := HB3.out.size
    have HO73 := hid (HO7.out.grow hb3)
    clear hb3
    have HGL := hid (goodL_perm HPERM.out.symm HG.out)
    have hE5 := encD_long L2
    have hEb := encD_byte L2
    have HOK := hid (fun (n' : Nat) (h : (encD L2).length = n' + 4) => (okY_iff hEb h).2 ⟨HGL.out, HASC.out, rfl⟩)
    have HCH := hid (fun (c : List Nat) (hc : ∀ x ∈ c, x < 256) (n' : Nat) (hn : c.length = n' + 4) (hlen : c.length = (encD L2).length) (i : Nat) (hi : i < c.length) (hne : c.getD i 0 ≠ (encD L2).getD i 0) (hs : ∀ j, j ≠ i → c.getD j 0 = (encD L2).getD j 0) => show ¬ OkY c n' from fun h => sumOk_changed (encDB_byte L2) hc hn hlen hne hi hs h.1)
    have hEl := encDB_len HGL.out HASC.out
    have hEe : (encD L2).length = (encDB L2).length + 4 := by simp [encD, bytes4]
    obtain ⟨g7, c7', he7, hc7, hm7, hby7, hg7, hgz7⟩ := ownB_at HO73.out (by omega)
    injection he7 with e1 e2 e3
    subst e1 e2 e3
    obtain ⟨g9, c9, rfl, hc9, hm9, hby9, hg9, hgz9⟩ := ownB_at ho9 (by omega)
    obtain ⟨g9', c9', he9, _, hfz⟩ := ownB_row ho9 (by omega)
    injection he9 with e1 e2 e3
    injection e1 with e1
    injection e1 with e1
    subst e1
    have HFZ := hid hfz
    clear hfz e2 e3 ho9
    have hs1 := str_at (cap := c7) hby7
    have hs2 := str_at (cap := c9) hby9
    have HBY9 := hid hby9
    have HEB := hid hEb
    have HPL := hid (show L2.length ≤ 1024 from ((goodL_iff L2).1 HGL.out).1)
    generalize encD L2 = ET at *
    generalize (encDB L2).length = n' at *
    generalize strL ET = SS at *
    obtain ⟨m, hm⟩ : ∃ m, m = ET.length := ⟨_, rfl⟩
    have HN' := hid hEe
    have HN6 := hid (show n' ≤ 800000 by omega)
    have HX := hid (xReceive_long g7 0 n' c7 ET w3 hgz7 hEb hEe (by omega) (by omega) hm7 hby7)
    have HOKK := hid (HOK.out n' hEe)
    rw [← hEe, ← hm] at HX
    rw [← hm] at hs1 hs2 hE5 hc7 hc9 hEe ⊢
    have HM := hid hm
    clear hm hEb hby7 HOK hEe hEl
    go_wp2_with fail
    refine HX.out.mono ?_
    rintro r w4 ⟨⟨_, hgot⟩ | ⟨hno, _⟩, hb4⟩
    rotate_left
    · exact absurd HOKK.out.1 hno
    rw [HOKK.out.2] at hgot
    obtain ⟨v4, rfl, hp4⟩ := hgot
    have HP4 := hid hp4
    obtain ⟨a4, c4, rfl, _⟩ := hp4
    have HPT4 := hid (HP3.out.still hb4)
    have HB4 := hid (HB3.out.trans (hb4.mono hz3))
    have HBY94 := hid (bytes_still HBY9.out hgz9 hb4)
    have HFZ4 := hid (show ∀ i, w4.frozen? ⟨g9, i, none⟩ = false from fun i => by
      have h := HFZ.out i
      unfold World.frozen? at h ⊢
      rw [hb4.block g9 hgz9]
      exact h)
    have hz4 := HB4.out.size
    have hgz94 : g9 < w4.heap.size := Nat.lt_of_lt_of_le hgz9 hb4.size
    have hz34 := hb4.size
    clear hb4 HX HOKK HFZ HBY9 HP3 HO73 HO7 HP2
    go_wp2_with fail
    have HST := hid (rsorted_any _ S w4 HPT4.out HP0.out (by rw [← HN.out]; omega))
    refine HST.out.mono ?_
    rintro r w41 ⟨⟨v41, rfl, L3, ho41, hperm3, hpw3⟩, hb41⟩
    obtain rfl : L3 = L2 := asc_unique (asc_sorted HG.out hperm3 hpw3) HASC.out (hperm3.trans HPERM.out.symm)
    have HSM := hid (same_pts _ _ L3 w41 (HP4.out.still hb41) (OwnP.ptsV ho41) (by have := HPL.out; omega))
    have HB41 := hid hb41
    have hz41 := hb41.size
    obtain ⟨a41, c41, rfl⟩ := ho41.slice
    clear ho41 hperm3 hpw3 hb41
    go_wp2_with fail
    refine HSM.out.mono ?_
    rintro r w5 ⟨rfl, hb5⟩
    have HB45 := hid (HB41.out.trans (hb5.mono hz41))
    have HB5 := hid (HB4.out.trans (HB45.out.mono hz4))
    have HBY95 := hid (bytes_still HBY94.out hgz94 HB45.out)
    have HFZ5 := hid (show ∀ i, w5.frozen? ⟨g9, i, none⟩ = false from fun i => by
      have h := HFZ4.out i
      unfold World.frozen? at h ⊢
      rw [HB45.out.block g9 hgz94]
      exact h)
    have hz45 := HB45.out.size
    clear hb5 HST HSM HBY94 HFZ4 HPT4
    go_upto_region 13 with fail
    obtain ⟨i, hi, him⟩ : ∃ i : Nat, wrap64 ((IntKind.u64.wrap z).tmod (m : Int)) = (i : Int) ∧ i < m := by
      have h0 := wrap_u64_nonneg z
      have h1 := Int.tmod_nonneg (m : Int) h0
      have h2 := Int.tmod_lt_of_pos (IntKind.u64.wrap z) (show (0 : Int) < (m : Int) by omega)
      refine ⟨((IntKind.u64.wrap z).tmod (m : Int)).toNat, ?_, by omega⟩
      generalize (IntKind.u64.wrap z).tmod (m : Int) = t at *
      unfold wrap64
      omega
    rw [hi]
    clear hi
    obtain ⟨x, hx⟩ : ∃ x, x = ET.getD i 0 := ⟨_, rfl⟩
    have hxb : x < 256 := by rw [hx]; exact getD_byte HEB.out i
    have c0 : w5.cell? ⟨g9, i, none⟩ = some (.int .u8 (x : Nat)) := by
      have h := HBY95.out i (by rw [← HM.out]; exact him)
      rw [Nat.zero_add] at h
      rw [hx]
      exact h
    have HX := hid hx
    clear hx
    by_cases hxv : x = value
    · have d1 : ((x : Int) == (value : Int)) = true := by simp [hxv]
      clear hxv
      go_wp2_with fail
      refine (pawake_any _).mono ?_
      rintro r w8 ⟨rfl, hb8⟩
      go_wp2_with fail
      go_ret
      exact ⟨rfl, HB5.out.trans (hb8.mono HB5.out.size)⟩
    · have d1 : ((x : Int) == (value : Int)) = false := by
        refine beq_false_of_ne fun h => hxv (by omega)
      have f0 := HFZ5.out i
      have HXV := hid hxv
      clear hxv
      have hCb : ∀ y ∈ ET.set i value, y < 256 := fun y hy => by
        rcases List.mem_or_eq_of_mem_set hy with h | h
        · exact HEB.out y h
        · omega
      have hCl : (ET.set i value).length = ET.length := List.length_set
      have HXC := hid (xReceive_long g9 0 n' c9 (ET.set i value) (w5.setCell ⟨g9, i, none⟩ (.int .u8 (value : Nat))) (by simp; omega) hCb (by rw [hCl]; exact HN'.out) (by have := HN6.out; omega) (by have := HN'.out; have := HM.out; omega) hm9 (by rw [hCl]; exact bytes_set HBY95.out rfl))
      rw [← HN'.out, ← HM.out] at HXC
      have hic : i < ET.length := by rw [← HM.out]; exact him
      have HNOK := hid (HCH.out (ET.set i value) hCb n' (by rw [hCl]; exact HN'.out) hCl i (by rw [hCl]; exact hic) (by
        rw [List.getD_eq_getElem?_getD, List.getElem?_set_self hic, ← HX.out]
        exact fun h => HXV.out h.symm) (fun j hj => by
        rw [List.getD_eq_getElem?_getD, List.getD_eq_getElem?_getD, List.getElem?_set_ne (fun h => hj h.symm)]))
      clear hCb hCl hic HCH
      generalize ET.set i value = C at *
      go_wp2_with fail
      refine HXC.out.mono ?_
      rintro r w7 ⟨⟨hok, _⟩ | ⟨_, rfl⟩, hb7⟩
      · exact absurd hok HNOK.out
      unfold refusedD
      have HB7 := hid ((HB5.out.setCell (p := ⟨g9, i, none⟩) (by show w.heap.size ≤ g9; omega) (.int .u8 (value : Nat))).trans (hb7.mono (by simp; omega)))
      have hz7 := HB7.out.size
      clear hb7
      go_wp2_with fail
      refine (pawake_any _).mono ?_
      rintro r w8 ⟨rfl, hb8⟩
      go_wp2_with fail
      go_ret
      exact ⟨rfl, HB7.out.trans (hb8.mono hz7)⟩
  · have HNG := hid hg
    clear hg
    go_wp2_with fail
    refine (rShip_any _ S w2 HP2.out HP0.out).mono ?_
    rintro r w3 ⟨hr3, hb3⟩
    rcases hr3 with ⟨hg, _⟩ | ⟨_, rfl⟩
    · rw [HNG.out] at hg; exact Bool.noConfusion hg
    have HB3 := hid (HB2.out.trans (hb3.mono hz2))
    have hz3 := HB3.out.size
    clear hb3
    have hs1 := str_none (W := w3) (n := 0) (c := 0)
    generalize strL [] = SS at *
    go_wp2_with fail
    refine (pawake_any _).mono ?_
    rintro r w4 ⟨rfl, hb4⟩
    go_wp2_with fail
    go_ret
    exact ⟨rfl, HB3.out.trans (hb4.mono hz3)⟩
set_option maxRecDepth 100000 in
theorem plantShips_lifted (os : Os) (started : os.Started) (H : Type) (enc : TypeId × Value → H) :
    ReturnsInHanded {} Try.checked os 3 .any (Rows.plantShipsSpec.pre6 enc Try.prog Try.f3 Rows.plantShipsRow.domain false) (Rows.plantShipsSpec.post enc Try.prog Try.f3 false true false false) := by
  refine law_lifted (C := Try.checked) (tb := 4) lawOwn started (by kernel_rfl) Try.func3 rfl ?_ (show Try.f3.resultTypes = #[4] by kernel_rfl) Try.underlying4 lawLaid ?_
    (ChangeSpec.witness6 (enc := enc) (C := Try.checked) false ⟨#[], #[.slice none 0 0, .int .i64 0, .int .u8 0], []⟩ 8 (by kernel_rfl) (by kernel_rfl) (by kernel_rfl) (by kernel_rfl)) ?_
  · intro ds hds
    match ds, hds with
    | [d1, d2, d3], _ => exact ⟨rfl, rfl, rfl⟩
  · rw [Try.params3]
    intro t ht
    simp at ht
    rcases ht with rfl | rfl | rfl
    all_goals exact ⟨by kernel_rfl, of_decide_eq_true (by kernel_rfl)⟩
  · intro W base args ds p hval hA hlt _
    change DataW.TrodAll enc Try.prog W 0 (fun _ => true) true Try.f3.params.toList args.toList ds p at hA
    change ∀ (j : Nat) t v, Try.f3.params[j]? = some t → args[j]? = some v → Value.okWide Try.prog W .any base t v at hval
    rw [Try.params3] at hA hval
    obtain ⟨v0, vs0, d0, ds0, p0, q0, hargs, rfl, rfl, h0, r0⟩ := trodAll_cons hA
    obtain ⟨v1, vs1, d1, ds1, p1, q1, rfl, rfl, rfl, h1, r1⟩ := trodAll_cons r0
    obtain ⟨v2, vs2, d2, ds2, p2, q2, rfl, rfl, rfl, h2, r2⟩ := trodAll_cons r1
    obtain ⟨rfl, rfl, rfl⟩ := trodAll_nil r2
    obtain rfl : args = #[v0, v1, v2] := by cases args; simp_all
    obtain ⟨S, hp, hp0, hl⟩ := open_pts (hval 0 22 v0 rfl rfl) h0
    obtain ⟨z, rfl, _, _⟩ := open_int Try.underlying3 (hval 1 3 v1 rfl rfl) h1
    obtain ⟨n, rfl, _, _, hw⟩ := open_int Try.underlying5 (hval 2 5 v2 rfl rfl) h2
    have hn := wf_u8 hw
    obtain ⟨q, rfl⟩ : ∃ q : Nat, n = (q : Int) := ⟨n.toNat, by omega⟩
    exact ships_law v0 S z q W hp hp0 hl (by omega)
/-- PlantShips, whatever the input. -/
theorem plantShips_holds : Rows.PlantShipsSaid :=
  OpenClaim.holds_of_wide 3 Try.f3 rfl rfl rfl rfl rfl rfl rfl ⟨rfl, rfl, rfl, rfl, rfl⟩ rfl rfl rfl rfl rfl (by kernel_rfl) Try.func3 (by kernel_rfl)
    (of_decide_eq_true (by kernel_rfl)) (by unfold Func.isWrapper; rw [if_neg (of_decide_eq_false (by kernel_rfl))]; exact ⟨rfl, rfl⟩)
    (fun os started H enc _ => plantShips_lifted os started H enc)
#print axioms plantShips_holds
end Go.Proofs.Ytpablkmdpoombaa
