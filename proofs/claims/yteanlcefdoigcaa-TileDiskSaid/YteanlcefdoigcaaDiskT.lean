/- The reference's disk: Read 81, Append 69. (Printed by wip/gen_diskt.py.) -/
import Derived.Test.YteanlcefdoigcaaDiskS
namespace Go.Proofs.Yteanlcefdoigcaa
open Go.RowKit

set_option maxRecDepth 100000 in
set_option maxHeartbeats 800000 in
theorem rread_any (g B : Nat) (dn : Bool) (lf i : Int) (f0 f1 : Fl) (w : World) (h : DR w B g dn lf f0 f1) (hn0 : f0.b.length ≤ 1000000) (hn1 : f1.b.length ≤ 1000000) :
    Calls Try.prog 81 #[.pointer (some ⟨g, 0, none⟩), .int .i64 i] w fun r w' => (∃ v', r = .returned (.tuple #[v', .int .i64 (refV i dn)]) ∧ RdB w' v' (if refV i dn = 0 then (if i = 0 then f0.b else f1.b) else [])) ∧ Below w.heap.size w w' := by
  by_cases hr : refV i dn ≠ 0
  · have HC := hid (rready_ref g B dn lf i f0 f1 w false h hr)
    rw [if_neg hr]
    generalize refV i dn = e at *
    have d1 : (e != 0) = true := by simpa using hr
    clear h
    go_enter Try.func81, Try.ntmps81
    go_wp2_with fail
    refine HC.out.mono ?_
    rintro r w1 ⟨rfl, hb⟩
    go_wp2_with fail
    go_ret2
    exact ⟨⟨_, rfl, .inl ⟨rfl, rfl⟩⟩, hb⟩
  replace hr : refV i dn = 0 := by simpa using hr
  have HCR := hid (rready_no g B dn lf i f0 f1 w h hr)
  obtain ⟨rfl, hi⟩ := refV_range hr
  rw [if_pos hr, hr]
  have H := hid h
  clear h hr
  obtain ⟨i0, hi0, hz0, hz1, hz2⟩ := info_parts info5
  have HI := hid hi0
  have HZ0 := hid hz0
  have HZ1 := hid hz1
  have HZ2 := hid hz2
  clear hi0 hz0 hz1 hz2
  rcases hi with rfl | rfl
  · rw [if_pos rfl]
    obtain ⟨v, b, s⟩ := f0
    simp only at hn0 ⊢
    have HRD := hid (own_rdb H.out.o0)
    rcases HRD.out with ⟨e1, e2⟩ | ⟨ad, c, e1, hc⟩
    · obtain rfl : v = .slice none 0 0 := e1
      obtain rfl : b = [] := e2
      go_enter Try.func81, Try.ntmps81
      go_wp2_with fail
      refine HCR.out.mono ?_
      rintro r w1 ⟨rfl, hb⟩
      have c0 : ∀ o, (w1.alloc o).cell? ⟨g, 0, none⟩ = some (.slice none 0 0) := fun o => ((H.out.still hb).still ((Below.refl _ _).alloc (Nat.le_refl _) o)).c0
      have HB := hid hb
      clear hb
      go_wp2_with (first | (at_builtin; go_loud (refine wpList_append_own_none rfl (.tmp 13) (.tmp 19) 70 rfl w1.heap.size 5 i0 1 Try.underlying70 HI.out _ 0 [] rfl (World.ownsRow_lit (base := w1.heap.size) w1 #[] 0 (Nat.le_refl _) (by unfold maxLen; omega) rfl) rfl ?_)))
      go_ret2
      exact ⟨⟨_, rfl, .inr ⟨_, _, rfl, fun j u hu => absurd hu (by simp [u8s])⟩⟩, HB.out.trans (((Below.refl _ _).alloc (Nat.le_refl _) _).mono HB.out.size)⟩
    · obtain rfl : v = .slice (some ad) b.length c := e1
      obtain ⟨m, hm⟩ : ∃ m, m = b.length := ⟨_, rfl⟩
      have HM := hid hm
      simp only [← hm] at hn0 H
      clear hm
      go_enter Try.func81, Try.ntmps81
      go_wp2_with fail
      refine HCR.out.mono ?_
      rintro r w1 ⟨rfl, hb⟩
      have c0 : ∀ o, (w1.alloc o).cell? ⟨g, 0, none⟩ = some (.slice (some ad) m c) := fun o => ((H.out.still hb).still ((Below.refl _ _).alloc (Nat.le_refl _) o)).c0
      have HC := hid (fun j u (hu : (u8s b)[j]? = some u) => show w1.cell? (ad.add j) = some u by rw [hb.cell (block_lt_of_cell (hc j u hu))]; exact hc j u hu)
      have HB := hid hb
      clear hb hc
      go_wp2_with (first | (at_builtin; go_loud (refine wpList_append_own_at _ rfl (.tmp 13) (.tmp 19) 70 rfl w1.heap.size 5 i0 (.int .u8 0) 1 1 Try.underlying70 HI.out HZ0.out HZ1.out HZ2.out rfl (by decide) _ 0 [] rfl (World.ownsRow_lit (base := w1.heap.size) w1 #[] 0 (Nat.le_refl _) (by unfold maxLen; omega) rfl) ad m c (u8s b) rfl (by simp [u8s, HM.out]) (fun j u hu => by rw [((Below.refl w1.heap.size w1).alloc (Nat.le_refl _) _).cell (block_lt_of_cell (HC.out j u hu))]; exact HC.out j u hu) (u8s_one _) (by unfold maxLen; omega) (by omega) (by simp) ?_; intro v9 w9 ho1 ho2 ho3 ho4; clear ho3; obtain ⟨a9, c9, e9⟩ := own_slice ho1; subst e9; have HO1 := hid ho1; have HO2 := hid ho2; clear ho1 ho2 ho4)))
      go_ret2
      refine ⟨⟨_, rfl, ?_⟩, ?_⟩
      · have h9 := HO1.out
        have e9 : (0 + m : Nat) = b.length := by rw [HM.out]; omega
        simp only [e9, List.nil_append] at h9
        have := own_rdb h9
        simpa [HM.out] using this
      · exact HB.out.trans ((((Below.refl _ _).alloc (Nat.le_refl _) _).grown HO2.out (by simp) (fun k e => by have e' : some w1.heap.size = some k := e; injection e' with e'; omega)).mono HB.out.size)
  · rw [if_neg (by decide)]
    obtain ⟨v, b, s⟩ := f1
    simp only at hn1 ⊢
    have HRD := hid (own_rdb H.out.o1)
    rcases HRD.out with ⟨e1, e2⟩ | ⟨ad, c, e1, hc⟩
    · obtain rfl : v = .slice none 0 0 := e1
      obtain rfl : b = [] := e2
      go_enter Try.func81, Try.ntmps81
      go_wp2_with fail
      refine HCR.out.mono ?_
      rintro r w1 ⟨rfl, hb⟩
      have c0 : ∀ o, (w1.alloc o).cell? ⟨g, 1, none⟩ = some (.slice none 0 0) := fun o => ((H.out.still hb).still ((Below.refl _ _).alloc (Nat.le_refl _) o)).c1
      have HB := hid hb
      clear hb
      go_wp2_with (first | (at_builtin; go_loud (refine wpList_append_own_none rfl (.tmp 13) (.tmp 19) 70 rfl w1.heap.size 5 i0 1 Try.underlying70 HI.out _ 0 [] rfl (World.ownsRow_lit (base := w1.heap.size) w1 #[] 0 (Nat.le_refl _) (by unfold maxLen; omega) rfl) rfl ?_)))
      go_ret2
      exact ⟨⟨_, rfl, .inr ⟨_, _, rfl, fun j u hu => absurd hu (by simp [u8s])⟩⟩, HB.out.trans (((Below.refl _ _).alloc (Nat.le_refl _) _).mono HB.out.size)⟩
    · obtain rfl : v = .slice (some ad) b.length c := e1
      obtain ⟨m, hm⟩ : ∃ m, m = b.length := ⟨_, rfl⟩
      have HM := hid hm
      simp only [← hm] at hn1 H
      clear hm
      go_enter Try.func81, Try.ntmps81
      go_wp2_with fail
      refine HCR.out.mono ?_
      rintro r w1 ⟨rfl, hb⟩
      have c0 : ∀ o, (w1.alloc o).cell? ⟨g, 1, none⟩ = some (.slice (some ad) m c) := fun o => ((H.out.still hb).still ((Below.refl _ _).alloc (Nat.le_refl _) o)).c1
      have HC := hid (fun j u (hu : (u8s b)[j]? = some u) => show w1.cell? (ad.add j) = some u by rw [hb.cell (block_lt_of_cell (hc j u hu))]; exact hc j u hu)
      have HB := hid hb
      clear hb hc
      go_wp2_with (first | (at_builtin; go_loud (refine wpList_append_own_at _ rfl (.tmp 13) (.tmp 19) 70 rfl w1.heap.size 5 i0 (.int .u8 0) 1 1 Try.underlying70 HI.out HZ0.out HZ1.out HZ2.out rfl (by decide) _ 0 [] rfl (World.ownsRow_lit (base := w1.heap.size) w1 #[] 0 (Nat.le_refl _) (by unfold maxLen; omega) rfl) ad m c (u8s b) rfl (by simp [u8s, HM.out]) (fun j u hu => by rw [((Below.refl w1.heap.size w1).alloc (Nat.le_refl _) _).cell (block_lt_of_cell (HC.out j u hu))]; exact HC.out j u hu) (u8s_one _) (by unfold maxLen; omega) (by omega) (by simp) ?_; intro v9 w9 ho1 ho2 ho3 ho4; clear ho3; obtain ⟨a9, c9, e9⟩ := own_slice ho1; subst e9; have HO1 := hid ho1; have HO2 := hid ho2; clear ho1 ho2 ho4)))
      go_ret2
      refine ⟨⟨_, rfl, ?_⟩, ?_⟩
      · have h9 := HO1.out
        have e9 : (0 + m : Nat) = b.length := by rw [HM.out]; omega
        simp only [e9, List.nil_append] at h9
        have := own_rdb h9
        simpa [HM.out] using this
      · exact HB.out.trans ((((Below.refl _ _).alloc (Nat.le_refl _) _).grown HO2.out (by simp) (fun k e => by have e' : some w1.heap.size = some k := e; injection e' with e'; omega)).mono HB.out.size)
def ApOkR (w w' : World) (B g : Nat) (dn : Bool) (lf i : Int) (f0 f1 : Fl) (bs : List Nat) : Prop :=
  ∃ f0' f1' : Fl, f0'.b = (if okB i dn lf = true ∧ i = 0 then f0.b ++ bs else f0.b) ∧ f0'.s = f0.s ∧ f1'.b = (if okB i dn lf = true ∧ i = 1 then f1.b ++ bs else f1.b) ∧ f1'.s = f1.s ∧
    DR w' B g (dnV i dn lf) (lfV i dn lf) f0' f1' ∧ Fr (fun k => k = g) w w' ∧ ∀ k, k < w.heap.size → foot g f0' f1' k → foot g f0 f1 k
set_option maxRecDepth 100000 in
set_option maxHeartbeats 3200000 in
theorem rappend_any (g B : Nat) (dn : Bool) (lf i : Int) (f0 f1 : Fl) (bv : Value) (bs : List Nat) (w : World) (h : DR w B g dn lf f0 f1) (h0 : 0 ≤ lf) (hl : lf ≤ 9223372036854775807) (hbs : ByB w B bv bs) (hn0 : f0.b.length ≤ 1000000) (hn1 : f1.b.length ≤ 1000000) (hnb : bs.length ≤ 1000000) (hBw : B ≤ w.heap.size) :
    Calls Try.prog 69 #[.pointer (some ⟨g, 0, none⟩), .int .i64 i, bv] w fun r w' => r = .returned (.int .i64 (errV i dn lf)) ∧ ApOkR w w' B g dn lf i f0 f1 bs := by
  by_cases hr : refV i dn ≠ 0
  · have hok := no_ok (lf := lf) hr
    have HE := hid (fun w' (hb : Below w.heap.size w w') => show ApOkR w w' B g dn lf i f0 f1 bs from ⟨f0, f1, by simp [hok], rfl, by simp [hok], rfl, by rw [show dnV i dn lf = dn from if_pos hr, show lfV i dn lf = lf from if_pos hr]; exact h.still hb, Fr.of_below hb, fun _ _ h => h⟩)
    rw [show errV i dn lf = refV i dn from if_pos hr]
    have HC := hid (rready_ref g B dn lf i f0 f1 w true h hr)
    clear h hok
    generalize refV i dn = e at *
    have d1 : (e != 0) = true := by simpa using hr
    go_enter Try.func69, Try.ntmps69
    go_wp2_with fail
    refine HC.out.mono ?_
    rintro r w1 ⟨rfl, hb⟩
    go_wp2_with fail
    go_ret
    exact ⟨rfl, HE.out _ hb⟩
  replace hr : refV i dn = 0 := by simpa using hr
  obtain ⟨rfl, hi⟩ := refV_range hr
  have hdn : dnV i false lf = decide (lf = 1) := if_neg (by simpa using hr)
  have hlf : lfV i false lf = spL lf := if_neg (by simpa using hr)
  rw [show errV i false lf = if lf = 1 then 82 else 0 from if_neg (by simpa using hr)]
  have HCR := hid (rready_any g B lf i f0 f1 w h h0 hl hi)
  by_cases h1 : lf = 1
  · have hok : okB i false lf = false := by simp [okB, h1]
    have HE := hid (fun w' (hd : DR w' B g (decide (lf = 1)) (spL lf) f0 f1) (hf : Fr (fun k => k = g) w w') => show ApOkR w w' B g false lf i f0 f1 bs from ⟨f0, f1, by simp [hok], rfl, by simp [hok], rfl, by rw [hdn, hlf]; exact hd, hf, fun _ _ h => h⟩)
    rw [if_pos h1]
    rw [if_pos h1] at HCR
    clear h h1 hok hr hi hdn hlf
    go_enter Try.func69, Try.ntmps69
    go_wp2_with fail
    refine HCR.out.mono ?_
    rintro r w1 ⟨rfl, hd, hf⟩
    have HD := hid hd
    have HF := hid hf
    clear hd hf
    go_wp2_with fail
    go_ret
    exact ⟨rfl, HE.out _ HD.out HF.out⟩
  rw [if_neg h1]
  rw [if_neg h1, show decide (lf = 1) = false from decide_eq_false h1] at HCR
  have hok : okB i false lf = true := by simp [okB, h1, hr]
  obtain ⟨i0, hi0, hz0, hz1, hz2⟩ := info_parts info5
  have HI := hid hi0
  have HZ0 := hid hz0
  have HZ1 := hid hz1
  have HZ2 := hid hz2
  clear hi0 hz0 hz1 hz2
  rcases hi with rfl | rfl
  · have HE := hid (fun w' v' (hd : DR w' B g false (spL lf) ⟨v', f0.b ++ bs, f0.s⟩ f1) (hf : Fr (fun k => k = g) w w') (hn : ∀ k, v'.ownBlock = some k → w.heap.size ≤ k) => show ApOkR w w' B g false lf 0 f0 f1 bs from ⟨⟨v', f0.b ++ bs, f0.s⟩, f1, by simp [hok], rfl, by simp [hok], rfl, by rw [hdn, hlf, show decide (lf = 1) = false from decide_eq_false h1]; exact hd, hf, by rintro k hk (rfl | h | h); (· exact .inl rfl); (· exact absurd (hn k h) (by omega)); (· exact .inr (.inr h))⟩)
    have HBS := hid hbs
    have HLT := hid (Dsk.foot_ge h)
    clear h1 hok hr hdn hlf hbs
    generalize spL lf = lf2 at *
    obtain ⟨v, b, s⟩ := f0
    simp only at hn0
    have H := hid h
    have HRD := hid (own_rdb h.o0)
    clear h
    rcases HRD.out with ⟨e1, e2⟩ | ⟨ad, c, e1, hc⟩
    · obtain rfl : v = .slice none 0 0 := e1
      obtain rfl : b = [] := e2
      go_enter Try.func69, Try.ntmps69
      go_wp2_with fail
      refine HCR.out.mono ?_
      rintro r w1 ⟨rfl, hd, hf⟩
      have c0 : ∀ o, (w1.alloc o).cell? ⟨g, 0, none⟩ = some (.slice none 0 0) := fun o => (DR.still hd ((Below.refl _ _).alloc (Nat.le_refl _) o)).c0
      have HFT := hid (Dsk.foot_lt hd)
      have hz1 := hf.size
      have HD := hid hd
      have HF := hid hf
      clear hd hf
      go_wp2_with (first | (at_builtin; go_loud (refine wpList_append_own_none rfl (.tmp 15) (.tmp 21) 70 rfl w1.heap.size 5 i0 1 Try.underlying70 HI.out _ 0 [] rfl (World.ownsRow_lit (base := w1.heap.size) w1 #[] 0 (Nat.le_refl _) (by unfold maxLen; omega) rfl) rfl ?_)))
      refine gen_world (fun W2 hW2 => ?_)
      have HB2 := hid (show Below w1.heap.size w1 W2 by rw [hW2]; exact (Below.refl _ _).alloc (Nat.le_refl _) _)
      have OW := hid (show W2.ownsRow w1.heap.size 5 1 (.slice (some ⟨w1.heap.size, 0, none⟩) 0 0) 0 (u8s []) by rw [hW2]; exact World.ownsRow_lit (base := w1.heap.size) w1 #[] 0 (Nat.le_refl _) (by unfold maxLen; omega) rfl)
      clear hW2 c0
      have D2 := hid (HD.out.still HB2.out)
      have F2 := hid (HF.out.step HB2.out)
      have hz2 := HB2.out.size
      have HBY := hid (HBS.out.frame F2.out (fun k hk => HLT.out k (.inl hk)))
      rcases HBY.out with ⟨e3, e4⟩ | ⟨ad2, c2, e3, hc2⟩
      · obtain rfl : bv = .slice none 0 0 := e3
        obtain rfl : bs = [] := e4
        refine gen_act (fun A0 hA => ?_)
        refine wp_region_by (by kernel_rfl) (by kernel_rfl) [some 23, some 24, some 25, some 26, some 27, some 28, some 29, some 30, none] rfl (by decide) (StR (fun j => ([.pointer (some ⟨g, 0, none⟩), .int .i64 0, .slice (some ⟨w1.heap.size, 0, none⟩) 0 0, .slice none 0 0, undef, .pointer (some ⟨g, 0, none⟩), .pointer (some ⟨g, 0, none⟩), .pointer (some ⟨g, 0, none⟩), undef] : List Value).getD j undef) [4, 8] (fun kk vv WW => (match kk with | 0 => DR WW B g false lf2 ⟨.slice none 0 0, ([] : List Nat), s⟩ f1 ∧ WW.ownsRow w1.heap.size 5 1 (.slice (some ⟨w1.heap.size, 0, none⟩) 0 0) 0 (u8s ([] : List Nat)) | 1 => DR WW B g false lf2 ⟨.slice none 0 0, ([] : List Nat), s⟩ f1 ∧ WW.ownsRow w1.heap.size 5 1 (vv 0) (([] : List Nat) ++ ([] : List Nat)).length (u8s (([] : List Nat) ++ ([] : List Nat))) | _ => DR WW B g false lf2 ⟨vv 0, ([] : List Nat) ++ ([] : List Nat), s⟩ f1 ∧ ∀ k, (vv 0).ownBlock = some k → w.heap.size ≤ k) ∧ Fr (fun k => k = g) w WW ∧ W2.heap.size ≤ WW.heap.size)) (selfF A0 _) (putF_self A0 _)
          (StR.start ⟨⟨D2.out.still (Below.refl _ _).drew, own_same OW.out (fun k hk => ((Below.refl W2.heap.size W2).drew).block k (OW.out.lt k hk).2)⟩, F2.out.step (Below.refl _ _).drew, ((Below.refl W2.heap.size W2).drew).size⟩ (fun _ => rfl)) ?hsA000 ?htA000
        case hsA000 =>
          refine ⟨?_, ?_, ?_, ?_, ?_, ?_, ?_, ?_, ?_, trivial⟩
          · intro K L us W hK0 hL hd hR
            have hK := hid (fun v9 A9 h1 (h3 : v9 = .pointer (some ⟨g, 0, none⟩)) => hK0 v9 A9 W h1 (hR.pure (by decide) h3)); clear hK0
            clear hd
            simp only [putF]
            rw [hA]
            go_frame
            go_wp2_with fail
            exact hK.out _ _ (by rw [hA]; simp only [putF]; kernel_rfl) rfl
          · intro K L us W hK0 hL hd hR
            have hK := hid (fun v9 A9 h1 (h3 : v9 = .int .i64 0) => hK0 v9 A9 W h1 (hR.pure (by decide) h3)); clear hK0
            clear hd
            simp only [putF]
            rw [hA]
            go_frame
            go_wp2_with fail
            exact hK.out _ _ (by rw [hA]; simp only [putF]; kernel_rfl) rfl
          · intro K L us W hK0 hL hd hR
            have hK := hid (fun v9 A9 h1 (h3 : v9 = .slice (some ⟨w1.heap.size, 0, none⟩) 0 0) => hK0 v9 A9 W h1 (hR.pure (by decide) h3)); clear hK0
            clear hd
            simp only [putF]
            rw [hA]
            go_frame
            go_wp2_with fail
            exact hK.out _ _ (by rw [hA]; simp only [putF]; kernel_rfl) rfl
          · intro K L us W hK0 hL hd hR
            have hK := hid (fun v9 A9 h1 (h3 : v9 = .slice none 0 0) => hK0 v9 A9 W h1 (hR.pure (by decide) h3)); clear hK0
            clear hd
            simp only [putF]
            rw [hA]
            go_frame
            go_wp2_with fail
            exact hK.out _ _ (by rw [hA]; simp only [putF]; kernel_rfl) rfl
          · intro K L us W hK0 hL hd hR
            have e2 : us 2 = .slice (some ⟨w1.heap.size, 0, none⟩) 0 0 := hR.vals 2 (by decide) (all_on hd ⟨2, Ground.data⟩ (by simp) rfl)
            have e3 : us 3 = .slice none 0 0 := hR.vals 3 (by decide) (all_on hd ⟨3, Ground.data⟩ (by simp) rfl)
            have hS := hR.at 0 (by decide) (.inl rfl) hL
            have hK := hid (fun v9 A9 W9 h1 (hS' : (fun kk vv WW => (match kk with | 0 => DR WW B g false lf2 ⟨.slice none 0 0, ([] : List Nat), s⟩ f1 ∧ WW.ownsRow w1.heap.size 5 1 (.slice (some ⟨w1.heap.size, 0, none⟩) 0 0) 0 (u8s ([] : List Nat)) | 1 => DR WW B g false lf2 ⟨.slice none 0 0, ([] : List Nat), s⟩ f1 ∧ WW.ownsRow w1.heap.size 5 1 (vv 0) (([] : List Nat) ++ ([] : List Nat)).length (u8s (([] : List Nat) ++ ([] : List Nat))) | _ => DR WW B g false lf2 ⟨vv 0, ([] : List Nat) ++ ([] : List Nat), s⟩ f1 ∧ ∀ k, (vv 0).ownBlock = some k → w.heap.size ≤ k) ∧ Fr (fun k => k = g) w WW ∧ W2.heap.size ≤ WW.heap.size) 1 (fun j => if j = 0 then v9 else selV [4, 8] us j) W9) => hK0 v9 A9 W9 h1 (hR.next (by decide) 0 (by decide) (.inl rfl) hL hS')); clear hK0
            obtain ⟨⟨hD, hO⟩, hF, hS'⟩ := hS
            have D4 := hid hD
            have F4 := hid hF
            have O4 := hid hO
            have hz4 := hS'
            clear hD hF hO hS'
            clear hd
            simp only [putF]
            rw [hA, e2, e3]
            go_frame
            go_wp2_with (first | (at_builtin; go_loud (refine wpList_append_own_none rfl (.tmp 25) (.tmp 26) 70 rfl w1.heap.size 5 i0 1 Try.underlying70 HI.out _ 0 (u8s ([] : List Nat)) rfl O4.out rfl ?_)))
            refine hK.out (.slice (some ⟨w1.heap.size, 0, none⟩) 0 0) _ _ (by rw [hA]; simp only [putF]; rw [e2, e3]; kernel_rfl) ?_
            exact ⟨⟨D4.out, by have h9 := O4.out; simpa [u8s] using h9⟩, F4.out, hz4⟩
          · intro K L us W hK0 hL hd hR
            have e0 : us 0 = .pointer (some ⟨g, 0, none⟩) := hR.vals 0 (by decide) (all_on hd ⟨0, Ground.data⟩ (by simp) rfl)
            have hK := hid (fun v9 A9 h1 (h3 : v9 = .pointer (some ⟨g, 0, none⟩)) => hK0 v9 A9 W h1 (hR.pure (by decide) h3)); clear hK0
            clear hd
            simp only [putF]
            rw [hA, e0]
            go_frame
            go_wp2_with fail
            exact hK.out _ _ (by rw [hA]; simp only [putF]; rw [e0]; kernel_rfl) rfl
          · intro K L us W hK0 hL hd hR
            have e5 : us 5 = .pointer (some ⟨g, 0, none⟩) := hR.vals 5 (by decide) (all_on hd ⟨5, Ground.data⟩ (by simp) rfl)
            have hK := hid (fun v9 A9 h1 (h3 : v9 = .pointer (some ⟨g, 0, none⟩)) => hK0 v9 A9 W h1 (hR.pure (by decide) h3)); clear hK0
            clear hd
            simp only [putF]
            rw [hA, e5]
            go_frame
            go_wp2_with fail
            exact hK.out _ _ (by rw [hA]; simp only [putF]; rw [e5]; kernel_rfl) rfl
          · intro K L us W hK0 hL hd hR
            have e6 : us 6 = .pointer (some ⟨g, 0, none⟩) := hR.vals 6 (by decide) (all_on hd ⟨6, Ground.data⟩ (by simp) rfl)
            have e1 : us 1 = .int .i64 0 := hR.vals 1 (by decide) (all_on hd ⟨1, Ground.data⟩ (by simp) rfl)
            have hK := hid (fun v9 A9 h1 (h3 : v9 = .pointer (some ⟨g, 0, none⟩)) => hK0 v9 A9 W h1 (hR.pure (by decide) h3)); clear hK0
            clear hd
            simp only [putF]
            rw [hA, e6, e1]
            go_frame
            go_wp2_with fail
            exact hK.out _ _ (by rw [hA]; simp only [putF]; rw [e6, e1]; kernel_rfl) rfl
          · intro K L us W hK0 hL hd hR
            have e7 : us 7 = .pointer (some ⟨g, 0, none⟩) := hR.vals 7 (by decide) (all_on hd ⟨7, Ground.data⟩ (by simp) rfl)
            have hS := hR.at 1 (by decide) (.inr ⟨by decide, all_on hd ⟨4, Ground.data⟩ (by simp) rfl⟩) hL
            have hK := hid (fun v9 A9 W9 h1 (hS' : (fun kk vv WW => (match kk with | 0 => DR WW B g false lf2 ⟨.slice none 0 0, ([] : List Nat), s⟩ f1 ∧ WW.ownsRow w1.heap.size 5 1 (.slice (some ⟨w1.heap.size, 0, none⟩) 0 0) 0 (u8s ([] : List Nat)) | 1 => DR WW B g false lf2 ⟨.slice none 0 0, ([] : List Nat), s⟩ f1 ∧ WW.ownsRow w1.heap.size 5 1 (vv 0) (([] : List Nat) ++ ([] : List Nat)).length (u8s (([] : List Nat) ++ ([] : List Nat))) | _ => DR WW B g false lf2 ⟨vv 0, ([] : List Nat) ++ ([] : List Nat), s⟩ f1 ∧ ∀ k, (vv 0).ownBlock = some k → w.heap.size ≤ k) ∧ Fr (fun k => k = g) w WW ∧ W2.heap.size ≤ WW.heap.size) 2 (fun j => if j = 1 then v9 else selV [4, 8] us j) W9) => hK0 v9 A9 W9 h1 (hR.next (by decide) 1 (by decide) (.inr ⟨by decide, all_on hd ⟨4, Ground.data⟩ (by simp) rfl⟩) hL hS')); clear hK0
            obtain ⟨⟨hD, hO⟩, hF, hS'⟩ := hS
            have D4 := hid hD
            have F4 := hid hF
            have O4 := hid hO
            have hz4 := hS'
            clear hD hF hO hS'
            obtain ⟨v4, e4⟩ : ∃ v4, us 4 = v4 := ⟨_, rfl⟩
            have O5 := hid (show W.ownsRow w1.heap.size 5 1 v4 (([] : List Nat) ++ ([] : List Nat)).length (u8s (([] : List Nat) ++ ([] : List Nat))) from by have := O4.out; rw [show selV [4, 8] us 0 = us 4 from rfl, e4] at this; exact this)
            obtain ⟨nn, hnn⟩ : ∃ nn, nn = (([] : List Nat) ++ ([] : List Nat)).length := ⟨_, rfl⟩
            rw [← hnn] at O5
            have HNN := hid hnn
            clear O4 hnn
            obtain ⟨a4, c4, e5⟩ := own_slice O5.out
            subst e5
            have z1 : W.frozen? ⟨g, 0, none⟩ = false := by have hh := (D4.out).hg; simp [World.frozen?, hh]
            have c0 : W.cell? ⟨g, 0, none⟩ = some (.slice none 0 0) := D4.out.c0
            clear hd
            simp only [putF]
            rw [hA, e7, e4]
            go_frame
            go_wp2_with fail
            refine hK.out undef _ _ (by rw [hA]; simp only [putF]; rw [e7, e4]; kernel_rfl) ?_
            have hlt5 := fun k (hk : (Value.ownBlock (.slice a4 nn c4)) = some k) => (O5.out.lt k hk).1
            have hFT := HFT.out
            have hg1 : g < w1.heap.size := hFT g (.inl rfl)
            refine ⟨⟨?_, ?_⟩, F4.out.trans (G := fun k => k = g) (Fr.set rfl) (fun _ _ h => h), by simp; omega⟩
            · show DR _ B g false lf2 ⟨us 4, ([] : List Nat) ++ ([] : List Nat), s⟩ f1
              rw [e4]
              refine (D4.out.set 0 (.slice a4 nn c4)).swap0 ?_ ?_ ?_
              · rw [← HNN.out]; exact own_same (own_low O5.out (by omega)) (fun k hk => Below.heap_setCell W ⟨g, 0, none⟩ _ k (fun e => by have h1 : k = g := e; have := hlt5 k hk; omega))
              · intro e; have := hlt5 g e; omega
              · intro k hk e; have h1 := hlt5 k hk; have h2 := hFT k (.inr (.inr e)); omega
            · intro k hk
              have hk2 : (us 4).ownBlock = some k := hk
              rw [e4] at hk2
              have := hlt5 k hk2; omega
        case htA000 =>
          intro L us W5 hall hR
          have hS := hR.last (fun i hi => match i, hi with | 0, _ => hall 4 (by decide) | 1, _ => hall 8 (by decide))
          have e0 : us 0 = .pointer (some ⟨g, 0, none⟩) := hR.vals 0 (by decide) (hall 0 (by decide))
          have e1 : us 1 = .int .i64 0 := hR.vals 1 (by decide) (hall 1 (by decide))
          have e2 : us 2 = .slice (some ⟨w1.heap.size, 0, none⟩) 0 0 := hR.vals 2 (by decide) (hall 2 (by decide))
          have e3 : us 3 = .slice none 0 0 := hR.vals 3 (by decide) (hall 3 (by decide))
          have e5 : us 5 = .pointer (some ⟨g, 0, none⟩) := hR.vals 5 (by decide) (hall 5 (by decide))
          have e6 : us 6 = .pointer (some ⟨g, 0, none⟩) := hR.vals 6 (by decide) (hall 6 (by decide))
          have e7 : us 7 = .pointer (some ⟨g, 0, none⟩) := hR.vals 7 (by decide) (hall 7 (by decide))
          clear hR hall
          obtain ⟨⟨hD, hN⟩, hF, _⟩ := hS
          obtain ⟨v4, e4⟩ : ∃ v4, us 4 = v4 := ⟨_, rfl⟩
          have hD2 : DR W5 B g false lf2 ⟨us 4, ([] : List Nat) ++ ([] : List Nat), s⟩ f1 := hD
          have hN2 : ∀ k, (us 4).ownBlock = some k → w.heap.size ≤ k := hN
          rw [e4] at hD2 hN2
          have D5 := hid hD2
          have F5 := hid hF
          have N5 := hid hN2
          clear hD hF hN hD2 hN2
          simp only [putF]
          rw [hA, e0, e1, e2, e3, e5, e6, e7, e4]
          go_frame
          clear hA e4 e0 e1 e2 e3 e5 e6 e7
          go_wp2_with fail
          go_ret
          exact ⟨rfl, HE.out _ v4 D5.out F5.out N5.out⟩
      · obtain ⟨mb, hmb⟩ : ∃ mb, mb = bs.length := ⟨_, rfl⟩
        rw [← hmb] at e3 hnb
        have HMB := hid hmb
        clear hmb
        obtain rfl : bv = .slice (some ad2) mb c2 := e3
        have HC2 := hid hc2
        clear hc2
        refine gen_act (fun A0 hA => ?_)
        refine wp_region_by (by kernel_rfl) (by kernel_rfl) [some 23, some 24, some 25, some 26, some 27, some 28, some 29, some 30, none] rfl (by decide) (StR (fun j => ([.pointer (some ⟨g, 0, none⟩), .int .i64 0, .slice (some ⟨w1.heap.size, 0, none⟩) 0 0, .slice (some ad2) mb c2, undef, .pointer (some ⟨g, 0, none⟩), .pointer (some ⟨g, 0, none⟩), .pointer (some ⟨g, 0, none⟩), undef] : List Value).getD j undef) [4, 8] (fun kk vv WW => (match kk with | 0 => DR WW B g false lf2 ⟨.slice none 0 0, ([] : List Nat), s⟩ f1 ∧ WW.ownsRow w1.heap.size 5 1 (.slice (some ⟨w1.heap.size, 0, none⟩) 0 0) 0 (u8s ([] : List Nat)) | 1 => DR WW B g false lf2 ⟨.slice none 0 0, ([] : List Nat), s⟩ f1 ∧ WW.ownsRow w1.heap.size 5 1 (vv 0) (([] : List Nat) ++ bs).length (u8s (([] : List Nat) ++ bs)) | _ => DR WW B g false lf2 ⟨vv 0, ([] : List Nat) ++ bs, s⟩ f1 ∧ ∀ k, (vv 0).ownBlock = some k → w.heap.size ≤ k) ∧ Fr (fun k => k = g) w WW ∧ W2.heap.size ≤ WW.heap.size)) (selfF A0 _) (putF_self A0 _)
          (StR.start ⟨⟨D2.out.still (Below.refl _ _).drew, own_same OW.out (fun k hk => ((Below.refl W2.heap.size W2).drew).block k (OW.out.lt k hk).2)⟩, F2.out.step (Below.refl _ _).drew, ((Below.refl W2.heap.size W2).drew).size⟩ (fun _ => rfl)) ?hsA001 ?htA001
        case hsA001 =>
          refine ⟨?_, ?_, ?_, ?_, ?_, ?_, ?_, ?_, ?_, trivial⟩
          · intro K L us W hK0 hL hd hR
            have hK := hid (fun v9 A9 h1 (h3 : v9 = .pointer (some ⟨g, 0, none⟩)) => hK0 v9 A9 W h1 (hR.pure (by decide) h3)); clear hK0
            clear hd
            simp only [putF]
            rw [hA]
            go_frame
            go_wp2_with fail
            exact hK.out _ _ (by rw [hA]; simp only [putF]; kernel_rfl) rfl
          · intro K L us W hK0 hL hd hR
            have hK := hid (fun v9 A9 h1 (h3 : v9 = .int .i64 0) => hK0 v9 A9 W h1 (hR.pure (by decide) h3)); clear hK0
            clear hd
            simp only [putF]
            rw [hA]
            go_frame
            go_wp2_with fail
            exact hK.out _ _ (by rw [hA]; simp only [putF]; kernel_rfl) rfl
          · intro K L us W hK0 hL hd hR
            have hK := hid (fun v9 A9 h1 (h3 : v9 = .slice (some ⟨w1.heap.size, 0, none⟩) 0 0) => hK0 v9 A9 W h1 (hR.pure (by decide) h3)); clear hK0
            clear hd
            simp only [putF]
            rw [hA]
            go_frame
            go_wp2_with fail
            exact hK.out _ _ (by rw [hA]; simp only [putF]; kernel_rfl) rfl
          · intro K L us W hK0 hL hd hR
            have hK := hid (fun v9 A9 h1 (h3 : v9 = .slice (some ad2) mb c2) => hK0 v9 A9 W h1 (hR.pure (by decide) h3)); clear hK0
            clear hd
            simp only [putF]
            rw [hA]
            go_frame
            go_wp2_with fail
            exact hK.out _ _ (by rw [hA]; simp only [putF]; kernel_rfl) rfl
          · intro K L us W hK0 hL hd hR
            have e2 : us 2 = .slice (some ⟨w1.heap.size, 0, none⟩) 0 0 := hR.vals 2 (by decide) (all_on hd ⟨2, Ground.data⟩ (by simp) rfl)
            have e3 : us 3 = .slice (some ad2) mb c2 := hR.vals 3 (by decide) (all_on hd ⟨3, Ground.data⟩ (by simp) rfl)
            have hS := hR.at 0 (by decide) (.inl rfl) hL
            have hK := hid (fun v9 A9 W9 h1 (hS' : (fun kk vv WW => (match kk with | 0 => DR WW B g false lf2 ⟨.slice none 0 0, ([] : List Nat), s⟩ f1 ∧ WW.ownsRow w1.heap.size 5 1 (.slice (some ⟨w1.heap.size, 0, none⟩) 0 0) 0 (u8s ([] : List Nat)) | 1 => DR WW B g false lf2 ⟨.slice none 0 0, ([] : List Nat), s⟩ f1 ∧ WW.ownsRow w1.heap.size 5 1 (vv 0) (([] : List Nat) ++ bs).length (u8s (([] : List Nat) ++ bs)) | _ => DR WW B g false lf2 ⟨vv 0, ([] : List Nat) ++ bs, s⟩ f1 ∧ ∀ k, (vv 0).ownBlock = some k → w.heap.size ≤ k) ∧ Fr (fun k => k = g) w WW ∧ W2.heap.size ≤ WW.heap.size) 1 (fun j => if j = 0 then v9 else selV [4, 8] us j) W9) => hK0 v9 A9 W9 h1 (hR.next (by decide) 0 (by decide) (.inl rfl) hL hS')); clear hK0
            obtain ⟨⟨hD, hO⟩, hF, hS'⟩ := hS
            have D4 := hid hD
            have F4 := hid hF
            have O4 := hid hO
            have hz4 := hS'
            clear hD hF hO hS'
            have HC4 := hid (show ∀ j u, (u8s bs)[j]? = some u → W.cell? (ad2.add j) = some u from by rcases HBS.out.frame F4.out (fun k hk => HLT.out k (.inl hk)) with ⟨e, _⟩ | ⟨ad3, c3, e, h9⟩; (· injection e with e; exact absurd e (by simp)); (· injection e with e; injection e with e; subst e; exact fun j u hu => (h9 j u hu).1))
            clear hd
            simp only [putF]
            rw [hA, e2, e3]
            go_frame
            go_wp2_with (first | (at_builtin; go_loud (refine wpList_append_own_at _ rfl (.tmp 25) (.tmp 26) 70 rfl w1.heap.size 5 i0 (.int .u8 0) 1 1 Try.underlying70 HI.out HZ0.out HZ1.out HZ2.out rfl (by decide) _ 0 (u8s ([] : List Nat)) rfl O4.out ad2 mb c2 (u8s bs) rfl (by simp [u8s, HMB.out]) (fun j u hu => HC4.out j u hu) (u8s_one _) (by unfold maxLen; omega) (by omega) (by omega) ?_; intro v7 w7 ho1 ho2 ho3 ho4; clear ho3; have HO1 := hid ho1; have HO2 := hid ho2; clear ho1 ho2 ho4)))
            refine hK.out v7 _ _ (by rw [hA]; simp only [putF]; rw [e2, e3]; kernel_rfl) ?_
            have hlt4 := fun k (hk : (Value.ownBlock (.slice (some ⟨w1.heap.size, 0, none⟩) 0 0)) = some k) => (O4.out.lt k hk).1
            have hfr : Fr (fun k => Value.ownBlock (.slice (some ⟨w1.heap.size, 0, none⟩) 0 0) = some k) W w7 := Fr.grown HO2.out (fun k hk => hk)
            refine ⟨⟨D4.out.frame hfr (fun k hk e => by have h1 := hlt4 k e; have h2 := HFT.out k hk; omega), ?_⟩, F4.out.trans hfr (fun k hk e => by have h1 := hlt4 k e; omega), by have := hfr.size; omega⟩
            have h9 := HO1.out
            have e8 : ((([] : List Nat) ++ bs) : List Nat).length = 0 + mb := by simp [HMB.out]
            rw [e8, show u8s (([] : List Nat) ++ bs) = u8s ([] : List Nat) ++ u8s bs by simp [u8s]]
            exact h9
          · intro K L us W hK0 hL hd hR
            have e0 : us 0 = .pointer (some ⟨g, 0, none⟩) := hR.vals 0 (by decide) (all_on hd ⟨0, Ground.data⟩ (by simp) rfl)
            have hK := hid (fun v9 A9 h1 (h3 : v9 = .pointer (some ⟨g, 0, none⟩)) => hK0 v9 A9 W h1 (hR.pure (by decide) h3)); clear hK0
            clear hd
            simp only [putF]
            rw [hA, e0]
            go_frame
            go_wp2_with fail
            exact hK.out _ _ (by rw [hA]; simp only [putF]; rw [e0]; kernel_rfl) rfl
          · intro K L us W hK0 hL hd hR
            have e5 : us 5 = .pointer (some ⟨g, 0, none⟩) := hR.vals 5 (by decide) (all_on hd ⟨5, Ground.data⟩ (by simp) rfl)
            have hK := hid (fun v9 A9 h1 (h3 : v9 = .pointer (some ⟨g, 0, none⟩)) => hK0 v9 A9 W h1 (hR.pure (by decide) h3)); clear hK0
            clear hd
            simp only [putF]
            rw [hA, e5]
            go_frame
            go_wp2_with fail
            exact hK.out _ _ (by rw [hA]; simp only [putF]; rw [e5]; kernel_rfl) rfl
          · intro K L us W hK0 hL hd hR
            have e6 : us 6 = .pointer (some ⟨g, 0, none⟩) := hR.vals 6 (by decide) (all_on hd ⟨6, Ground.data⟩ (by simp) rfl)
            have e1 : us 1 = .int .i64 0 := hR.vals 1 (by decide) (all_on hd ⟨1, Ground.data⟩ (by simp) rfl)
            have hK := hid (fun v9 A9 h1 (h3 : v9 = .pointer (some ⟨g, 0, none⟩)) => hK0 v9 A9 W h1 (hR.pure (by decide) h3)); clear hK0
            clear hd
            simp only [putF]
            rw [hA, e6, e1]
            go_frame
            go_wp2_with fail
            exact hK.out _ _ (by rw [hA]; simp only [putF]; rw [e6, e1]; kernel_rfl) rfl
          · intro K L us W hK0 hL hd hR
            have e7 : us 7 = .pointer (some ⟨g, 0, none⟩) := hR.vals 7 (by decide) (all_on hd ⟨7, Ground.data⟩ (by simp) rfl)
            have hS := hR.at 1 (by decide) (.inr ⟨by decide, all_on hd ⟨4, Ground.data⟩ (by simp) rfl⟩) hL
            have hK := hid (fun v9 A9 W9 h1 (hS' : (fun kk vv WW => (match kk with | 0 => DR WW B g false lf2 ⟨.slice none 0 0, ([] : List Nat), s⟩ f1 ∧ WW.ownsRow w1.heap.size 5 1 (.slice (some ⟨w1.heap.size, 0, none⟩) 0 0) 0 (u8s ([] : List Nat)) | 1 => DR WW B g false lf2 ⟨.slice none 0 0, ([] : List Nat), s⟩ f1 ∧ WW.ownsRow w1.heap.size 5 1 (vv 0) (([] : List Nat) ++ bs).length (u8s (([] : List Nat) ++ bs)) | _ => DR WW B g false lf2 ⟨vv 0, ([] : List Nat) ++ bs, s⟩ f1 ∧ ∀ k, (vv 0).ownBlock = some k → w.heap.size ≤ k) ∧ Fr (fun k => k = g) w WW ∧ W2.heap.size ≤ WW.heap.size) 2 (fun j => if j = 1 then v9 else selV [4, 8] us j) W9) => hK0 v9 A9 W9 h1 (hR.next (by decide) 1 (by decide) (.inr ⟨by decide, all_on hd ⟨4, Ground.data⟩ (by simp) rfl⟩) hL hS')); clear hK0
            obtain ⟨⟨hD, hO⟩, hF, hS'⟩ := hS
            have D4 := hid hD
            have F4 := hid hF
            have O4 := hid hO
            have hz4 := hS'
            clear hD hF hO hS'
            obtain ⟨v4, e4⟩ : ∃ v4, us 4 = v4 := ⟨_, rfl⟩
            have O5 := hid (show W.ownsRow w1.heap.size 5 1 v4 (([] : List Nat) ++ bs).length (u8s (([] : List Nat) ++ bs)) from by have := O4.out; rw [show selV [4, 8] us 0 = us 4 from rfl, e4] at this; exact this)
            obtain ⟨nn, hnn⟩ : ∃ nn, nn = (([] : List Nat) ++ bs).length := ⟨_, rfl⟩
            rw [← hnn] at O5
            have HNN := hid hnn
            clear O4 hnn
            obtain ⟨a4, c4, e5⟩ := own_slice O5.out
            subst e5
            have z1 : W.frozen? ⟨g, 0, none⟩ = false := by have hh := (D4.out).hg; simp [World.frozen?, hh]
            have c0 : W.cell? ⟨g, 0, none⟩ = some (.slice none 0 0) := D4.out.c0
            clear hd
            simp only [putF]
            rw [hA, e7, e4]
            go_frame
            go_wp2_with fail
            refine hK.out undef _ _ (by rw [hA]; simp only [putF]; rw [e7, e4]; kernel_rfl) ?_
            have hlt5 := fun k (hk : (Value.ownBlock (.slice a4 nn c4)) = some k) => (O5.out.lt k hk).1
            have hFT := HFT.out
            have hg1 : g < w1.heap.size := hFT g (.inl rfl)
            refine ⟨⟨?_, ?_⟩, F4.out.trans (G := fun k => k = g) (Fr.set rfl) (fun _ _ h => h), by simp; omega⟩
            · show DR _ B g false lf2 ⟨us 4, ([] : List Nat) ++ bs, s⟩ f1
              rw [e4]
              refine (D4.out.set 0 (.slice a4 nn c4)).swap0 ?_ ?_ ?_
              · rw [← HNN.out]; exact own_same (own_low O5.out (by omega)) (fun k hk => Below.heap_setCell W ⟨g, 0, none⟩ _ k (fun e => by have h1 : k = g := e; have := hlt5 k hk; omega))
              · intro e; have := hlt5 g e; omega
              · intro k hk e; have h1 := hlt5 k hk; have h2 := hFT k (.inr (.inr e)); omega
            · intro k hk
              have hk2 : (us 4).ownBlock = some k := hk
              rw [e4] at hk2
              have := hlt5 k hk2; omega
        case htA001 =>
          intro L us W5 hall hR
          have hS := hR.last (fun i hi => match i, hi with | 0, _ => hall 4 (by decide) | 1, _ => hall 8 (by decide))
          have e0 : us 0 = .pointer (some ⟨g, 0, none⟩) := hR.vals 0 (by decide) (hall 0 (by decide))
          have e1 : us 1 = .int .i64 0 := hR.vals 1 (by decide) (hall 1 (by decide))
          have e2 : us 2 = .slice (some ⟨w1.heap.size, 0, none⟩) 0 0 := hR.vals 2 (by decide) (hall 2 (by decide))
          have e3 : us 3 = .slice (some ad2) mb c2 := hR.vals 3 (by decide) (hall 3 (by decide))
          have e5 : us 5 = .pointer (some ⟨g, 0, none⟩) := hR.vals 5 (by decide) (hall 5 (by decide))
          have e6 : us 6 = .pointer (some ⟨g, 0, none⟩) := hR.vals 6 (by decide) (hall 6 (by decide))
          have e7 : us 7 = .pointer (some ⟨g, 0, none⟩) := hR.vals 7 (by decide) (hall 7 (by decide))
          clear hR hall
          obtain ⟨⟨hD, hN⟩, hF, _⟩ := hS
          obtain ⟨v4, e4⟩ : ∃ v4, us 4 = v4 := ⟨_, rfl⟩
          have hD2 : DR W5 B g false lf2 ⟨us 4, ([] : List Nat) ++ bs, s⟩ f1 := hD
          have hN2 : ∀ k, (us 4).ownBlock = some k → w.heap.size ≤ k := hN
          rw [e4] at hD2 hN2
          have D5 := hid hD2
          have F5 := hid hF
          have N5 := hid hN2
          clear hD hF hN hD2 hN2
          simp only [putF]
          rw [hA, e0, e1, e2, e3, e5, e6, e7, e4]
          go_frame
          clear hA e4 e0 e1 e2 e3 e5 e6 e7
          go_wp2_with fail
          go_ret
          exact ⟨rfl, HE.out _ v4 D5.out F5.out N5.out⟩
    · obtain rfl : v = .slice (some ad) b.length c := e1
      obtain ⟨m, hm⟩ : ∃ m, m = b.length := ⟨_, rfl⟩
      have HM := hid hm
      rw [← hm] at hn0
      simp only [← hm] at H HCR HE
      clear hm
      go_enter Try.func69, Try.ntmps69
      go_wp2_with fail
      refine HCR.out.mono ?_
      rintro r w1 ⟨rfl, hd, hf⟩
      have c0 : ∀ o, (w1.alloc o).cell? ⟨g, 0, none⟩ = some (.slice (some ad) m c) := fun o => (DR.still hd ((Below.refl _ _).alloc (Nat.le_refl _) o)).c0
      have HFT := hid (Dsk.foot_lt hd)
      have hz1 := hf.size
      have HC := hid (fun j u (hu : (u8s b)[j]? = some u) => show w1.cell? (ad.add j) = some u from by rcases own_rdb (show w1.ownsRow B 5 1 (.slice (some ad) m c) b.length (u8s b) from hd.o0) with ⟨e, _⟩ | ⟨ad2, c2, e, h9⟩; (· injection e with e; exact absurd e (by simp)); (· injection e with e; injection e with e; subst e; exact h9 j u hu))
      have HD := hid hd
      have HF := hid hf
      clear hd hf
      go_wp2_with (first | (at_builtin; go_loud (refine wpList_append_own_at _ rfl (.tmp 15) (.tmp 21) 70 rfl w1.heap.size 5 i0 (.int .u8 0) 1 1 Try.underlying70 HI.out HZ0.out HZ1.out HZ2.out rfl (by decide) _ 0 [] rfl (World.ownsRow_lit (base := w1.heap.size) w1 #[] 0 (Nat.le_refl _) (by unfold maxLen; omega) rfl) ad m c (u8s b) rfl (by simp [u8s, HM.out]) (fun j u hu => by rw [((Below.refl w1.heap.size w1).alloc (Nat.le_refl _) _).cell (block_lt_of_cell (HC.out j u hu))]; exact HC.out j u hu) (u8s_one _) (by unfold maxLen; omega) (by omega) (by simp) ?_; intro v9 w9 ho1 ho2 ho3 ho4; clear ho3; simp only [Nat.zero_add, List.nil_append] at ho1; obtain ⟨a9, c9, e9⟩ := own_slice ho1; subst e9; have HO1 := hid ho1; have HO2 := hid ho2; clear ho1 ho2 ho4)))
      refine gen_world (fun W2 hW2 => ?_)
      have HB2 := hid (show Below w1.heap.size w1 W2 by rw [hW2]; exact ((Below.refl _ _).alloc (Nat.le_refl _) _).grown HO2.out (by simp) (fun k e => by have e' : some w1.heap.size = some k := e; injection e' with e'; omega))
      have OW := hid (show W2.ownsRow w1.heap.size 5 1 (.slice a9 m c9) m (u8s b) by rw [hW2]; exact HO1.out)
      clear hW2 c0 HO1 HO2
      have D2 := hid (HD.out.still HB2.out)
      have F2 := hid (HF.out.step HB2.out)
      have hz2 := HB2.out.size
      have HBY := hid (HBS.out.frame F2.out (fun k hk => HLT.out k (.inl hk)))
      rcases HBY.out with ⟨e3, e4⟩ | ⟨ad2, c2, e3, hc2⟩
      · obtain rfl : bv = .slice none 0 0 := e3
        obtain rfl : bs = [] := e4
        refine gen_act (fun A0 hA => ?_)
        refine wp_region_by (by kernel_rfl) (by kernel_rfl) [some 23, some 24, some 25, some 26, some 27, some 28, some 29, some 30, none] rfl (by decide) (StR (fun j => ([.pointer (some ⟨g, 0, none⟩), .int .i64 0, .slice a9 m c9, .slice none 0 0, undef, .pointer (some ⟨g, 0, none⟩), .pointer (some ⟨g, 0, none⟩), .pointer (some ⟨g, 0, none⟩), undef] : List Value).getD j undef) [4, 8] (fun kk vv WW => (match kk with | 0 => DR WW B g false lf2 ⟨.slice (some ad) m c, b, s⟩ f1 ∧ WW.ownsRow w1.heap.size 5 1 (.slice a9 m c9) m (u8s b) | 1 => DR WW B g false lf2 ⟨.slice (some ad) m c, b, s⟩ f1 ∧ WW.ownsRow w1.heap.size 5 1 (vv 0) (b ++ ([] : List Nat)).length (u8s (b ++ ([] : List Nat))) | _ => DR WW B g false lf2 ⟨vv 0, b ++ ([] : List Nat), s⟩ f1 ∧ ∀ k, (vv 0).ownBlock = some k → w.heap.size ≤ k) ∧ Fr (fun k => k = g) w WW ∧ W2.heap.size ≤ WW.heap.size)) (selfF A0 _) (putF_self A0 _)
          (StR.start ⟨⟨D2.out.still (Below.refl _ _).drew, own_same OW.out (fun k hk => ((Below.refl W2.heap.size W2).drew).block k (OW.out.lt k hk).2)⟩, F2.out.step (Below.refl _ _).drew, ((Below.refl W2.heap.size W2).drew).size⟩ (fun _ => rfl)) ?hsA010 ?htA010
        case hsA010 =>
          refine ⟨?_, ?_, ?_, ?_, ?_, ?_, ?_, ?_, ?_, trivial⟩
          · intro K L us W hK0 hL hd hR
            have hK := hid (fun v9 A9 h1 (h3 : v9 = .pointer (some ⟨g, 0, none⟩)) => hK0 v9 A9 W h1 (hR.pure (by decide) h3)); clear hK0
            clear hd
            simp only [putF]
            rw [hA]
            go_frame
            go_wp2_with fail
            exact hK.out _ _ (by rw [hA]; simp only [putF]; kernel_rfl) rfl
          · intro K L us W hK0 hL hd hR
            have hK := hid (fun v9 A9 h1 (h3 : v9 = .int .i64 0) => hK0 v9 A9 W h1 (hR.pure (by decide) h3)); clear hK0
            clear hd
            simp only [putF]
            rw [hA]
            go_frame
            go_wp2_with fail
            exact hK.out _ _ (by rw [hA]; simp only [putF]; kernel_rfl) rfl
          · intro K L us W hK0 hL hd hR
            have hK := hid (fun v9 A9 h1 (h3 : v9 = .slice a9 m c9) => hK0 v9 A9 W h1 (hR.pure (by decide) h3)); clear hK0
            clear hd
            simp only [putF]
            rw [hA]
            go_frame
            go_wp2_with fail
            exact hK.out _ _ (by rw [hA]; simp only [putF]; kernel_rfl) rfl
          · intro K L us W hK0 hL hd hR
            have hK := hid (fun v9 A9 h1 (h3 : v9 = .slice none 0 0) => hK0 v9 A9 W h1 (hR.pure (by decide) h3)); clear hK0
            clear hd
            simp only [putF]
            rw [hA]
            go_frame
            go_wp2_with fail
            exact hK.out _ _ (by rw [hA]; simp only [putF]; kernel_rfl) rfl
          · intro K L us W hK0 hL hd hR
            have e2 : us 2 = .slice a9 m c9 := hR.vals 2 (by decide) (all_on hd ⟨2, Ground.data⟩ (by simp) rfl)
            have e3 : us 3 = .slice none 0 0 := hR.vals 3 (by decide) (all_on hd ⟨3, Ground.data⟩ (by simp) rfl)
            have hS := hR.at 0 (by decide) (.inl rfl) hL
            have hK := hid (fun v9 A9 W9 h1 (hS' : (fun kk vv WW => (match kk with | 0 => DR WW B g false lf2 ⟨.slice (some ad) m c, b, s⟩ f1 ∧ WW.ownsRow w1.heap.size 5 1 (.slice a9 m c9) m (u8s b) | 1 => DR WW B g false lf2 ⟨.slice (some ad) m c, b, s⟩ f1 ∧ WW.ownsRow w1.heap.size 5 1 (vv 0) (b ++ ([] : List Nat)).length (u8s (b ++ ([] : List Nat))) | _ => DR WW B g false lf2 ⟨vv 0, b ++ ([] : List Nat), s⟩ f1 ∧ ∀ k, (vv 0).ownBlock = some k → w.heap.size ≤ k) ∧ Fr (fun k => k = g) w WW ∧ W2.heap.size ≤ WW.heap.size) 1 (fun j => if j = 0 then v9 else selV [4, 8] us j) W9) => hK0 v9 A9 W9 h1 (hR.next (by decide) 0 (by decide) (.inl rfl) hL hS')); clear hK0
            obtain ⟨⟨hD, hO⟩, hF, hS'⟩ := hS
            have D4 := hid hD
            have F4 := hid hF
            have O4 := hid hO
            have hz4 := hS'
            clear hD hF hO hS'
            clear hd
            simp only [putF]
            rw [hA, e2, e3]
            go_frame
            go_wp2_with (first | (at_builtin; go_loud (refine wpList_append_own_none rfl (.tmp 25) (.tmp 26) 70 rfl w1.heap.size 5 i0 1 Try.underlying70 HI.out _ m (u8s b) rfl O4.out rfl ?_)))
            refine hK.out (.slice a9 m c9) _ _ (by rw [hA]; simp only [putF]; rw [e2, e3]; kernel_rfl) ?_
            exact ⟨⟨D4.out, by have h9 := O4.out; rw [List.append_nil, ← HM.out]; exact h9⟩, F4.out, hz4⟩
          · intro K L us W hK0 hL hd hR
            have e0 : us 0 = .pointer (some ⟨g, 0, none⟩) := hR.vals 0 (by decide) (all_on hd ⟨0, Ground.data⟩ (by simp) rfl)
            have hK := hid (fun v9 A9 h1 (h3 : v9 = .pointer (some ⟨g, 0, none⟩)) => hK0 v9 A9 W h1 (hR.pure (by decide) h3)); clear hK0
            clear hd
            simp only [putF]
            rw [hA, e0]
            go_frame
            go_wp2_with fail
            exact hK.out _ _ (by rw [hA]; simp only [putF]; rw [e0]; kernel_rfl) rfl
          · intro K L us W hK0 hL hd hR
            have e5 : us 5 = .pointer (some ⟨g, 0, none⟩) := hR.vals 5 (by decide) (all_on hd ⟨5, Ground.data⟩ (by simp) rfl)
            have hK := hid (fun v9 A9 h1 (h3 : v9 = .pointer (some ⟨g, 0, none⟩)) => hK0 v9 A9 W h1 (hR.pure (by decide) h3)); clear hK0
            clear hd
            simp only [putF]
            rw [hA, e5]
            go_frame
            go_wp2_with fail
            exact hK.out _ _ (by rw [hA]; simp only [putF]; rw [e5]; kernel_rfl) rfl
          · intro K L us W hK0 hL hd hR
            have e6 : us 6 = .pointer (some ⟨g, 0, none⟩) := hR.vals 6 (by decide) (all_on hd ⟨6, Ground.data⟩ (by simp) rfl)
            have e1 : us 1 = .int .i64 0 := hR.vals 1 (by decide) (all_on hd ⟨1, Ground.data⟩ (by simp) rfl)
            have hK := hid (fun v9 A9 h1 (h3 : v9 = .pointer (some ⟨g, 0, none⟩)) => hK0 v9 A9 W h1 (hR.pure (by decide) h3)); clear hK0
            clear hd
            simp only [putF]
            rw [hA, e6, e1]
            go_frame
            go_wp2_with fail
            exact hK.out _ _ (by rw [hA]; simp only [putF]; rw [e6, e1]; kernel_rfl) rfl
          · intro K L us W hK0 hL hd hR
            have e7 : us 7 = .pointer (some ⟨g, 0, none⟩) := hR.vals 7 (by decide) (all_on hd ⟨7, Ground.data⟩ (by simp) rfl)
            have hS := hR.at 1 (by decide) (.inr ⟨by decide, all_on hd ⟨4, Ground.data⟩ (by simp) rfl⟩) hL
            have hK := hid (fun v9 A9 W9 h1 (hS' : (fun kk vv WW => (match kk with | 0 => DR WW B g false lf2 ⟨.slice (some ad) m c, b, s⟩ f1 ∧ WW.ownsRow w1.heap.size 5 1 (.slice a9 m c9) m (u8s b) | 1 => DR WW B g false lf2 ⟨.slice (some ad) m c, b, s⟩ f1 ∧ WW.ownsRow w1.heap.size 5 1 (vv 0) (b ++ ([] : List Nat)).length (u8s (b ++ ([] : List Nat))) | _ => DR WW B g false lf2 ⟨vv 0, b ++ ([] : List Nat), s⟩ f1 ∧ ∀ k, (vv 0).ownBlock = some k → w.heap.size ≤ k) ∧ Fr (fun k => k = g) w WW ∧ W2.heap.size ≤ WW.heap.size) 2 (fun j => if j = 1 then v9 else selV [4, 8] us j) W9) => hK0 v9 A9 W9 h1 (hR.next (by decide) 1 (by decide) (.inr ⟨by decide, all_on hd ⟨4, Ground.data⟩ (by simp) rfl⟩) hL hS')); clear hK0
            obtain ⟨⟨hD, hO⟩, hF, hS'⟩ := hS
            have D4 := hid hD
            have F4 := hid hF
            have O4 := hid hO
            have hz4 := hS'
            clear hD hF hO hS'
            obtain ⟨v4, e4⟩ : ∃ v4, us 4 = v4 := ⟨_, rfl⟩
            have O5 := hid (show W.ownsRow w1.heap.size 5 1 v4 (b ++ ([] : List Nat)).length (u8s (b ++ ([] : List Nat))) from by have := O4.out; rw [show selV [4, 8] us 0 = us 4 from rfl, e4] at this; exact this)
            obtain ⟨nn, hnn⟩ : ∃ nn, nn = (b ++ ([] : List Nat)).length := ⟨_, rfl⟩
            rw [← hnn] at O5
            have HNN := hid hnn
            clear O4 hnn
            obtain ⟨a4, c4, e5⟩ := own_slice O5.out
            subst e5
            have z1 : W.frozen? ⟨g, 0, none⟩ = false := by have hh := (D4.out).hg; simp [World.frozen?, hh]
            have c0 : W.cell? ⟨g, 0, none⟩ = some (.slice (some ad) m c) := D4.out.c0
            clear hd
            simp only [putF]
            rw [hA, e7, e4]
            go_frame
            go_wp2_with fail
            refine hK.out undef _ _ (by rw [hA]; simp only [putF]; rw [e7, e4]; kernel_rfl) ?_
            have hlt5 := fun k (hk : (Value.ownBlock (.slice a4 nn c4)) = some k) => (O5.out.lt k hk).1
            have hFT := HFT.out
            have hg1 : g < w1.heap.size := hFT g (.inl rfl)
            refine ⟨⟨?_, ?_⟩, F4.out.trans (G := fun k => k = g) (Fr.set rfl) (fun _ _ h => h), by simp; omega⟩
            · show DR _ B g false lf2 ⟨us 4, b ++ ([] : List Nat), s⟩ f1
              rw [e4]
              refine (D4.out.set 0 (.slice a4 nn c4)).swap0 ?_ ?_ ?_
              · rw [← HNN.out]; exact own_same (own_low O5.out (by omega)) (fun k hk => Below.heap_setCell W ⟨g, 0, none⟩ _ k (fun e => by have h1 : k = g := e; have := hlt5 k hk; omega))
              · intro e; have := hlt5 g e; omega
              · intro k hk e; have h1 := hlt5 k hk; have h2 := hFT k (.inr (.inr e)); omega
            · intro k hk
              have hk2 : (us 4).ownBlock = some k := hk
              rw [e4] at hk2
              have := hlt5 k hk2; omega
        case htA010 =>
          intro L us W5 hall hR
          have hS := hR.last (fun i hi => match i, hi with | 0, _ => hall 4 (by decide) | 1, _ => hall 8 (by decide))
          have e0 : us 0 = .pointer (some ⟨g, 0, none⟩) := hR.vals 0 (by decide) (hall 0 (by decide))
          have e1 : us 1 = .int .i64 0 := hR.vals 1 (by decide) (hall 1 (by decide))
          have e2 : us 2 = .slice a9 m c9 := hR.vals 2 (by decide) (hall 2 (by decide))
          have e3 : us 3 = .slice none 0 0 := hR.vals 3 (by decide) (hall 3 (by decide))
          have e5 : us 5 = .pointer (some ⟨g, 0, none⟩) := hR.vals 5 (by decide) (hall 5 (by decide))
          have e6 : us 6 = .pointer (some ⟨g, 0, none⟩) := hR.vals 6 (by decide) (hall 6 (by decide))
          have e7 : us 7 = .pointer (some ⟨g, 0, none⟩) := hR.vals 7 (by decide) (hall 7 (by decide))
          clear hR hall
          obtain ⟨⟨hD, hN⟩, hF, _⟩ := hS
          obtain ⟨v4, e4⟩ : ∃ v4, us 4 = v4 := ⟨_, rfl⟩
          have hD2 : DR W5 B g false lf2 ⟨us 4, b ++ ([] : List Nat), s⟩ f1 := hD
          have hN2 : ∀ k, (us 4).ownBlock = some k → w.heap.size ≤ k := hN
          rw [e4] at hD2 hN2
          have D5 := hid hD2
          have F5 := hid hF
          have N5 := hid hN2
          clear hD hF hN hD2 hN2
          simp only [putF]
          rw [hA, e0, e1, e2, e3, e5, e6, e7, e4]
          go_frame
          clear hA e4 e0 e1 e2 e3 e5 e6 e7
          go_wp2_with fail
          go_ret
          exact ⟨rfl, HE.out _ v4 D5.out F5.out N5.out⟩
      · obtain ⟨mb, hmb⟩ : ∃ mb, mb = bs.length := ⟨_, rfl⟩
        rw [← hmb] at e3 hnb
        have HMB := hid hmb
        clear hmb
        obtain rfl : bv = .slice (some ad2) mb c2 := e3
        have HC2 := hid hc2
        clear hc2
        refine gen_act (fun A0 hA => ?_)
        refine wp_region_by (by kernel_rfl) (by kernel_rfl) [some 23, some 24, some 25, some 26, some 27, some 28, some 29, some 30, none] rfl (by decide) (StR (fun j => ([.pointer (some ⟨g, 0, none⟩), .int .i64 0, .slice a9 m c9, .slice (some ad2) mb c2, undef, .pointer (some ⟨g, 0, none⟩), .pointer (some ⟨g, 0, none⟩), .pointer (some ⟨g, 0, none⟩), undef] : List Value).getD j undef) [4, 8] (fun kk vv WW => (match kk with | 0 => DR WW B g false lf2 ⟨.slice (some ad) m c, b, s⟩ f1 ∧ WW.ownsRow w1.heap.size 5 1 (.slice a9 m c9) m (u8s b) | 1 => DR WW B g false lf2 ⟨.slice (some ad) m c, b, s⟩ f1 ∧ WW.ownsRow w1.heap.size 5 1 (vv 0) (b ++ bs).length (u8s (b ++ bs)) | _ => DR WW B g false lf2 ⟨vv 0, b ++ bs, s⟩ f1 ∧ ∀ k, (vv 0).ownBlock = some k → w.heap.size ≤ k) ∧ Fr (fun k => k = g) w WW ∧ W2.heap.size ≤ WW.heap.size)) (selfF A0 _) (putF_self A0 _)
          (StR.start ⟨⟨D2.out.still (Below.refl _ _).drew, own_same OW.out (fun k hk => ((Below.refl W2.heap.size W2).drew).block k (OW.out.lt k hk).2)⟩, F2.out.step (Below.refl _ _).drew, ((Below.refl W2.heap.size W2).drew).size⟩ (fun _ => rfl)) ?hsA011 ?htA011
        case hsA011 =>
          refine ⟨?_, ?_, ?_, ?_, ?_, ?_, ?_, ?_, ?_, trivial⟩
          · intro K L us W hK0 hL hd hR
            have hK := hid (fun v9 A9 h1 (h3 : v9 = .pointer (some ⟨g, 0, none⟩)) => hK0 v9 A9 W h1 (hR.pure (by decide) h3)); clear hK0
            clear hd
            simp only [putF]
            rw [hA]
            go_frame
            go_wp2_with fail
            exact hK.out _ _ (by rw [hA]; simp only [putF]; kernel_rfl) rfl
          · intro K L us W hK0 hL hd hR
            have hK := hid (fun v9 A9 h1 (h3 : v9 = .int .i64 0) => hK0 v9 A9 W h1 (hR.pure (by decide) h3)); clear hK0
            clear hd
            simp only [putF]
            rw [hA]
            go_frame
            go_wp2_with fail
            exact hK.out _ _ (by rw [hA]; simp only [putF]; kernel_rfl) rfl
          · intro K L us W hK0 hL hd hR
            have hK := hid (fun v9 A9 h1 (h3 : v9 = .slice a9 m c9) => hK0 v9 A9 W h1 (hR.pure (by decide) h3)); clear hK0
            clear hd
            simp only [putF]
            rw [hA]
            go_frame
            go_wp2_with fail
            exact hK.out _ _ (by rw [hA]; simp only [putF]; kernel_rfl) rfl
          · intro K L us W hK0 hL hd hR
            have hK := hid (fun v9 A9 h1 (h3 : v9 = .slice (some ad2) mb c2) => hK0 v9 A9 W h1 (hR.pure (by decide) h3)); clear hK0
            clear hd
            simp only [putF]
            rw [hA]
            go_frame
            go_wp2_with fail
            exact hK.out _ _ (by rw [hA]; simp only [putF]; kernel_rfl) rfl
          · intro K L us W hK0 hL hd hR
            have e2 : us 2 = .slice a9 m c9 := hR.vals 2 (by decide) (all_on hd ⟨2, Ground.data⟩ (by simp) rfl)
            have e3 : us 3 = .slice (some ad2) mb c2 := hR.vals 3 (by decide) (all_on hd ⟨3, Ground.data⟩ (by simp) rfl)
            have hS := hR.at 0 (by decide) (.inl rfl) hL
            have hK := hid (fun v9 A9 W9 h1 (hS' : (fun kk vv WW => (match kk with | 0 => DR WW B g false lf2 ⟨.slice (some ad) m c, b, s⟩ f1 ∧ WW.ownsRow w1.heap.size 5 1 (.slice a9 m c9) m (u8s b) | 1 => DR WW B g false lf2 ⟨.slice (some ad) m c, b, s⟩ f1 ∧ WW.ownsRow w1.heap.size 5 1 (vv 0) (b ++ bs).length (u8s (b ++ bs)) | _ => DR WW B g false lf2 ⟨vv 0, b ++ bs, s⟩ f1 ∧ ∀ k, (vv 0).ownBlock = some k → w.heap.size ≤ k) ∧ Fr (fun k => k = g) w WW ∧ W2.heap.size ≤ WW.heap.size) 1 (fun j => if j = 0 then v9 else selV [4, 8] us j) W9) => hK0 v9 A9 W9 h1 (hR.next (by decide) 0 (by decide) (.inl rfl) hL hS')); clear hK0
            obtain ⟨⟨hD, hO⟩, hF, hS'⟩ := hS
            have D4 := hid hD
            have F4 := hid hF
            have O4 := hid hO
            have hz4 := hS'
            clear hD hF hO hS'
            have HC4 := hid (show ∀ j u, (u8s bs)[j]? = some u → W.cell? (ad2.add j) = some u from by rcases HBS.out.frame F4.out (fun k hk => HLT.out k (.inl hk)) with ⟨e, _⟩ | ⟨ad3, c3, e, h9⟩; (· injection e with e; exact absurd e (by simp)); (· injection e with e; injection e with e; subst e; exact fun j u hu => (h9 j u hu).1))
            clear hd
            simp only [putF]
            rw [hA, e2, e3]
            go_frame
            go_wp2_with (first | (at_builtin; go_loud (refine wpList_append_own_at _ rfl (.tmp 25) (.tmp 26) 70 rfl w1.heap.size 5 i0 (.int .u8 0) 1 1 Try.underlying70 HI.out HZ0.out HZ1.out HZ2.out rfl (by decide) _ m (u8s b) rfl O4.out ad2 mb c2 (u8s bs) rfl (by simp [u8s, HMB.out]) (fun j u hu => HC4.out j u hu) (u8s_one _) (by unfold maxLen; omega) (by omega) (by omega) ?_; intro v7 w7 ho1 ho2 ho3 ho4; clear ho3; have HO1 := hid ho1; have HO2 := hid ho2; clear ho1 ho2 ho4)))
            refine hK.out v7 _ _ (by rw [hA]; simp only [putF]; rw [e2, e3]; kernel_rfl) ?_
            have hlt4 := fun k (hk : (Value.ownBlock (.slice a9 m c9)) = some k) => (O4.out.lt k hk).1
            have hfr : Fr (fun k => Value.ownBlock (.slice a9 m c9) = some k) W w7 := Fr.grown HO2.out (fun k hk => hk)
            refine ⟨⟨D4.out.frame hfr (fun k hk e => by have h1 := hlt4 k e; have h2 := HFT.out k hk; omega), ?_⟩, F4.out.trans hfr (fun k hk e => by have h1 := hlt4 k e; omega), by have := hfr.size; omega⟩
            have h9 := HO1.out
            have e8 : ((b ++ bs) : List Nat).length = m + mb := by simp [HMB.out, HM.out]
            rw [e8, show u8s (b ++ bs) = u8s b ++ u8s bs by simp [u8s]]
            exact h9
          · intro K L us W hK0 hL hd hR
            have e0 : us 0 = .pointer (some ⟨g, 0, none⟩) := hR.vals 0 (by decide) (all_on hd ⟨0, Ground.data⟩ (by simp) rfl)
            have hK := hid (fun v9 A9 h1 (h3 : v9 = .pointer (some ⟨g, 0, none⟩)) => hK0 v9 A9 W h1 (hR.pure (by decide) h3)); clear hK0
            clear hd
            simp only [putF]
            rw [hA, e0]
            go_frame
            go_wp2_with fail
            exact hK.out _ _ (by rw [hA]; simp only [putF]; rw [e0]; kernel_rfl) rfl
          · intro K L us W hK0 hL hd hR
            have e5 : us 5 = .pointer (some ⟨g, 0, none⟩) := hR.vals 5 (by decide) (all_on hd ⟨5, Ground.data⟩ (by simp) rfl)
            have hK := hid (fun v9 A9 h1 (h3 : v9 = .pointer (some ⟨g, 0, none⟩)) => hK0 v9 A9 W h1 (hR.pure (by decide) h3)); clear hK0
            clear hd
            simp only [putF]
            rw [hA, e5]
            go_frame
            go_wp2_with fail
            exact hK.out _ _ (by rw [hA]; simp only [putF]; rw [e5]; kernel_rfl) rfl
          · intro K L us W hK0 hL hd hR
            have e6 : us 6 = .pointer (some ⟨g, 0, none⟩) := hR.vals 6 (by decide) (all_on hd ⟨6, Ground.data⟩ (by simp) rfl)
            have e1 : us 1 = .int .i64 0 := hR.vals 1 (by decide) (all_on hd ⟨1, Ground.data⟩ (by simp) rfl)
            have hK := hid (fun v9 A9 h1 (h3 : v9 = .pointer (some ⟨g, 0, none⟩)) => hK0 v9 A9 W h1 (hR.pure (by decide) h3)); clear hK0
            clear hd
            simp only [putF]
            rw [hA, e6, e1]
            go_frame
            go_wp2_with fail
            exact hK.out _ _ (by rw [hA]; simp only [putF]; rw [e6, e1]; kernel_rfl) rfl
          · intro K L us W hK0 hL hd hR
            have e7 : us 7 = .pointer (some ⟨g, 0, none⟩) := hR.vals 7 (by decide) (all_on hd ⟨7, Ground.data⟩ (by simp) rfl)
            have hS := hR.at 1 (by decide) (.inr ⟨by decide, all_on hd ⟨4, Ground.data⟩ (by simp) rfl⟩) hL
            have hK := hid (fun v9 A9 W9 h1 (hS' : (fun kk vv WW => (match kk with | 0 => DR WW B g false lf2 ⟨.slice (some ad) m c, b, s⟩ f1 ∧ WW.ownsRow w1.heap.size 5 1 (.slice a9 m c9) m (u8s b) | 1 => DR WW B g false lf2 ⟨.slice (some ad) m c, b, s⟩ f1 ∧ WW.ownsRow w1.heap.size 5 1 (vv 0) (b ++ bs).length (u8s (b ++ bs)) | _ => DR WW B g false lf2 ⟨vv 0, b ++ bs, s⟩ f1 ∧ ∀ k, (vv 0).ownBlock = some k → w.heap.size ≤ k) ∧ Fr (fun k => k = g) w WW ∧ W2.heap.size ≤ WW.heap.size) 2 (fun j => if j = 1 then v9 else selV [4, 8] us j) W9) => hK0 v9 A9 W9 h1 (hR.next (by decide) 1 (by decide) (.inr ⟨by decide, all_on hd ⟨4, Ground.data⟩ (by simp) rfl⟩) hL hS')); clear hK0
            obtain ⟨⟨hD, hO⟩, hF, hS'⟩ := hS
            have D4 := hid hD
            have F4 := hid hF
            have O4 := hid hO
            have hz4 := hS'
            clear hD hF hO hS'
            obtain ⟨v4, e4⟩ : ∃ v4, us 4 = v4 := ⟨_, rfl⟩
            have O5 := hid (show W.ownsRow w1.heap.size 5 1 v4 (b ++ bs).length (u8s (b ++ bs)) from by have := O4.out; rw [show selV [4, 8] us 0 = us 4 from rfl, e4] at this; exact this)
            obtain ⟨nn, hnn⟩ : ∃ nn, nn = (b ++ bs).length := ⟨_, rfl⟩
            rw [← hnn] at O5
            have HNN := hid hnn
            clear O4 hnn
            obtain ⟨a4, c4, e5⟩ := own_slice O5.out
            subst e5
            have z1 : W.frozen? ⟨g, 0, none⟩ = false := by have hh := (D4.out).hg; simp [World.frozen?, hh]
            have c0 : W.cell? ⟨g, 0, none⟩ = some (.slice (some ad) m c) := D4.out.c0
            clear hd
            simp only [putF]
            rw [hA, e7, e4]
            go_frame
            go_wp2_with fail
            refine hK.out undef _ _ (by rw [hA]; simp only [putF]; rw [e7, e4]; kernel_rfl) ?_
            have hlt5 := fun k (hk : (Value.ownBlock (.slice a4 nn c4)) = some k) => (O5.out.lt k hk).1
            have hFT := HFT.out
            have hg1 : g < w1.heap.size := hFT g (.inl rfl)
            refine ⟨⟨?_, ?_⟩, F4.out.trans (G := fun k => k = g) (Fr.set rfl) (fun _ _ h => h), by simp; omega⟩
            · show DR _ B g false lf2 ⟨us 4, b ++ bs, s⟩ f1
              rw [e4]
              refine (D4.out.set 0 (.slice a4 nn c4)).swap0 ?_ ?_ ?_
              · rw [← HNN.out]; exact own_same (own_low O5.out (by omega)) (fun k hk => Below.heap_setCell W ⟨g, 0, none⟩ _ k (fun e => by have h1 : k = g := e; have := hlt5 k hk; omega))
              · intro e; have := hlt5 g e; omega
              · intro k hk e; have h1 := hlt5 k hk; have h2 := hFT k (.inr (.inr e)); omega
            · intro k hk
              have hk2 : (us 4).ownBlock = some k := hk
              rw [e4] at hk2
              have := hlt5 k hk2; omega
        case htA011 =>
          intro L us W5 hall hR
          have hS := hR.last (fun i hi => match i, hi with | 0, _ => hall 4 (by decide) | 1, _ => hall 8 (by decide))
          have e0 : us 0 = .pointer (some ⟨g, 0, none⟩) := hR.vals 0 (by decide) (hall 0 (by decide))
          have e1 : us 1 = .int .i64 0 := hR.vals 1 (by decide) (hall 1 (by decide))
          have e2 : us 2 = .slice a9 m c9 := hR.vals 2 (by decide) (hall 2 (by decide))
          have e3 : us 3 = .slice (some ad2) mb c2 := hR.vals 3 (by decide) (hall 3 (by decide))
          have e5 : us 5 = .pointer (some ⟨g, 0, none⟩) := hR.vals 5 (by decide) (hall 5 (by decide))
          have e6 : us 6 = .pointer (some ⟨g, 0, none⟩) := hR.vals 6 (by decide) (hall 6 (by decide))
          have e7 : us 7 = .pointer (some ⟨g, 0, none⟩) := hR.vals 7 (by decide) (hall 7 (by decide))
          clear hR hall
          obtain ⟨⟨hD, hN⟩, hF, _⟩ := hS
          obtain ⟨v4, e4⟩ : ∃ v4, us 4 = v4 := ⟨_, rfl⟩
          have hD2 : DR W5 B g false lf2 ⟨us 4, b ++ bs, s⟩ f1 := hD
          have hN2 : ∀ k, (us 4).ownBlock = some k → w.heap.size ≤ k := hN
          rw [e4] at hD2 hN2
          have D5 := hid hD2
          have F5 := hid hF
          have N5 := hid hN2
          clear hD hF hN hD2 hN2
          simp only [putF]
          rw [hA, e0, e1, e2, e3, e5, e6, e7, e4]
          go_frame
          clear hA e4 e0 e1 e2 e3 e5 e6 e7
          go_wp2_with fail
          go_ret
          exact ⟨rfl, HE.out _ v4 D5.out F5.out N5.out⟩
  · have HE := hid (fun w' v' (hd : DR w' B g false (spL lf) f0 ⟨v', f1.b ++ bs, f1.s⟩) (hf : Fr (fun k => k = g) w w') (hn : ∀ k, v'.ownBlock = some k → w.heap.size ≤ k) => show ApOkR w w' B g false lf 1 f0 f1 bs from ⟨f0, ⟨v', f1.b ++ bs, f1.s⟩, by simp [hok], rfl, by simp [hok], rfl, by rw [hdn, hlf, show decide (lf = 1) = false from decide_eq_false h1]; exact hd, hf, by rintro k hk (rfl | h | h); (· exact .inl rfl); (· exact .inr (.inl h)); (· exact absurd (hn k h) (by omega))⟩)
    have HBS := hid hbs
    have HLT := hid (Dsk.foot_ge h)
    clear h1 hok hr hdn hlf hbs
    generalize spL lf = lf2 at *
    obtain ⟨v, b, s⟩ := f1
    simp only at hn1
    have H := hid h
    have HRD := hid (own_rdb h.o1)
    clear h
    rcases HRD.out with ⟨e1, e2⟩ | ⟨ad, c, e1, hc⟩
    · obtain rfl : v = .slice none 0 0 := e1
      obtain rfl : b = [] := e2
      go_enter Try.func69, Try.ntmps69
      go_wp2_with fail
      refine HCR.out.mono ?_
      rintro r w1 ⟨rfl, hd, hf⟩
      have c0 : ∀ o, (w1.alloc o).cell? ⟨g, 1, none⟩ = some (.slice none 0 0) := fun o => (DR.still hd ((Below.refl _ _).alloc (Nat.le_refl _) o)).c1
      have HFT := hid (Dsk.foot_lt hd)
      have hz1 := hf.size
      have HD := hid hd
      have HF := hid hf
      clear hd hf
      go_wp2_with (first | (at_builtin; go_loud (refine wpList_append_own_none rfl (.tmp 15) (.tmp 21) 70 rfl w1.heap.size 5 i0 1 Try.underlying70 HI.out _ 0 [] rfl (World.ownsRow_lit (base := w1.heap.size) w1 #[] 0 (Nat.le_refl _) (by unfold maxLen; omega) rfl) rfl ?_)))
      refine gen_world (fun W2 hW2 => ?_)
      have HB2 := hid (show Below w1.heap.size w1 W2 by rw [hW2]; exact (Below.refl _ _).alloc (Nat.le_refl _) _)
      have OW := hid (show W2.ownsRow w1.heap.size 5 1 (.slice (some ⟨w1.heap.size, 0, none⟩) 0 0) 0 (u8s []) by rw [hW2]; exact World.ownsRow_lit (base := w1.heap.size) w1 #[] 0 (Nat.le_refl _) (by unfold maxLen; omega) rfl)
      clear hW2 c0
      have D2 := hid (HD.out.still HB2.out)
      have F2 := hid (HF.out.step HB2.out)
      have hz2 := HB2.out.size
      have HBY := hid (HBS.out.frame F2.out (fun k hk => HLT.out k (.inl hk)))
      rcases HBY.out with ⟨e3, e4⟩ | ⟨ad2, c2, e3, hc2⟩
      · obtain rfl : bv = .slice none 0 0 := e3
        obtain rfl : bs = [] := e4
        refine gen_act (fun A0 hA => ?_)
        refine wp_region_by (by kernel_rfl) (by kernel_rfl) [some 23, some 24, some 25, some 26, some 27, some 28, some 29, some 30, none] rfl (by decide) (StR (fun j => ([.pointer (some ⟨g, 0, none⟩), .int .i64 1, .slice (some ⟨w1.heap.size, 0, none⟩) 0 0, .slice none 0 0, undef, .pointer (some ⟨g, 0, none⟩), .pointer (some ⟨g, 0, none⟩), .pointer (some ⟨g, 1, none⟩), undef] : List Value).getD j undef) [4, 8] (fun kk vv WW => (match kk with | 0 => DR WW B g false lf2 f0 ⟨.slice none 0 0, ([] : List Nat), s⟩ ∧ WW.ownsRow w1.heap.size 5 1 (.slice (some ⟨w1.heap.size, 0, none⟩) 0 0) 0 (u8s ([] : List Nat)) | 1 => DR WW B g false lf2 f0 ⟨.slice none 0 0, ([] : List Nat), s⟩ ∧ WW.ownsRow w1.heap.size 5 1 (vv 0) (([] : List Nat) ++ ([] : List Nat)).length (u8s (([] : List Nat) ++ ([] : List Nat))) | _ => DR WW B g false lf2 f0 ⟨vv 0, ([] : List Nat) ++ ([] : List Nat), s⟩ ∧ ∀ k, (vv 0).ownBlock = some k → w.heap.size ≤ k) ∧ Fr (fun k => k = g) w WW ∧ W2.heap.size ≤ WW.heap.size)) (selfF A0 _) (putF_self A0 _)
          (StR.start ⟨⟨D2.out.still (Below.refl _ _).drew, own_same OW.out (fun k hk => ((Below.refl W2.heap.size W2).drew).block k (OW.out.lt k hk).2)⟩, F2.out.step (Below.refl _ _).drew, ((Below.refl W2.heap.size W2).drew).size⟩ (fun _ => rfl)) ?hsA100 ?htA100
        case hsA100 =>
          refine ⟨?_, ?_, ?_, ?_, ?_, ?_, ?_, ?_, ?_, trivial⟩
          · intro K L us W hK0 hL hd hR
            have hK := hid (fun v9 A9 h1 (h3 : v9 = .pointer (some ⟨g, 0, none⟩)) => hK0 v9 A9 W h1 (hR.pure (by decide) h3)); clear hK0
            clear hd
            simp only [putF]
            rw [hA]
            go_frame
            go_wp2_with fail
            exact hK.out _ _ (by rw [hA]; simp only [putF]; kernel_rfl) rfl
          · intro K L us W hK0 hL hd hR
            have hK := hid (fun v9 A9 h1 (h3 : v9 = .int .i64 1) => hK0 v9 A9 W h1 (hR.pure (by decide) h3)); clear hK0
            clear hd
            simp only [putF]
            rw [hA]
            go_frame
            go_wp2_with fail
            exact hK.out _ _ (by rw [hA]; simp only [putF]; kernel_rfl) rfl
          · intro K L us W hK0 hL hd hR
            have hK := hid (fun v9 A9 h1 (h3 : v9 = .slice (some ⟨w1.heap.size, 0, none⟩) 0 0) => hK0 v9 A9 W h1 (hR.pure (by decide) h3)); clear hK0
            clear hd
            simp only [putF]
            rw [hA]
            go_frame
            go_wp2_with fail
            exact hK.out _ _ (by rw [hA]; simp only [putF]; kernel_rfl) rfl
          · intro K L us W hK0 hL hd hR
            have hK := hid (fun v9 A9 h1 (h3 : v9 = .slice none 0 0) => hK0 v9 A9 W h1 (hR.pure (by decide) h3)); clear hK0
            clear hd
            simp only [putF]
            rw [hA]
            go_frame
            go_wp2_with fail
            exact hK.out _ _ (by rw [hA]; simp only [putF]; kernel_rfl) rfl
          · intro K L us W hK0 hL hd hR
            have e2 : us 2 = .slice (some ⟨w1.heap.size, 0, none⟩) 0 0 := hR.vals 2 (by decide) (all_on hd ⟨2, Ground.data⟩ (by simp) rfl)
            have e3 : us 3 = .slice none 0 0 := hR.vals 3 (by decide) (all_on hd ⟨3, Ground.data⟩ (by simp) rfl)
            have hS := hR.at 0 (by decide) (.inl rfl) hL
            have hK := hid (fun v9 A9 W9 h1 (hS' : (fun kk vv WW => (match kk with | 0 => DR WW B g false lf2 f0 ⟨.slice none 0 0, ([] : List Nat), s⟩ ∧ WW.ownsRow w1.heap.size 5 1 (.slice (some ⟨w1.heap.size, 0, none⟩) 0 0) 0 (u8s ([] : List Nat)) | 1 => DR WW B g false lf2 f0 ⟨.slice none 0 0, ([] : List Nat), s⟩ ∧ WW.ownsRow w1.heap.size 5 1 (vv 0) (([] : List Nat) ++ ([] : List Nat)).length (u8s (([] : List Nat) ++ ([] : List Nat))) | _ => DR WW B g false lf2 f0 ⟨vv 0, ([] : List Nat) ++ ([] : List Nat), s⟩ ∧ ∀ k, (vv 0).ownBlock = some k → w.heap.size ≤ k) ∧ Fr (fun k => k = g) w WW ∧ W2.heap.size ≤ WW.heap.size) 1 (fun j => if j = 0 then v9 else selV [4, 8] us j) W9) => hK0 v9 A9 W9 h1 (hR.next (by decide) 0 (by decide) (.inl rfl) hL hS')); clear hK0
            obtain ⟨⟨hD, hO⟩, hF, hS'⟩ := hS
            have D4 := hid hD
            have F4 := hid hF
            have O4 := hid hO
            have hz4 := hS'
            clear hD hF hO hS'
            clear hd
            simp only [putF]
            rw [hA, e2, e3]
            go_frame
            go_wp2_with (first | (at_builtin; go_loud (refine wpList_append_own_none rfl (.tmp 25) (.tmp 26) 70 rfl w1.heap.size 5 i0 1 Try.underlying70 HI.out _ 0 (u8s ([] : List Nat)) rfl O4.out rfl ?_)))
            refine hK.out (.slice (some ⟨w1.heap.size, 0, none⟩) 0 0) _ _ (by rw [hA]; simp only [putF]; rw [e2, e3]; kernel_rfl) ?_
            exact ⟨⟨D4.out, by have h9 := O4.out; simpa [u8s] using h9⟩, F4.out, hz4⟩
          · intro K L us W hK0 hL hd hR
            have e0 : us 0 = .pointer (some ⟨g, 0, none⟩) := hR.vals 0 (by decide) (all_on hd ⟨0, Ground.data⟩ (by simp) rfl)
            have hK := hid (fun v9 A9 h1 (h3 : v9 = .pointer (some ⟨g, 0, none⟩)) => hK0 v9 A9 W h1 (hR.pure (by decide) h3)); clear hK0
            clear hd
            simp only [putF]
            rw [hA, e0]
            go_frame
            go_wp2_with fail
            exact hK.out _ _ (by rw [hA]; simp only [putF]; rw [e0]; kernel_rfl) rfl
          · intro K L us W hK0 hL hd hR
            have e5 : us 5 = .pointer (some ⟨g, 0, none⟩) := hR.vals 5 (by decide) (all_on hd ⟨5, Ground.data⟩ (by simp) rfl)
            have hK := hid (fun v9 A9 h1 (h3 : v9 = .pointer (some ⟨g, 0, none⟩)) => hK0 v9 A9 W h1 (hR.pure (by decide) h3)); clear hK0
            clear hd
            simp only [putF]
            rw [hA, e5]
            go_frame
            go_wp2_with fail
            exact hK.out _ _ (by rw [hA]; simp only [putF]; rw [e5]; kernel_rfl) rfl
          · intro K L us W hK0 hL hd hR
            have e6 : us 6 = .pointer (some ⟨g, 0, none⟩) := hR.vals 6 (by decide) (all_on hd ⟨6, Ground.data⟩ (by simp) rfl)
            have e1 : us 1 = .int .i64 1 := hR.vals 1 (by decide) (all_on hd ⟨1, Ground.data⟩ (by simp) rfl)
            have hK := hid (fun v9 A9 h1 (h3 : v9 = .pointer (some ⟨g, 1, none⟩)) => hK0 v9 A9 W h1 (hR.pure (by decide) h3)); clear hK0
            clear hd
            simp only [putF]
            rw [hA, e6, e1]
            go_frame
            go_wp2_with fail
            exact hK.out _ _ (by rw [hA]; simp only [putF]; rw [e6, e1]; kernel_rfl) rfl
          · intro K L us W hK0 hL hd hR
            have e7 : us 7 = .pointer (some ⟨g, 1, none⟩) := hR.vals 7 (by decide) (all_on hd ⟨7, Ground.data⟩ (by simp) rfl)
            have hS := hR.at 1 (by decide) (.inr ⟨by decide, all_on hd ⟨4, Ground.data⟩ (by simp) rfl⟩) hL
            have hK := hid (fun v9 A9 W9 h1 (hS' : (fun kk vv WW => (match kk with | 0 => DR WW B g false lf2 f0 ⟨.slice none 0 0, ([] : List Nat), s⟩ ∧ WW.ownsRow w1.heap.size 5 1 (.slice (some ⟨w1.heap.size, 0, none⟩) 0 0) 0 (u8s ([] : List Nat)) | 1 => DR WW B g false lf2 f0 ⟨.slice none 0 0, ([] : List Nat), s⟩ ∧ WW.ownsRow w1.heap.size 5 1 (vv 0) (([] : List Nat) ++ ([] : List Nat)).length (u8s (([] : List Nat) ++ ([] : List Nat))) | _ => DR WW B g false lf2 f0 ⟨vv 0, ([] : List Nat) ++ ([] : List Nat), s⟩ ∧ ∀ k, (vv 0).ownBlock = some k → w.heap.size ≤ k) ∧ Fr (fun k => k = g) w WW ∧ W2.heap.size ≤ WW.heap.size) 2 (fun j => if j = 1 then v9 else selV [4, 8] us j) W9) => hK0 v9 A9 W9 h1 (hR.next (by decide) 1 (by decide) (.inr ⟨by decide, all_on hd ⟨4, Ground.data⟩ (by simp) rfl⟩) hL hS')); clear hK0
            obtain ⟨⟨hD, hO⟩, hF, hS'⟩ := hS
            have D4 := hid hD
            have F4 := hid hF
            have O4 := hid hO
            have hz4 := hS'
            clear hD hF hO hS'
            obtain ⟨v4, e4⟩ : ∃ v4, us 4 = v4 := ⟨_, rfl⟩
            have O5 := hid (show W.ownsRow w1.heap.size 5 1 v4 (([] : List Nat) ++ ([] : List Nat)).length (u8s (([] : List Nat) ++ ([] : List Nat))) from by have := O4.out; rw [show selV [4, 8] us 0 = us 4 from rfl, e4] at this; exact this)
            obtain ⟨nn, hnn⟩ : ∃ nn, nn = (([] : List Nat) ++ ([] : List Nat)).length := ⟨_, rfl⟩
            rw [← hnn] at O5
            have HNN := hid hnn
            clear O4 hnn
            obtain ⟨a4, c4, e5⟩ := own_slice O5.out
            subst e5
            have z1 : W.frozen? ⟨g, 1, none⟩ = false := by have hh := (D4.out).hg; simp [World.frozen?, hh]
            have c0 : W.cell? ⟨g, 1, none⟩ = some (.slice none 0 0) := D4.out.c1
            clear hd
            simp only [putF]
            rw [hA, e7, e4]
            go_frame
            go_wp2_with fail
            refine hK.out undef _ _ (by rw [hA]; simp only [putF]; rw [e7, e4]; kernel_rfl) ?_
            have hlt5 := fun k (hk : (Value.ownBlock (.slice a4 nn c4)) = some k) => (O5.out.lt k hk).1
            have hFT := HFT.out
            have hg1 : g < w1.heap.size := hFT g (.inl rfl)
            refine ⟨⟨?_, ?_⟩, F4.out.trans (G := fun k => k = g) (Fr.set rfl) (fun _ _ h => h), by simp; omega⟩
            · show DR _ B g false lf2 f0 ⟨us 4, ([] : List Nat) ++ ([] : List Nat), s⟩
              rw [e4]
              refine (D4.out.set 1 (.slice a4 nn c4)).swap1 ?_ ?_ ?_
              · rw [← HNN.out]; exact own_same (own_low O5.out (by omega)) (fun k hk => Below.heap_setCell W ⟨g, 1, none⟩ _ k (fun e => by have h1 : k = g := e; have := hlt5 k hk; omega))
              · intro e; have := hlt5 g e; omega
              · intro k hk e; have h1 := hlt5 k e; have h2 := hFT k (.inr (.inl hk)); omega
            · intro k hk
              have hk2 : (us 4).ownBlock = some k := hk
              rw [e4] at hk2
              have := hlt5 k hk2; omega
        case htA100 =>
          intro L us W5 hall hR
          have hS := hR.last (fun i hi => match i, hi with | 0, _ => hall 4 (by decide) | 1, _ => hall 8 (by decide))
          have e0 : us 0 = .pointer (some ⟨g, 0, none⟩) := hR.vals 0 (by decide) (hall 0 (by decide))
          have e1 : us 1 = .int .i64 1 := hR.vals 1 (by decide) (hall 1 (by decide))
          have e2 : us 2 = .slice (some ⟨w1.heap.size, 0, none⟩) 0 0 := hR.vals 2 (by decide) (hall 2 (by decide))
          have e3 : us 3 = .slice none 0 0 := hR.vals 3 (by decide) (hall 3 (by decide))
          have e5 : us 5 = .pointer (some ⟨g, 0, none⟩) := hR.vals 5 (by decide) (hall 5 (by decide))
          have e6 : us 6 = .pointer (some ⟨g, 0, none⟩) := hR.vals 6 (by decide) (hall 6 (by decide))
          have e7 : us 7 = .pointer (some ⟨g, 1, none⟩) := hR.vals 7 (by decide) (hall 7 (by decide))
          clear hR hall
          obtain ⟨⟨hD, hN⟩, hF, _⟩ := hS
          obtain ⟨v4, e4⟩ : ∃ v4, us 4 = v4 := ⟨_, rfl⟩
          have hD2 : DR W5 B g false lf2 f0 ⟨us 4, ([] : List Nat) ++ ([] : List Nat), s⟩ := hD
          have hN2 : ∀ k, (us 4).ownBlock = some k → w.heap.size ≤ k := hN
          rw [e4] at hD2 hN2
          have D5 := hid hD2
          have F5 := hid hF
          have N5 := hid hN2
          clear hD hF hN hD2 hN2
          simp only [putF]
          rw [hA, e0, e1, e2, e3, e5, e6, e7, e4]
          go_frame
          clear hA e4 e0 e1 e2 e3 e5 e6 e7
          go_wp2_with fail
          go_ret
          exact ⟨rfl, HE.out _ v4 D5.out F5.out N5.out⟩
      · obtain ⟨mb, hmb⟩ : ∃ mb, mb = bs.length := ⟨_, rfl⟩
        rw [← hmb] at e3 hnb
        have HMB := hid hmb
        clear hmb
        obtain rfl : bv = .slice (some ad2) mb c2 := e3
        have HC2 := hid hc2
        clear hc2
        refine gen_act (fun A0 hA => ?_)
        refine wp_region_by (by kernel_rfl) (by kernel_rfl) [some 23, some 24, some 25, some 26, some 27, some 28, some 29, some 30, none] rfl (by decide) (StR (fun j => ([.pointer (some ⟨g, 0, none⟩), .int .i64 1, .slice (some ⟨w1.heap.size, 0, none⟩) 0 0, .slice (some ad2) mb c2, undef, .pointer (some ⟨g, 0, none⟩), .pointer (some ⟨g, 0, none⟩), .pointer (some ⟨g, 1, none⟩), undef] : List Value).getD j undef) [4, 8] (fun kk vv WW => (match kk with | 0 => DR WW B g false lf2 f0 ⟨.slice none 0 0, ([] : List Nat), s⟩ ∧ WW.ownsRow w1.heap.size 5 1 (.slice (some ⟨w1.heap.size, 0, none⟩) 0 0) 0 (u8s ([] : List Nat)) | 1 => DR WW B g false lf2 f0 ⟨.slice none 0 0, ([] : List Nat), s⟩ ∧ WW.ownsRow w1.heap.size 5 1 (vv 0) (([] : List Nat) ++ bs).length (u8s (([] : List Nat) ++ bs)) | _ => DR WW B g false lf2 f0 ⟨vv 0, ([] : List Nat) ++ bs, s⟩ ∧ ∀ k, (vv 0).ownBlock = some k → w.heap.size ≤ k) ∧ Fr (fun k => k = g) w WW ∧ W2.heap.size ≤ WW.heap.size)) (selfF A0 _) (putF_self A0 _)
          (StR.start ⟨⟨D2.out.still (Below.refl _ _).drew, own_same OW.out (fun k hk => ((Below.refl W2.heap.size W2).drew).block k (OW.out.lt k hk).2)⟩, F2.out.step (Below.refl _ _).drew, ((Below.refl W2.heap.size W2).drew).size⟩ (fun _ => rfl)) ?hsA101 ?htA101
        case hsA101 =>
          refine ⟨?_, ?_, ?_, ?_, ?_, ?_, ?_, ?_, ?_, trivial⟩
          · intro K L us W hK0 hL hd hR
            have hK := hid (fun v9 A9 h1 (h3 : v9 = .pointer (some ⟨g, 0, none⟩)) => hK0 v9 A9 W h1 (hR.pure (by decide) h3)); clear hK0
            clear hd
            simp only [putF]
            rw [hA]
            go_frame
            go_wp2_with fail
            exact hK.out _ _ (by rw [hA]; simp only [putF]; kernel_rfl) rfl
          · intro K L us W hK0 hL hd hR
            have hK := hid (fun v9 A9 h1 (h3 : v9 = .int .i64 1) => hK0 v9 A9 W h1 (hR.pure (by decide) h3)); clear hK0
            clear hd
            simp only [putF]
            rw [hA]
            go_frame
            go_wp2_with fail
            exact hK.out _ _ (by rw [hA]; simp only [putF]; kernel_rfl) rfl
          · intro K L us W hK0 hL hd hR
            have hK := hid (fun v9 A9 h1 (h3 : v9 = .slice (some ⟨w1.heap.size, 0, none⟩) 0 0) => hK0 v9 A9 W h1 (hR.pure (by decide) h3)); clear hK0
            clear hd
            simp only [putF]
            rw [hA]
            go_frame
            go_wp2_with fail
            exact hK.out _ _ (by rw [hA]; simp only [putF]; kernel_rfl) rfl
          · intro K L us W hK0 hL hd hR
            have hK := hid (fun v9 A9 h1 (h3 : v9 = .slice (some ad2) mb c2) => hK0 v9 A9 W h1 (hR.pure (by decide) h3)); clear hK0
            clear hd
            simp only [putF]
            rw [hA]
            go_frame
            go_wp2_with fail
            exact hK.out _ _ (by rw [hA]; simp only [putF]; kernel_rfl) rfl
          · intro K L us W hK0 hL hd hR
            have e2 : us 2 = .slice (some ⟨w1.heap.size, 0, none⟩) 0 0 := hR.vals 2 (by decide) (all_on hd ⟨2, Ground.data⟩ (by simp) rfl)
            have e3 : us 3 = .slice (some ad2) mb c2 := hR.vals 3 (by decide) (all_on hd ⟨3, Ground.data⟩ (by simp) rfl)
            have hS := hR.at 0 (by decide) (.inl rfl) hL
            have hK := hid (fun v9 A9 W9 h1 (hS' : (fun kk vv WW => (match kk with | 0 => DR WW B g false lf2 f0 ⟨.slice none 0 0, ([] : List Nat), s⟩ ∧ WW.ownsRow w1.heap.size 5 1 (.slice (some ⟨w1.heap.size, 0, none⟩) 0 0) 0 (u8s ([] : List Nat)) | 1 => DR WW B g false lf2 f0 ⟨.slice none 0 0, ([] : List Nat), s⟩ ∧ WW.ownsRow w1.heap.size 5 1 (vv 0) (([] : List Nat) ++ bs).length (u8s (([] : List Nat) ++ bs)) | _ => DR WW B g false lf2 f0 ⟨vv 0, ([] : List Nat) ++ bs, s⟩ ∧ ∀ k, (vv 0).ownBlock = some k → w.heap.size ≤ k) ∧ Fr (fun k => k = g) w WW ∧ W2.heap.size ≤ WW.heap.size) 1 (fun j => if j = 0 then v9 else selV [4, 8] us j) W9) => hK0 v9 A9 W9 h1 (hR.next (by decide) 0 (by decide) (.inl rfl) hL hS')); clear hK0
            obtain ⟨⟨hD, hO⟩, hF, hS'⟩ := hS
            have D4 := hid hD
            have F4 := hid hF
            have O4 := hid hO
            have hz4 := hS'
            clear hD hF hO hS'
            have HC4 := hid (show ∀ j u, (u8s bs)[j]? = some u → W.cell? (ad2.add j) = some u from by rcases HBS.out.frame F4.out (fun k hk => HLT.out k (.inl hk)) with ⟨e, _⟩ | ⟨ad3, c3, e, h9⟩; (· injection e with e; exact absurd e (by simp)); (· injection e with e; injection e with e; subst e; exact fun j u hu => (h9 j u hu).1))
            clear hd
            simp only [putF]
            rw [hA, e2, e3]
            go_frame
            go_wp2_with (first | (at_builtin; go_loud (refine wpList_append_own_at _ rfl (.tmp 25) (.tmp 26) 70 rfl w1.heap.size 5 i0 (.int .u8 0) 1 1 Try.underlying70 HI.out HZ0.out HZ1.out HZ2.out rfl (by decide) _ 0 (u8s ([] : List Nat)) rfl O4.out ad2 mb c2 (u8s bs) rfl (by simp [u8s, HMB.out]) (fun j u hu => HC4.out j u hu) (u8s_one _) (by unfold maxLen; omega) (by omega) (by omega) ?_; intro v7 w7 ho1 ho2 ho3 ho4; clear ho3; have HO1 := hid ho1; have HO2 := hid ho2; clear ho1 ho2 ho4)))
            refine hK.out v7 _ _ (by rw [hA]; simp only [putF]; rw [e2, e3]; kernel_rfl) ?_
            have hlt4 := fun k (hk : (Value.ownBlock (.slice (some ⟨w1.heap.size, 0, none⟩) 0 0)) = some k) => (O4.out.lt k hk).1
            have hfr : Fr (fun k => Value.ownBlock (.slice (some ⟨w1.heap.size, 0, none⟩) 0 0) = some k) W w7 := Fr.grown HO2.out (fun k hk => hk)
            refine ⟨⟨D4.out.frame hfr (fun k hk e => by have h1 := hlt4 k e; have h2 := HFT.out k hk; omega), ?_⟩, F4.out.trans hfr (fun k hk e => by have h1 := hlt4 k e; omega), by have := hfr.size; omega⟩
            have h9 := HO1.out
            have e8 : ((([] : List Nat) ++ bs) : List Nat).length = 0 + mb := by simp [HMB.out]
            rw [e8, show u8s (([] : List Nat) ++ bs) = u8s ([] : List Nat) ++ u8s bs by simp [u8s]]
            exact h9
          · intro K L us W hK0 hL hd hR
            have e0 : us 0 = .pointer (some ⟨g, 0, none⟩) := hR.vals 0 (by decide) (all_on hd ⟨0, Ground.data⟩ (by simp) rfl)
            have hK := hid (fun v9 A9 h1 (h3 : v9 = .pointer (some ⟨g, 0, none⟩)) => hK0 v9 A9 W h1 (hR.pure (by decide) h3)); clear hK0
            clear hd
            simp only [putF]
            rw [hA, e0]
            go_frame
            go_wp2_with fail
            exact hK.out _ _ (by rw [hA]; simp only [putF]; rw [e0]; kernel_rfl) rfl
          · intro K L us W hK0 hL hd hR
            have e5 : us 5 = .pointer (some ⟨g, 0, none⟩) := hR.vals 5 (by decide) (all_on hd ⟨5, Ground.data⟩ (by simp) rfl)
            have hK := hid (fun v9 A9 h1 (h3 : v9 = .pointer (some ⟨g, 0, none⟩)) => hK0 v9 A9 W h1 (hR.pure (by decide) h3)); clear hK0
            clear hd
            simp only [putF]
            rw [hA, e5]
            go_frame
            go_wp2_with fail
            exact hK.out _ _ (by rw [hA]; simp only [putF]; rw [e5]; kernel_rfl) rfl
          · intro K L us W hK0 hL hd hR
            have e6 : us 6 = .pointer (some ⟨g, 0, none⟩) := hR.vals 6 (by decide) (all_on hd ⟨6, Ground.data⟩ (by simp) rfl)
            have e1 : us 1 = .int .i64 1 := hR.vals 1 (by decide) (all_on hd ⟨1, Ground.data⟩ (by simp) rfl)
            have hK := hid (fun v9 A9 h1 (h3 : v9 = .pointer (some ⟨g, 1, none⟩)) => hK0 v9 A9 W h1 (hR.pure (by decide) h3)); clear hK0
            clear hd
            simp only [putF]
            rw [hA, e6, e1]
            go_frame
            go_wp2_with fail
            exact hK.out _ _ (by rw [hA]; simp only [putF]; rw [e6, e1]; kernel_rfl) rfl
          · intro K L us W hK0 hL hd hR
            have e7 : us 7 = .pointer (some ⟨g, 1, none⟩) := hR.vals 7 (by decide) (all_on hd ⟨7, Ground.data⟩ (by simp) rfl)
            have hS := hR.at 1 (by decide) (.inr ⟨by decide, all_on hd ⟨4, Ground.data⟩ (by simp) rfl⟩) hL
            have hK := hid (fun v9 A9 W9 h1 (hS' : (fun kk vv WW => (match kk with | 0 => DR WW B g false lf2 f0 ⟨.slice none 0 0, ([] : List Nat), s⟩ ∧ WW.ownsRow w1.heap.size 5 1 (.slice (some ⟨w1.heap.size, 0, none⟩) 0 0) 0 (u8s ([] : List Nat)) | 1 => DR WW B g false lf2 f0 ⟨.slice none 0 0, ([] : List Nat), s⟩ ∧ WW.ownsRow w1.heap.size 5 1 (vv 0) (([] : List Nat) ++ bs).length (u8s (([] : List Nat) ++ bs)) | _ => DR WW B g false lf2 f0 ⟨vv 0, ([] : List Nat) ++ bs, s⟩ ∧ ∀ k, (vv 0).ownBlock = some k → w.heap.size ≤ k) ∧ Fr (fun k => k = g) w WW ∧ W2.heap.size ≤ WW.heap.size) 2 (fun j => if j = 1 then v9 else selV [4, 8] us j) W9) => hK0 v9 A9 W9 h1 (hR.next (by decide) 1 (by decide) (.inr ⟨by decide, all_on hd ⟨4, Ground.data⟩ (by simp) rfl⟩) hL hS')); clear hK0
            obtain ⟨⟨hD, hO⟩, hF, hS'⟩ := hS
            have D4 := hid hD
            have F4 := hid hF
            have O4 := hid hO
            have hz4 := hS'
            clear hD hF hO hS'
            obtain ⟨v4, e4⟩ : ∃ v4, us 4 = v4 := ⟨_, rfl⟩
            have O5 := hid (show W.ownsRow w1.heap.size 5 1 v4 (([] : List Nat) ++ bs).length (u8s (([] : List Nat) ++ bs)) from by have := O4.out; rw [show selV [4, 8] us 0 = us 4 from rfl, e4] at this; exact this)
            obtain ⟨nn, hnn⟩ : ∃ nn, nn = (([] : List Nat) ++ bs).length := ⟨_, rfl⟩
            rw [← hnn] at O5
            have HNN := hid hnn
            clear O4 hnn
            obtain ⟨a4, c4, e5⟩ := own_slice O5.out
            subst e5
            have z1 : W.frozen? ⟨g, 1, none⟩ = false := by have hh := (D4.out).hg; simp [World.frozen?, hh]
            have c0 : W.cell? ⟨g, 1, none⟩ = some (.slice none 0 0) := D4.out.c1
            clear hd
            simp only [putF]
            rw [hA, e7, e4]
            go_frame
            go_wp2_with fail
            refine hK.out undef _ _ (by rw [hA]; simp only [putF]; rw [e7, e4]; kernel_rfl) ?_
            have hlt5 := fun k (hk : (Value.ownBlock (.slice a4 nn c4)) = some k) => (O5.out.lt k hk).1
            have hFT := HFT.out
            have hg1 : g < w1.heap.size := hFT g (.inl rfl)
            refine ⟨⟨?_, ?_⟩, F4.out.trans (G := fun k => k = g) (Fr.set rfl) (fun _ _ h => h), by simp; omega⟩
            · show DR _ B g false lf2 f0 ⟨us 4, ([] : List Nat) ++ bs, s⟩
              rw [e4]
              refine (D4.out.set 1 (.slice a4 nn c4)).swap1 ?_ ?_ ?_
              · rw [← HNN.out]; exact own_same (own_low O5.out (by omega)) (fun k hk => Below.heap_setCell W ⟨g, 1, none⟩ _ k (fun e => by have h1 : k = g := e; have := hlt5 k hk; omega))
              · intro e; have := hlt5 g e; omega
              · intro k hk e; have h1 := hlt5 k e; have h2 := hFT k (.inr (.inl hk)); omega
            · intro k hk
              have hk2 : (us 4).ownBlock = some k := hk
              rw [e4] at hk2
              have := hlt5 k hk2; omega
        case htA101 =>
          intro L us W5 hall hR
          have hS := hR.last (fun i hi => match i, hi with | 0, _ => hall 4 (by decide) | 1, _ => hall 8 (by decide))
          have e0 : us 0 = .pointer (some ⟨g, 0, none⟩) := hR.vals 0 (by decide) (hall 0 (by decide))
          have e1 : us 1 = .int .i64 1 := hR.vals 1 (by decide) (hall 1 (by decide))
          have e2 : us 2 = .slice (some ⟨w1.heap.size, 0, none⟩) 0 0 := hR.vals 2 (by decide) (hall 2 (by decide))
          have e3 : us 3 = .slice (some ad2) mb c2 := hR.vals 3 (by decide) (hall 3 (by decide))
          have e5 : us 5 = .pointer (some ⟨g, 0, none⟩) := hR.vals 5 (by decide) (hall 5 (by decide))
          have e6 : us 6 = .pointer (some ⟨g, 0, none⟩) := hR.vals 6 (by decide) (hall 6 (by decide))
          have e7 : us 7 = .pointer (some ⟨g, 1, none⟩) := hR.vals 7 (by decide) (hall 7 (by decide))
          clear hR hall
          obtain ⟨⟨hD, hN⟩, hF, _⟩ := hS
          obtain ⟨v4, e4⟩ : ∃ v4, us 4 = v4 := ⟨_, rfl⟩
          have hD2 : DR W5 B g false lf2 f0 ⟨us 4, ([] : List Nat) ++ bs, s⟩ := hD
          have hN2 : ∀ k, (us 4).ownBlock = some k → w.heap.size ≤ k := hN
          rw [e4] at hD2 hN2
          have D5 := hid hD2
          have F5 := hid hF
          have N5 := hid hN2
          clear hD hF hN hD2 hN2
          simp only [putF]
          rw [hA, e0, e1, e2, e3, e5, e6, e7, e4]
          go_frame
          clear hA e4 e0 e1 e2 e3 e5 e6 e7
          go_wp2_with fail
          go_ret
          exact ⟨rfl, HE.out _ v4 D5.out F5.out N5.out⟩
    · obtain rfl : v = .slice (some ad) b.length c := e1
      obtain ⟨m, hm⟩ : ∃ m, m = b.length := ⟨_, rfl⟩
      have HM := hid hm
      rw [← hm] at hn1
      simp only [← hm] at H HCR HE
      clear hm
      go_enter Try.func69, Try.ntmps69
      go_wp2_with fail
      refine HCR.out.mono ?_
      rintro r w1 ⟨rfl, hd, hf⟩
      have c0 : ∀ o, (w1.alloc o).cell? ⟨g, 1, none⟩ = some (.slice (some ad) m c) := fun o => (DR.still hd ((Below.refl _ _).alloc (Nat.le_refl _) o)).c1
      have HFT := hid (Dsk.foot_lt hd)
      have hz1 := hf.size
      have HC := hid (fun j u (hu : (u8s b)[j]? = some u) => show w1.cell? (ad.add j) = some u from by rcases own_rdb (show w1.ownsRow B 5 1 (.slice (some ad) m c) b.length (u8s b) from hd.o1) with ⟨e, _⟩ | ⟨ad2, c2, e, h9⟩; (· injection e with e; exact absurd e (by simp)); (· injection e with e; injection e with e; subst e; exact h9 j u hu))
      have HD := hid hd
      have HF := hid hf
      clear hd hf
      go_wp2_with (first | (at_builtin; go_loud (refine wpList_append_own_at _ rfl (.tmp 15) (.tmp 21) 70 rfl w1.heap.size 5 i0 (.int .u8 0) 1 1 Try.underlying70 HI.out HZ0.out HZ1.out HZ2.out rfl (by decide) _ 0 [] rfl (World.ownsRow_lit (base := w1.heap.size) w1 #[] 0 (Nat.le_refl _) (by unfold maxLen; omega) rfl) ad m c (u8s b) rfl (by simp [u8s, HM.out]) (fun j u hu => by rw [((Below.refl w1.heap.size w1).alloc (Nat.le_refl _) _).cell (block_lt_of_cell (HC.out j u hu))]; exact HC.out j u hu) (u8s_one _) (by unfold maxLen; omega) (by omega) (by simp) ?_; intro v9 w9 ho1 ho2 ho3 ho4; clear ho3; simp only [Nat.zero_add, List.nil_append] at ho1; obtain ⟨a9, c9, e9⟩ := own_slice ho1; subst e9; have HO1 := hid ho1; have HO2 := hid ho2; clear ho1 ho2 ho4)))
      refine gen_world (fun W2 hW2 => ?_)
      have HB2 := hid (show Below w1.heap.size w1 W2 by rw [hW2]; exact ((Below.refl _ _).alloc (Nat.le_refl _) _).grown HO2.out (by simp) (fun k e => by have e' : some w1.heap.size = some k := e; injection e' with e'; omega))
      have OW := hid (show W2.ownsRow w1.heap.size 5 1 (.slice a9 m c9) m (u8s b) by rw [hW2]; exact HO1.out)
      clear hW2 c0 HO1 HO2
      have D2 := hid (HD.out.still HB2.out)
      have F2 := hid (HF.out.step HB2.out)
      have hz2 := HB2.out.size
      have HBY := hid (HBS.out.frame F2.out (fun k hk => HLT.out k (.inl hk)))
      rcases HBY.out with ⟨e3, e4⟩ | ⟨ad2, c2, e3, hc2⟩
      · obtain rfl : bv = .slice none 0 0 := e3
        obtain rfl : bs = [] := e4
        refine gen_act (fun A0 hA => ?_)
        refine wp_region_by (by kernel_rfl) (by kernel_rfl) [some 23, some 24, some 25, some 26, some 27, some 28, some 29, some 30, none] rfl (by decide) (StR (fun j => ([.pointer (some ⟨g, 0, none⟩), .int .i64 1, .slice a9 m c9, .slice none 0 0, undef, .pointer (some ⟨g, 0, none⟩), .pointer (some ⟨g, 0, none⟩), .pointer (some ⟨g, 1, none⟩), undef] : List Value).getD j undef) [4, 8] (fun kk vv WW => (match kk with | 0 => DR WW B g false lf2 f0 ⟨.slice (some ad) m c, b, s⟩ ∧ WW.ownsRow w1.heap.size 5 1 (.slice a9 m c9) m (u8s b) | 1 => DR WW B g false lf2 f0 ⟨.slice (some ad) m c, b, s⟩ ∧ WW.ownsRow w1.heap.size 5 1 (vv 0) (b ++ ([] : List Nat)).length (u8s (b ++ ([] : List Nat))) | _ => DR WW B g false lf2 f0 ⟨vv 0, b ++ ([] : List Nat), s⟩ ∧ ∀ k, (vv 0).ownBlock = some k → w.heap.size ≤ k) ∧ Fr (fun k => k = g) w WW ∧ W2.heap.size ≤ WW.heap.size)) (selfF A0 _) (putF_self A0 _)
          (StR.start ⟨⟨D2.out.still (Below.refl _ _).drew, own_same OW.out (fun k hk => ((Below.refl W2.heap.size W2).drew).block k (OW.out.lt k hk).2)⟩, F2.out.step (Below.refl _ _).drew, ((Below.refl W2.heap.size W2).drew).size⟩ (fun _ => rfl)) ?hsA110 ?htA110
        case hsA110 =>
          refine ⟨?_, ?_, ?_, ?_, ?_, ?_, ?_, ?_, ?_, trivial⟩
          · intro K L us W hK0 hL hd hR
            have hK := hid (fun v9 A9 h1 (h3 : v9 = .pointer (some ⟨g, 0, none⟩)) => hK0 v9 A9 W h1 (hR.pure (by decide) h3)); clear hK0
            clear hd
            simp only [putF]
            rw [hA]
            go_frame
            go_wp2_with fail
            exact hK.out _ _ (by rw [hA]; simp only [putF]; kernel_rfl) rfl
          · intro K L us W hK0 hL hd hR
            have hK := hid (fun v9 A9 h1 (h3 : v9 = .int .i64 1) => hK0 v9 A9 W h1 (hR.pure (by decide) h3)); clear hK0
            clear hd
            simp only [putF]
            rw [hA]
            go_frame
            go_wp2_with fail
            exact hK.out _ _ (by rw [hA]; simp only [putF]; kernel_rfl) rfl
          · intro K L us W hK0 hL hd hR
            have hK := hid (fun v9 A9 h1 (h3 : v9 = .slice a9 m c9) => hK0 v9 A9 W h1 (hR.pure (by decide) h3)); clear hK0
            clear hd
            simp only [putF]
            rw [hA]
            go_frame
            go_wp2_with fail
            exact hK.out _ _ (by rw [hA]; simp only [putF]; kernel_rfl) rfl
          · intro K L us W hK0 hL hd hR
            have hK := hid (fun v9 A9 h1 (h3 : v9 = .slice none 0 0) => hK0 v9 A9 W h1 (hR.pure (by decide) h3)); clear hK0
            clear hd
            simp only [putF]
            rw [hA]
            go_frame
            go_wp2_with fail
            exact hK.out _ _ (by rw [hA]; simp only [putF]; kernel_rfl) rfl
          · intro K L us W hK0 hL hd hR
            have e2 : us 2 = .slice a9 m c9 := hR.vals 2 (by decide) (all_on hd ⟨2, Ground.data⟩ (by simp) rfl)
            have e3 : us 3 = .slice none 0 0 := hR.vals 3 (by decide) (all_on hd ⟨3, Ground.data⟩ (by simp) rfl)
            have hS := hR.at 0 (by decide) (.inl rfl) hL
            have hK := hid (fun v9 A9 W9 h1 (hS' : (fun kk vv WW => (match kk with | 0 => DR WW B g false lf2 f0 ⟨.slice (some ad) m c, b, s⟩ ∧ WW.ownsRow w1.heap.size 5 1 (.slice a9 m c9) m (u8s b) | 1 => DR WW B g false lf2 f0 ⟨.slice (some ad) m c, b, s⟩ ∧ WW.ownsRow w1.heap.size 5 1 (vv 0) (b ++ ([] : List Nat)).length (u8s (b ++ ([] : List Nat))) | _ => DR WW B g false lf2 f0 ⟨vv 0, b ++ ([] : List Nat), s⟩ ∧ ∀ k, (vv 0).ownBlock = some k → w.heap.size ≤ k) ∧ Fr (fun k => k = g) w WW ∧ W2.heap.size ≤ WW.heap.size) 1 (fun j => if j = 0 then v9 else selV [4, 8] us j) W9) => hK0 v9 A9 W9 h1 (hR.next (by decide) 0 (by decide) (.inl rfl) hL hS')); clear hK0
            obtain ⟨⟨hD, hO⟩, hF, hS'⟩ := hS
            have D4 := hid hD
            have F4 := hid hF
            have O4 := hid hO
            have hz4 := hS'
            clear hD hF hO hS'
            clear hd
            simp only [putF]
            rw [hA, e2, e3]
            go_frame
            go_wp2_with (first | (at_builtin; go_loud (refine wpList_append_own_none rfl (.tmp 25) (.tmp 26) 70 rfl w1.heap.size 5 i0 1 Try.underlying70 HI.out _ m (u8s b) rfl O4.out rfl ?_)))
            refine hK.out (.slice a9 m c9) _ _ (by rw [hA]; simp only [putF]; rw [e2, e3]; kernel_rfl) ?_
            exact ⟨⟨D4.out, by have h9 := O4.out; rw [List.append_nil, ← HM.out]; exact h9⟩, F4.out, hz4⟩
          · intro K L us W hK0 hL hd hR
            have e0 : us 0 = .pointer (some ⟨g, 0, none⟩) := hR.vals 0 (by decide) (all_on hd ⟨0, Ground.data⟩ (by simp) rfl)
            have hK := hid (fun v9 A9 h1 (h3 : v9 = .pointer (some ⟨g, 0, none⟩)) => hK0 v9 A9 W h1 (hR.pure (by decide) h3)); clear hK0
            clear hd
            simp only [putF]
            rw [hA, e0]
            go_frame
            go_wp2_with fail
            exact hK.out _ _ (by rw [hA]; simp only [putF]; rw [e0]; kernel_rfl) rfl
          · intro K L us W hK0 hL hd hR
            have e5 : us 5 = .pointer (some ⟨g, 0, none⟩) := hR.vals 5 (by decide) (all_on hd ⟨5, Ground.data⟩ (by simp) rfl)
            have hK := hid (fun v9 A9 h1 (h3 : v9 = .pointer (some ⟨g, 0, none⟩)) => hK0 v9 A9 W h1 (hR.pure (by decide) h3)); clear hK0
            clear hd
            simp only [putF]
            rw [hA, e5]
            go_frame
            go_wp2_with fail
            exact hK.out _ _ (by rw [hA]; simp only [putF]; rw [e5]; kernel_rfl) rfl
          · intro K L us W hK0 hL hd hR
            have e6 : us 6 = .pointer (some ⟨g, 0, none⟩) := hR.vals 6 (by decide) (all_on hd ⟨6, Ground.data⟩ (by simp) rfl)
            have e1 : us 1 = .int .i64 1 := hR.vals 1 (by decide) (all_on hd ⟨1, Ground.data⟩ (by simp) rfl)
            have hK := hid (fun v9 A9 h1 (h3 : v9 = .pointer (some ⟨g, 1, none⟩)) => hK0 v9 A9 W h1 (hR.pure (by decide) h3)); clear hK0
            clear hd
            simp only [putF]
            rw [hA, e6, e1]
            go_frame
            go_wp2_with fail
            exact hK.out _ _ (by rw [hA]; simp only [putF]; rw [e6, e1]; kernel_rfl) rfl
          · intro K L us W hK0 hL hd hR
            have e7 : us 7 = .pointer (some ⟨g, 1, none⟩) := hR.vals 7 (by decide) (all_on hd ⟨7, Ground.data⟩ (by simp) rfl)
            have hS := hR.at 1 (by decide) (.inr ⟨by decide, all_on hd ⟨4, Ground.data⟩ (by simp) rfl⟩) hL
            have hK := hid (fun v9 A9 W9 h1 (hS' : (fun kk vv WW => (match kk with | 0 => DR WW B g false lf2 f0 ⟨.slice (some ad) m c, b, s⟩ ∧ WW.ownsRow w1.heap.size 5 1 (.slice a9 m c9) m (u8s b) | 1 => DR WW B g false lf2 f0 ⟨.slice (some ad) m c, b, s⟩ ∧ WW.ownsRow w1.heap.size 5 1 (vv 0) (b ++ ([] : List Nat)).length (u8s (b ++ ([] : List Nat))) | _ => DR WW B g false lf2 f0 ⟨vv 0, b ++ ([] : List Nat), s⟩ ∧ ∀ k, (vv 0).ownBlock = some k → w.heap.size ≤ k) ∧ Fr (fun k => k = g) w WW ∧ W2.heap.size ≤ WW.heap.size) 2 (fun j => if j = 1 then v9 else selV [4, 8] us j) W9) => hK0 v9 A9 W9 h1 (hR.next (by decide) 1 (by decide) (.inr ⟨by decide, all_on hd ⟨4, Ground.data⟩ (by simp) rfl⟩) hL hS')); clear hK0
            obtain ⟨⟨hD, hO⟩, hF, hS'⟩ := hS
            have D4 := hid hD
            have F4 := hid hF
            have O4 := hid hO
            have hz4 := hS'
            clear hD hF hO hS'
            obtain ⟨v4, e4⟩ : ∃ v4, us 4 = v4 := ⟨_, rfl⟩
            have O5 := hid (show W.ownsRow w1.heap.size 5 1 v4 (b ++ ([] : List Nat)).length (u8s (b ++ ([] : List Nat))) from by have := O4.out; rw [show selV [4, 8] us 0 = us 4 from rfl, e4] at this; exact this)
            obtain ⟨nn, hnn⟩ : ∃ nn, nn = (b ++ ([] : List Nat)).length := ⟨_, rfl⟩
            rw [← hnn] at O5
            have HNN := hid hnn
            clear O4 hnn
            obtain ⟨a4, c4, e5⟩ := own_slice O5.out
            subst e5
            have z1 : W.frozen? ⟨g, 1, none⟩ = false := by have hh := (D4.out).hg; simp [World.frozen?, hh]
            have c0 : W.cell? ⟨g, 1, none⟩ = some (.slice (some ad) m c) := D4.out.c1
            clear hd
            simp only [putF]
            rw [hA, e7, e4]
            go_frame
            go_wp2_with fail
            refine hK.out undef _ _ (by rw [hA]; simp only [putF]; rw [e7, e4]; kernel_rfl) ?_
            have hlt5 := fun k (hk : (Value.ownBlock (.slice a4 nn c4)) = some k) => (O5.out.lt k hk).1
            have hFT := HFT.out
            have hg1 : g < w1.heap.size := hFT g (.inl rfl)
            refine ⟨⟨?_, ?_⟩, F4.out.trans (G := fun k => k = g) (Fr.set rfl) (fun _ _ h => h), by simp; omega⟩
            · show DR _ B g false lf2 f0 ⟨us 4, b ++ ([] : List Nat), s⟩
              rw [e4]
              refine (D4.out.set 1 (.slice a4 nn c4)).swap1 ?_ ?_ ?_
              · rw [← HNN.out]; exact own_same (own_low O5.out (by omega)) (fun k hk => Below.heap_setCell W ⟨g, 1, none⟩ _ k (fun e => by have h1 : k = g := e; have := hlt5 k hk; omega))
              · intro e; have := hlt5 g e; omega
              · intro k hk e; have h1 := hlt5 k e; have h2 := hFT k (.inr (.inl hk)); omega
            · intro k hk
              have hk2 : (us 4).ownBlock = some k := hk
              rw [e4] at hk2
              have := hlt5 k hk2; omega
        case htA110 =>
          intro L us W5 hall hR
          have hS := hR.last (fun i hi => match i, hi with | 0, _ => hall 4 (by decide) | 1, _ => hall 8 (by decide))
          have e0 : us 0 = .pointer (some ⟨g, 0, none⟩) := hR.vals 0 (by decide) (hall 0 (by decide))
          have e1 : us 1 = .int .i64 1 := hR.vals 1 (by decide) (hall 1 (by decide))
          have e2 : us 2 = .slice a9 m c9 := hR.vals 2 (by decide) (hall 2 (by decide))
          have e3 : us 3 = .slice none 0 0 := hR.vals 3 (by decide) (hall 3 (by decide))
          have e5 : us 5 = .pointer (some ⟨g, 0, none⟩) := hR.vals 5 (by decide) (hall 5 (by decide))
          have e6 : us 6 = .pointer (some ⟨g, 0, none⟩) := hR.vals 6 (by decide) (hall 6 (by decide))
          have e7 : us 7 = .pointer (some ⟨g, 1, none⟩) := hR.vals 7 (by decide) (hall 7 (by decide))
          clear hR hall
          obtain ⟨⟨hD, hN⟩, hF, _⟩ := hS
          obtain ⟨v4, e4⟩ : ∃ v4, us 4 = v4 := ⟨_, rfl⟩
          have hD2 : DR W5 B g false lf2 f0 ⟨us 4, b ++ ([] : List Nat), s⟩ := hD
          have hN2 : ∀ k, (us 4).ownBlock = some k → w.heap.size ≤ k := hN
          rw [e4] at hD2 hN2
          have D5 := hid hD2
          have F5 := hid hF
          have N5 := hid hN2
          clear hD hF hN hD2 hN2
          simp only [putF]
          rw [hA, e0, e1, e2, e3, e5, e6, e7, e4]
          go_frame
          clear hA e4 e0 e1 e2 e3 e5 e6 e7
          go_wp2_with fail
          go_ret
          exact ⟨rfl, HE.out _ v4 D5.out F5.out N5.out⟩
      · obtain ⟨mb, hmb⟩ : ∃ mb, mb = bs.length := ⟨_, rfl⟩
        rw [← hmb] at e3 hnb
        have HMB := hid hmb
        clear hmb
        obtain rfl : bv = .slice (some ad2) mb c2 := e3
        have HC2 := hid hc2
        clear hc2
        refine gen_act (fun A0 hA => ?_)
        refine wp_region_by (by kernel_rfl) (by kernel_rfl) [some 23, some 24, some 25, some 26, some 27, some 28, some 29, some 30, none] rfl (by decide) (StR (fun j => ([.pointer (some ⟨g, 0, none⟩), .int .i64 1, .slice a9 m c9, .slice (some ad2) mb c2, undef, .pointer (some ⟨g, 0, none⟩), .pointer (some ⟨g, 0, none⟩), .pointer (some ⟨g, 1, none⟩), undef] : List Value).getD j undef) [4, 8] (fun kk vv WW => (match kk with | 0 => DR WW B g false lf2 f0 ⟨.slice (some ad) m c, b, s⟩ ∧ WW.ownsRow w1.heap.size 5 1 (.slice a9 m c9) m (u8s b) | 1 => DR WW B g false lf2 f0 ⟨.slice (some ad) m c, b, s⟩ ∧ WW.ownsRow w1.heap.size 5 1 (vv 0) (b ++ bs).length (u8s (b ++ bs)) | _ => DR WW B g false lf2 f0 ⟨vv 0, b ++ bs, s⟩ ∧ ∀ k, (vv 0).ownBlock = some k → w.heap.size ≤ k) ∧ Fr (fun k => k = g) w WW ∧ W2.heap.size ≤ WW.heap.size)) (selfF A0 _) (putF_self A0 _)
          (StR.start ⟨⟨D2.out.still (Below.refl _ _).drew, own_same OW.out (fun k hk => ((Below.refl W2.heap.size W2).drew).block k (OW.out.lt k hk).2)⟩, F2.out.step (Below.refl _ _).drew, ((Below.refl W2.heap.size W2).drew).size⟩ (fun _ => rfl)) ?hsA111 ?htA111
        case hsA111 =>
          refine ⟨?_, ?_, ?_, ?_, ?_, ?_, ?_, ?_, ?_, trivial⟩
          · intro K L us W hK0 hL hd hR
            have hK := hid (fun v9 A9 h1 (h3 : v9 = .pointer (some ⟨g, 0, none⟩)) => hK0 v9 A9 W h1 (hR.pure (by decide) h3)); clear hK0
            clear hd
            simp only [putF]
            rw [hA]
            go_frame
            go_wp2_with fail
            exact hK.out _ _ (by rw [hA]; simp only [putF]; kernel_rfl) rfl
          · intro K L us W hK0 hL hd hR
            have hK := hid (fun v9 A9 h1 (h3 : v9 = .int .i64 1) => hK0 v9 A9 W h1 (hR.pure (by decide) h3)); clear hK0
            clear hd
            simp only [putF]
            rw [hA]
            go_frame
            go_wp2_with fail
            exact hK.out _ _ (by rw [hA]; simp only [putF]; kernel_rfl) rfl
          · intro K L us W hK0 hL hd hR
            have hK := hid (fun v9 A9 h1 (h3 : v9 = .slice a9 m c9) => hK0 v9 A9 W h1 (hR.pure (by decide) h3)); clear hK0
            clear hd
            simp only [putF]
            rw [hA]
            go_frame
            go_wp2_with fail
            exact hK.out _ _ (by rw [hA]; simp only [putF]; kernel_rfl) rfl
          · intro K L us W hK0 hL hd hR
            have hK := hid (fun v9 A9 h1 (h3 : v9 = .slice (some ad2) mb c2) => hK0 v9 A9 W h1 (hR.pure (by decide) h3)); clear hK0
            clear hd
            simp only [putF]
            rw [hA]
            go_frame
            go_wp2_with fail
            exact hK.out _ _ (by rw [hA]; simp only [putF]; kernel_rfl) rfl
          · intro K L us W hK0 hL hd hR
            have e2 : us 2 = .slice a9 m c9 := hR.vals 2 (by decide) (all_on hd ⟨2, Ground.data⟩ (by simp) rfl)
            have e3 : us 3 = .slice (some ad2) mb c2 := hR.vals 3 (by decide) (all_on hd ⟨3, Ground.data⟩ (by simp) rfl)
            have hS := hR.at 0 (by decide) (.inl rfl) hL
            have hK := hid (fun v9 A9 W9 h1 (hS' : (fun kk vv WW => (match kk with | 0 => DR WW B g false lf2 f0 ⟨.slice (some ad) m c, b, s⟩ ∧ WW.ownsRow w1.heap.size 5 1 (.slice a9 m c9) m (u8s b) | 1 => DR WW B g false lf2 f0 ⟨.slice (some ad) m c, b, s⟩ ∧ WW.ownsRow w1.heap.size 5 1 (vv 0) (b ++ bs).length (u8s (b ++ bs)) | _ => DR WW B g false lf2 f0 ⟨vv 0, b ++ bs, s⟩ ∧ ∀ k, (vv 0).ownBlock = some k → w.heap.size ≤ k) ∧ Fr (fun k => k = g) w WW ∧ W2.heap.size ≤ WW.heap.size) 1 (fun j => if j = 0 then v9 else selV [4, 8] us j) W9) => hK0 v9 A9 W9 h1 (hR.next (by decide) 0 (by decide) (.inl rfl) hL hS')); clear hK0
            obtain ⟨⟨hD, hO⟩, hF, hS'⟩ := hS
            have D4 := hid hD
            have F4 := hid hF
            have O4 := hid hO
            have hz4 := hS'
            clear hD hF hO hS'
            have HC4 := hid (show ∀ j u, (u8s bs)[j]? = some u → W.cell? (ad2.add j) = some u from by rcases HBS.out.frame F4.out (fun k hk => HLT.out k (.inl hk)) with ⟨e, _⟩ | ⟨ad3, c3, e, h9⟩; (· injection e with e; exact absurd e (by simp)); (· injection e with e; injection e with e; subst e; exact fun j u hu => (h9 j u hu).1))
            clear hd
            simp only [putF]
            rw [hA, e2, e3]
            go_frame
            go_wp2_with (first | (at_builtin; go_loud (refine wpList_append_own_at _ rfl (.tmp 25) (.tmp 26) 70 rfl w1.heap.size 5 i0 (.int .u8 0) 1 1 Try.underlying70 HI.out HZ0.out HZ1.out HZ2.out rfl (by decide) _ m (u8s b) rfl O4.out ad2 mb c2 (u8s bs) rfl (by simp [u8s, HMB.out]) (fun j u hu => HC4.out j u hu) (u8s_one _) (by unfold maxLen; omega) (by omega) (by omega) ?_; intro v7 w7 ho1 ho2 ho3 ho4; clear ho3; have HO1 := hid ho1; have HO2 := hid ho2; clear ho1 ho2 ho4)))
            refine hK.out v7 _ _ (by rw [hA]; simp only [putF]; rw [e2, e3]; kernel_rfl) ?_
            have hlt4 := fun k (hk : (Value.ownBlock (.slice a9 m c9)) = some k) => (O4.out.lt k hk).1
            have hfr : Fr (fun k => Value.ownBlock (.slice a9 m c9) = some k) W w7 := Fr.grown HO2.out (fun k hk => hk)
            refine ⟨⟨D4.out.frame hfr (fun k hk e => by have h1 := hlt4 k e; have h2 := HFT.out k hk; omega), ?_⟩, F4.out.trans hfr (fun k hk e => by have h1 := hlt4 k e; omega), by have := hfr.size; omega⟩
            have h9 := HO1.out
            have e8 : ((b ++ bs) : List Nat).length = m + mb := by simp [HMB.out, HM.out]
            rw [e8, show u8s (b ++ bs) = u8s b ++ u8s bs by simp [u8s]]
            exact h9
          · intro K L us W hK0 hL hd hR
            have e0 : us 0 = .pointer (some ⟨g, 0, none⟩) := hR.vals 0 (by decide) (all_on hd ⟨0, Ground.data⟩ (by simp) rfl)
            have hK := hid (fun v9 A9 h1 (h3 : v9 = .pointer (some ⟨g, 0, none⟩)) => hK0 v9 A9 W h1 (hR.pure (by decide) h3)); clear hK0
            clear hd
            simp only [putF]
            rw [hA, e0]
            go_frame
            go_wp2_with fail
            exact hK.out _ _ (by rw [hA]; simp only [putF]; rw [e0]; kernel_rfl) rfl
          · intro K L us W hK0 hL hd hR
            have e5 : us 5 = .pointer (some ⟨g, 0, none⟩) := hR.vals 5 (by decide) (all_on hd ⟨5, Ground.data⟩ (by simp) rfl)
            have hK := hid (fun v9 A9 h1 (h3 : v9 = .pointer (some ⟨g, 0, none⟩)) => hK0 v9 A9 W h1 (hR.pure (by decide) h3)); clear hK0
            clear hd
            simp only [putF]
            rw [hA, e5]
            go_frame
            go_wp2_with fail
            exact hK.out _ _ (by rw [hA]; simp only [putF]; rw [e5]; kernel_rfl) rfl
          · intro K L us W hK0 hL hd hR
            have e6 : us 6 = .pointer (some ⟨g, 0, none⟩) := hR.vals 6 (by decide) (all_on hd ⟨6, Ground.data⟩ (by simp) rfl)
            have e1 : us 1 = .int .i64 1 := hR.vals 1 (by decide) (all_on hd ⟨1, Ground.data⟩ (by simp) rfl)
            have hK := hid (fun v9 A9 h1 (h3 : v9 = .pointer (some ⟨g, 1, none⟩)) => hK0 v9 A9 W h1 (hR.pure (by decide) h3)); clear hK0
            clear hd
            simp only [putF]
            rw [hA, e6, e1]
            go_frame
            go_wp2_with fail
            exact hK.out _ _ (by rw [hA]; simp only [putF]; rw [e6, e1]; kernel_rfl) rfl
          · intro K L us W hK0 hL hd hR
            have e7 : us 7 = .pointer (some ⟨g, 1, none⟩) := hR.vals 7 (by decide) (all_on hd ⟨7, Ground.data⟩ (by simp) rfl)
            have hS := hR.at 1 (by decide) (.inr ⟨by decide, all_on hd ⟨4, Ground.data⟩ (by simp) rfl⟩) hL
            have hK := hid (fun v9 A9 W9 h1 (hS' : (fun kk vv WW => (match kk with | 0 => DR WW B g false lf2 f0 ⟨.slice (some ad) m c, b, s⟩ ∧ WW.ownsRow w1.heap.size 5 1 (.slice a9 m c9) m (u8s b) | 1 => DR WW B g false lf2 f0 ⟨.slice (some ad) m c, b, s⟩ ∧ WW.ownsRow w1.heap.size 5 1 (vv 0) (b ++ bs).length (u8s (b ++ bs)) | _ => DR WW B g false lf2 f0 ⟨vv 0, b ++ bs, s⟩ ∧ ∀ k, (vv 0).ownBlock = some k → w.heap.size ≤ k) ∧ Fr (fun k => k = g) w WW ∧ W2.heap.size ≤ WW.heap.size) 2 (fun j => if j = 1 then v9 else selV [4, 8] us j) W9) => hK0 v9 A9 W9 h1 (hR.next (by decide) 1 (by decide) (.inr ⟨by decide, all_on hd ⟨4, Ground.data⟩ (by simp) rfl⟩) hL hS')); clear hK0
            obtain ⟨⟨hD, hO⟩, hF, hS'⟩ := hS
            have D4 := hid hD
            have F4 := hid hF
            have O4 := hid hO
            have hz4 := hS'
            clear hD hF hO hS'
            obtain ⟨v4, e4⟩ : ∃ v4, us 4 = v4 := ⟨_, rfl⟩
            have O5 := hid (show W.ownsRow w1.heap.size 5 1 v4 (b ++ bs).length (u8s (b ++ bs)) from by have := O4.out; rw [show selV [4, 8] us 0 = us 4 from rfl, e4] at this; exact this)
            obtain ⟨nn, hnn⟩ : ∃ nn, nn = (b ++ bs).length := ⟨_, rfl⟩
            rw [← hnn] at O5
            have HNN := hid hnn
            clear O4 hnn
            obtain ⟨a4, c4, e5⟩ := own_slice O5.out
            subst e5
            have z1 : W.frozen? ⟨g, 1, none⟩ = false := by have hh := (D4.out).hg; simp [World.frozen?, hh]
            have c0 : W.cell? ⟨g, 1, none⟩ = some (.slice (some ad) m c) := D4.out.c1
            clear hd
            simp only [putF]
            rw [hA, e7, e4]
            go_frame
            go_wp2_with fail
            refine hK.out undef _ _ (by rw [hA]; simp only [putF]; rw [e7, e4]; kernel_rfl) ?_
            have hlt5 := fun k (hk : (Value.ownBlock (.slice a4 nn c4)) = some k) => (O5.out.lt k hk).1
            have hFT := HFT.out
            have hg1 : g < w1.heap.size := hFT g (.inl rfl)
            refine ⟨⟨?_, ?_⟩, F4.out.trans (G := fun k => k = g) (Fr.set rfl) (fun _ _ h => h), by simp; omega⟩
            · show DR _ B g false lf2 f0 ⟨us 4, b ++ bs, s⟩
              rw [e4]
              refine (D4.out.set 1 (.slice a4 nn c4)).swap1 ?_ ?_ ?_
              · rw [← HNN.out]; exact own_same (own_low O5.out (by omega)) (fun k hk => Below.heap_setCell W ⟨g, 1, none⟩ _ k (fun e => by have h1 : k = g := e; have := hlt5 k hk; omega))
              · intro e; have := hlt5 g e; omega
              · intro k hk e; have h1 := hlt5 k e; have h2 := hFT k (.inr (.inl hk)); omega
            · intro k hk
              have hk2 : (us 4).ownBlock = some k := hk
              rw [e4] at hk2
              have := hlt5 k hk2; omega
        case htA111 =>
          intro L us W5 hall hR
          have hS := hR.last (fun i hi => match i, hi with | 0, _ => hall 4 (by decide) | 1, _ => hall 8 (by decide))
          have e0 : us 0 = .pointer (some ⟨g, 0, none⟩) := hR.vals 0 (by decide) (hall 0 (by decide))
          have e1 : us 1 = .int .i64 1 := hR.vals 1 (by decide) (hall 1 (by decide))
          have e2 : us 2 = .slice a9 m c9 := hR.vals 2 (by decide) (hall 2 (by decide))
          have e3 : us 3 = .slice (some ad2) mb c2 := hR.vals 3 (by decide) (hall 3 (by decide))
          have e5 : us 5 = .pointer (some ⟨g, 0, none⟩) := hR.vals 5 (by decide) (hall 5 (by decide))
          have e6 : us 6 = .pointer (some ⟨g, 0, none⟩) := hR.vals 6 (by decide) (hall 6 (by decide))
          have e7 : us 7 = .pointer (some ⟨g, 1, none⟩) := hR.vals 7 (by decide) (hall 7 (by decide))
          clear hR hall
          obtain ⟨⟨hD, hN⟩, hF, _⟩ := hS
          obtain ⟨v4, e4⟩ : ∃ v4, us 4 = v4 := ⟨_, rfl⟩
          have hD2 : DR W5 B g false lf2 f0 ⟨us 4, b ++ bs, s⟩ := hD
          have hN2 : ∀ k, (us 4).ownBlock = some k → w.heap.size ≤ k := hN
          rw [e4] at hD2 hN2
          have D5 := hid hD2
          have F5 := hid hF
          have N5 := hid hN2
          clear hD hF hN hD2 hN2
          simp only [putF]
          rw [hA, e0, e1, e2, e3, e5, e6, e7, e4]
          go_frame
          clear hA e4 e0 e1 e2 e3 e5 e6 e7
          go_wp2_with fail
          go_ret
          exact ⟨rfl, HE.out _ v4 D5.out F5.out N5.out⟩
end Go.Proofs.Yteanlcefdoigcaa
