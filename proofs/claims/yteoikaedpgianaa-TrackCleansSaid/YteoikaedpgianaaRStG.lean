/- The reference's Parts (70): a fix is put behind a copy of the last part (regions 17 and 18). (Printed by wip/gen_stg.py.) -/
import Derived.Test.YteoikaedpgianaaRStE
namespace Go.Proofs.Yteoikaedpgianaa
open Go.RowKit Go.Sort Go.Lib Go.Shelf Go.Proofs

theorem PtS.turn {W w7 : World} {T BX : Nat} {tv u v7 : Value} {vs0 : List Value} {P0 : List (List Fx)} {p : List Fx} {f : Fx} (h : PtS W T tv vs0 P0 u u p) (hb : Below BX W w7) (hT : T < BX) (lo : ∀ k, tv.ownBlock = some k → k < BX) (lf : ∀ (i : Nat) (y : Value), vs0[i]? = some y → ∀ k, y.ownBlock = some k → k < BX) (ho : OwnR w7 BX 55 10 v7 (p.map Fx.row ++ [f.row])) : PtS w7 T tv vs0 P0 u v7 (p ++ [f]) :=
  ⟨(hb.block T hT).trans h.hT, OwnR.same h.o (fun k e => hb.block k (lo k e)), h.len, fun i y q hy hq => OwnR.same (h.oth i y q hy hq) (fun k e => hb.block k (lf i y hy k e)), h.apo, OwnR.mono (by rw [List.map_append]; exact ho) (Nat.le_of_lt hT), fun i y hy b hb1 hb2 => by have h1 := OwnR.ownBlock ho b hb1; have h2 := lf i y hy b hb2; omega⟩
set_option maxRecDepth 100000 in
set_option maxHeartbeats 3200000 in
theorem parts_put18 (s0 s1 s2 s3 s4 s5 s6 s7 s9 s13 s14 s15 s16 s17 s18 s19 s20 s21 s22 s23 s24 s25 s26 s27 s28 s29 s30 s31 s32 s33 s34 s35 s36 s37 s38 s39 s40 s41 s42 s43 s44 s45 s46 s47 s48 s49 s50 s51 s52 s53 s54 s55 s56 s57 s58 s59 s60 s61 s62 s63 s64 s65 s66 s67 s68 s69 s70 s71 s72 s73 s74 s75 s76 s77 s78 s79 s80 s81 s82 s83 s84 s85 s86 s87 s88 s89 s90 s91 s92 s93 s94 s95 s96 s97 s98 s99 s100 s101 s102 : Value) (WT wx : World) (gt n1 k0 ct bx : Nat) (vs0 : List Value) (P0 : List (List Fx)) (u : Value) (p : List Fx) (x : Fx) (BX cn cc : Nat) (ca : Option Addr) (Q : Exit → Act → World → Prop) (R : Code) (hR : Try.f70.body.bind (findR 18) = some R) (hk0 : k0 = vs0.length) (hnt : k0 < n1)
    (hpt : PtS wx WT.heap.size (.slice (some ⟨gt, 0, none⟩) n1 ct) vs0 P0 u u p) (hbt : Below WT.heap.size WT wx) (hkx : wx.heap[bx]? = some (.cells x.row.toArray 55)) (hown : OwnR wx BX 55 10 (.slice ca cn cc) (p.map Fx.row)) (hxx : bx < BX) (htx : WT.heap.size < BX) (hbxw : BX ≤ wx.heap.size) (hlo : ∀ k, (Value.slice (some ⟨gt, 0, none⟩) n1 ct).ownBlock = some k → k < BX) (hlf : ∀ (i : Nat) (y : Value), vs0[i]? = some y → ∀ k, y.ownBlock = some k → k < BX) (hpl : p.length ≤ 1000)
    (h : ∀ (u93 u94 u95 u96 u97 u98 u99 u100 v : Value) (W5 : World), PtS W5 WT.heap.size (.slice (some ⟨gt, 0, none⟩) n1 ct) vs0 P0 v v (p ++ [x]) → Below WT.heap.size WT W5 → Q Exit.normal ({ tmps := List.toArray (List.cons (s0) (List.cons (s1) (List.cons (s2) (List.cons (s3) (List.cons (s4) (List.cons (s5) (List.cons (s6) (List.cons (s7) (List.cons (.pointer (some ⟨WT.heap.size, 0, none⟩)) (List.cons (s9) (List.cons (.pointer (some ⟨bx, 0, none⟩)) (List.cons (.int .i64 (k0 : Int)) (List.cons (.slice ca cn cc) (List.cons (s13) (List.cons (s14) (List.cons (s15) (List.cons (s16) (List.cons (s17) (List.cons (s18) (List.cons (s19) (List.cons (s20) (List.cons (s21) (List.cons (s22) (List.cons (s23) (List.cons (s24) (List.cons (s25) (List.cons (s26) (List.cons (s27) (List.cons (s28) (List.cons (s29) (List.cons (s30) (List.cons (s31) (List.cons (s32) (List.cons (s33) (List.cons (s34) (List.cons (s35) (List.cons (s36) (List.cons (s37) (List.cons (s38) (List.cons (s39) (List.cons (s40) (List.cons (s41) (List.cons (s42) (List.cons (s43) (List.cons (s44) (List.cons (s45) (List.cons (s46) (List.cons (s47) (List.cons (s48) (List.cons (s49) (List.cons (s50) (List.cons (s51) (List.cons (s52) (List.cons (s53) (List.cons (s54) (List.cons (s55) (List.cons (s56) (List.cons (s57) (List.cons (s58) (List.cons (s59) (List.cons (s60) (List.cons (s61) (List.cons (s62) (List.cons (s63) (List.cons (s64) (List.cons (s65) (List.cons (s66) (List.cons (s67) (List.cons (s68) (List.cons (s69) (List.cons (s70) (List.cons (s71) (List.cons (s72) (List.cons (s73) (List.cons (s74) (List.cons (s75) (List.cons (s76) (List.cons (s77) (List.cons (s78) (List.cons (s79) (List.cons (s80) (List.cons (s81) (List.cons (s82) (List.cons (s83) (List.cons (s84) (List.cons (s85) (List.cons (s86) (List.cons (s87) (List.cons (s88) (List.cons (s89) (List.cons (s90) (List.cons (s91) (List.cons (s92) (List.cons (u93) (List.cons (u94) (List.cons (u95) (List.cons (u96) (List.cons (u97) (List.cons (u98) (List.cons (u99) (List.cons (u100) (List.cons (s101) (List.cons (s102) List.nil))))))))))))))))))))))))))))))))))))))))))))))))))))))))))))))))))))))))))))))))))))))))))))))))))))))), defers := [] } : Act) W5) :
    Code.wp Try.prog R Q ({ tmps := List.toArray (List.cons (s0) (List.cons (s1) (List.cons (s2) (List.cons (s3) (List.cons (s4) (List.cons (s5) (List.cons (s6) (List.cons (s7) (List.cons (.pointer (some ⟨WT.heap.size, 0, none⟩)) (List.cons (s9) (List.cons (.pointer (some ⟨bx, 0, none⟩)) (List.cons (.int .i64 (k0 : Int)) (List.cons (.slice ca cn cc) (List.cons (s13) (List.cons (s14) (List.cons (s15) (List.cons (s16) (List.cons (s17) (List.cons (s18) (List.cons (s19) (List.cons (s20) (List.cons (s21) (List.cons (s22) (List.cons (s23) (List.cons (s24) (List.cons (s25) (List.cons (s26) (List.cons (s27) (List.cons (s28) (List.cons (s29) (List.cons (s30) (List.cons (s31) (List.cons (s32) (List.cons (s33) (List.cons (s34) (List.cons (s35) (List.cons (s36) (List.cons (s37) (List.cons (s38) (List.cons (s39) (List.cons (s40) (List.cons (s41) (List.cons (s42) (List.cons (s43) (List.cons (s44) (List.cons (s45) (List.cons (s46) (List.cons (s47) (List.cons (s48) (List.cons (s49) (List.cons (s50) (List.cons (s51) (List.cons (s52) (List.cons (s53) (List.cons (s54) (List.cons (s55) (List.cons (s56) (List.cons (s57) (List.cons (s58) (List.cons (s59) (List.cons (s60) (List.cons (s61) (List.cons (s62) (List.cons (s63) (List.cons (s64) (List.cons (s65) (List.cons (s66) (List.cons (s67) (List.cons (s68) (List.cons (s69) (List.cons (s70) (List.cons (s71) (List.cons (s72) (List.cons (s73) (List.cons (s74) (List.cons (s75) (List.cons (s76) (List.cons (s77) (List.cons (s78) (List.cons (s79) (List.cons (s80) (List.cons (s81) (List.cons (s82) (List.cons (s83) (List.cons (s84) (List.cons (s85) (List.cons (s86) (List.cons (s87) (List.cons (s88) (List.cons (s89) (List.cons (s90) (List.cons (s91) (List.cons (s92) (List.cons (s93) (List.cons (s94) (List.cons (s95) (List.cons (s96) (List.cons (s97) (List.cons (s98) (List.cons (s99) (List.cons (s100) (List.cons (s101) (List.cons (s102) List.nil))))))))))))))))))))))))))))))))))))))))))))))))))))))))))))))))))))))))))))))))))))))))))))))))))))))), defers := [] } : Act) wx := by
  have HK0 := hid hk0
  have HPT := hid hpt
  have HBT := hid hbt
  have HKX := hid hkx
  have HOWN := hid hown
  have HXX := hid hxx
  have HTX := hid htx
  have HBXW := hid hbxw
  have HLO := hid hlo
  have HLF := hid hlf
  have HPL := hid hpl
  have HQ := hid h
  clear hk0 hpt hbt hkx hown hxx htx hbxw hlo hlf hpl h
  obtain ⟨i0, hinf, hz0, hz1, hz2⟩ := info_parts info55f
  have HI := hid hinf
  have HZ0 := hid hz0
  have HZ1 := hid hz1
  have HZ2 := hid hz2
  clear hinf hz0 hz1 hz2
  simp [findR, Try.f70] at hR
  subst hR
  refine gen_act (fun A0 hA => ?_)
  refine wp_region_by (by kernel_rfl) (by kernel_rfl) [some 93, some 94, some 95, some 96, some 97, some 98, some 99, some 100, none] rfl (by decide) (StR (fun j => ([.pointer (some ⟨WT.heap.size, 0, none⟩), .slice (some ⟨gt, 0, none⟩) n1 ct, .int .i64 (k0 : Int), .slice ca cn cc, .agg #[.int .i64 x.t, .int .i64 x.x, .int .i64 x.y, .int .i64 x.z, .int .i64 x.e, .int .i64 x.a, .int .i64 x.b, .int .i64 x.c, .int .i64 x.d, .int .i64 x.g], undef, undef, .pointer (some ⟨gt, k0, none⟩), undef] : List Value).getD j undef) [5, 6, 8] [1] (fun kk vv WW => (match kk with | 0 => PtS WW WT.heap.size (.slice (some ⟨gt, 0, none⟩) n1 ct) vs0 P0 u u p ∧ OwnR WW BX 55 10 (.slice ca cn cc) (p.map Fx.row) | 1 => PtS WW WT.heap.size (.slice (some ⟨gt, 0, none⟩) n1 ct) vs0 P0 u u p ∧ OwnR WW BX 55 10 (.slice ca cn cc) (p.map Fx.row) ∧ (∃ q, vv 0 = .slice (some ⟨q, 0, none⟩) 1 1 ∧ WW.heap[q]? = some (.cells #[.int .i64 x.t, .int .i64 x.x, .int .i64 x.y, .int .i64 x.z, .int .i64 x.e, .int .i64 x.a, .int .i64 x.b, .int .i64 x.c, .int .i64 x.d, .int .i64 x.g] 55)) | 2 => PtS WW WT.heap.size (.slice (some ⟨gt, 0, none⟩) n1 ct) vs0 P0 u (vv 1) (p ++ [x]) | _ => PtS WW WT.heap.size (.slice (some ⟨gt, 0, none⟩) n1 ct) vs0 P0 (vv 1) (vv 1) (p ++ [x])) ∧ Below WT.heap.size WT WW ∧ wx.heap.size ≤ WW.heap.size ∧ WW.heap[bx]? = some (.cells x.row.toArray 55))) (selfF A0 _) (putF_self A0 _)
    (StR.start ⟨⟨HPT.out.grow (Below.refl _ _).drew, OwnR.grow HOWN.out (Below.refl _ _).drew⟩, HBT.out.drew, Nat.le_refl _, heap_still (Below.refl _ _).drew HKX.out⟩ (fun _ => rfl)) ?hsZ ?htZ
  case hsZ =>
    refine ⟨?_, ?_, ?_, ?_, ?_, ?_, ?_, ?_, ?_, trivial⟩
    · intro K L us W hK0 hL hd hR
      have hK := hid (fun v9 A9 h1 (h3 : v9 = .pointer (some ⟨WT.heap.size, 0, none⟩)) => hK0 v9 A9 W h1 (hR.pure (by decide) h3)); clear hK0
      clear hd
      simp only [putF]
      rw [hA]
      go_frame
      go_wp2_with fail
      exact hK.out _ _ (by rw [hA]; simp only [putF]; kernel_rfl) rfl
    · intro K L us W hK0 hL hd hR
      have e0 : us 0 = .pointer (some ⟨WT.heap.size, 0, none⟩) := hR.vals 0 (by decide) (all_on hd ⟨0, Ground.data⟩ (by simp) rfl)
      have hK := hid (fun v9 A9 h1 (h3 : v9 = .slice (some ⟨gt, 0, none⟩) n1 ct) => hK0 v9 A9 W h1 (hR.pure (by decide) h3)); clear hK0
      have c0 : W.cell? ⟨WT.heap.size, 0, none⟩ = some (.slice (some ⟨gt, 0, none⟩) n1 ct) := by obtain ⟨k9, hk9, hS9⟩ := hR.early (j := 1) (by decide) hL (by decide); match k9, hk9, hS9 with | 0, _, hS9 => exact (cell_row (j := 0) hS9.1.1.hT).trans rfl | 1, _, hS9 => exact (cell_row (j := 0) hS9.1.1.hT).trans rfl | 2, _, hS9 => exact (cell_row (j := 0) hS9.1.hT).trans rfl
      clear hd
      simp only [putF]
      rw [hA, e0]
      go_frame
      go_wp2_with fail
      exact hK.out _ _ (by rw [hA]; simp only [putF]; rw [e0]; kernel_rfl) rfl
    · intro K L us W hK0 hL hd hR
      have hK := hid (fun v9 A9 h1 (h3 : v9 = .int .i64 (k0 : Int)) => hK0 v9 A9 W h1 (hR.pure (by decide) h3)); clear hK0
      clear hd
      simp only [putF]
      rw [hA]
      go_frame
      go_wp2_with fail
      exact hK.out _ _ (by rw [hA]; simp only [putF]; kernel_rfl) rfl
    · intro K L us W hK0 hL hd hR
      have hK := hid (fun v9 A9 h1 (h3 : v9 = .slice ca cn cc) => hK0 v9 A9 W h1 (hR.pure (by decide) h3)); clear hK0
      clear hd
      simp only [putF]
      rw [hA]
      go_frame
      go_wp2_with fail
      exact hK.out _ _ (by rw [hA]; simp only [putF]; kernel_rfl) rfl
    · intro K L us W hK0 hL hd hR
      have hK := hid (fun v9 A9 h1 (h3 : v9 = .agg #[.int .i64 x.t, .int .i64 x.x, .int .i64 x.y, .int .i64 x.z, .int .i64 x.e, .int .i64 x.a, .int .i64 x.b, .int .i64 x.c, .int .i64 x.d, .int .i64 x.g]) => hK0 v9 A9 W h1 (hR.pure (by decide) h3)); clear hK0
      have hx9 : W.heap[bx]? = some (.cells x.row.toArray 55) := by obtain ⟨_, _, _, hSq⟩ := hR.st; exact hSq.2.2.2
      clear hd
      simp only [putF]
      rw [hA]
      go_frame
      go_wp2_with (refine wpList_load_at rfl 55 (.tmp 10) rfl rfl hx9 Try.underlying55 rfl size55f (row_arr x) ?_)
      exact hK.out _ _ (by rw [hA]; simp only [putF]; kernel_rfl) rfl
    · intro K L us W hK0 hL hd hR
      have e4 : us 4 = .agg #[.int .i64 x.t, .int .i64 x.x, .int .i64 x.y, .int .i64 x.z, .int .i64 x.e, .int .i64 x.a, .int .i64 x.b, .int .i64 x.c, .int .i64 x.d, .int .i64 x.g] := hR.vals 4 (by decide) (all_on hd ⟨4, Ground.data⟩ (by simp) rfl)
      have hS := hR.at 0 (by decide) (.inl rfl) hL
      have hK := hid (fun v9 A9 W9 h1 (hS' : (fun kk vv WW => (match kk with | 0 => PtS WW WT.heap.size (.slice (some ⟨gt, 0, none⟩) n1 ct) vs0 P0 u u p ∧ OwnR WW BX 55 10 (.slice ca cn cc) (p.map Fx.row) | 1 => PtS WW WT.heap.size (.slice (some ⟨gt, 0, none⟩) n1 ct) vs0 P0 u u p ∧ OwnR WW BX 55 10 (.slice ca cn cc) (p.map Fx.row) ∧ (∃ q, vv 0 = .slice (some ⟨q, 0, none⟩) 1 1 ∧ WW.heap[q]? = some (.cells #[.int .i64 x.t, .int .i64 x.x, .int .i64 x.y, .int .i64 x.z, .int .i64 x.e, .int .i64 x.a, .int .i64 x.b, .int .i64 x.c, .int .i64 x.d, .int .i64 x.g] 55)) | 2 => PtS WW WT.heap.size (.slice (some ⟨gt, 0, none⟩) n1 ct) vs0 P0 u (vv 1) (p ++ [x]) | _ => PtS WW WT.heap.size (.slice (some ⟨gt, 0, none⟩) n1 ct) vs0 P0 (vv 1) (vv 1) (p ++ [x])) ∧ Below WT.heap.size WT WW ∧ wx.heap.size ≤ WW.heap.size ∧ WW.heap[bx]? = some (.cells x.row.toArray 55)) 1 (fun j => if j = 0 then v9 else selV [5, 6, 8] us j) W9) => hK0 v9 A9 W9 h1 (hR.next (by decide) 0 (by decide) (.inl rfl) hL hS' (fun h => absurd h (by decide)))); clear hK0
      obtain ⟨⟨hp4, ho4⟩, ⟨hB4, hz4, hx4⟩⟩ := hS
      have P4 := hid hp4
      have O4 := hid ho4
      clear hp4 ho4
      have B4 := hid hB4
      have X4 := hid hx4
      clear hB4 hx4
      clear hd
      simp only [putF]
      rw [hA, e4]
      go_frame
      go_wp2_with fail
      refine hK.out (.slice (some ⟨W.heap.size, 0, none⟩) 1 1) _ _ (by rw [hA]; simp only [putF]; rw [e4]; kernel_rfl) ?_
      exact ⟨⟨P4.out.grow ((Below.refl W.heap.size W).alloc (Nat.le_refl _) (.cells #[.int .i64 x.t, .int .i64 x.x, .int .i64 x.y, .int .i64 x.z, .int .i64 x.e, .int .i64 x.a, .int .i64 x.b, .int .i64 x.c, .int .i64 x.d, .int .i64 x.g] 55)), OwnR.grow O4.out ((Below.refl W.heap.size W).alloc (Nat.le_refl _) (.cells #[.int .i64 x.t, .int .i64 x.x, .int .i64 x.y, .int .i64 x.z, .int .i64 x.e, .int .i64 x.a, .int .i64 x.b, .int .i64 x.c, .int .i64 x.d, .int .i64 x.g] 55)), ⟨W.heap.size, rfl, heap_alloc_at _ _ _ rfl⟩⟩, B4.out.trans (((Below.refl W.heap.size W).alloc (Nat.le_refl _) (.cells #[.int .i64 x.t, .int .i64 x.x, .int .i64 x.y, .int .i64 x.z, .int .i64 x.e, .int .i64 x.a, .int .i64 x.b, .int .i64 x.c, .int .i64 x.d, .int .i64 x.g] 55)).mono B4.out.size), by simp; omega, heap_still ((Below.refl W.heap.size W).alloc (Nat.le_refl _) (.cells #[.int .i64 x.t, .int .i64 x.x, .int .i64 x.y, .int .i64 x.z, .int .i64 x.e, .int .i64 x.a, .int .i64 x.b, .int .i64 x.c, .int .i64 x.d, .int .i64 x.g] 55)) X4.out⟩
    · intro K L us W hK0 hL hd hR
      have e3 : us 3 = .slice ca cn cc := hR.vals 3 (by decide) (all_on hd ⟨3, Ground.data⟩ (by simp) rfl)
      have hS := hR.at 1 (by decide) (.inr ⟨by decide, all_on hd ⟨5, Ground.data⟩ (by simp) rfl⟩) hL
      have hK := hid (fun v9 A9 W9 h1 (hS' : (fun kk vv WW => (match kk with | 0 => PtS WW WT.heap.size (.slice (some ⟨gt, 0, none⟩) n1 ct) vs0 P0 u u p ∧ OwnR WW BX 55 10 (.slice ca cn cc) (p.map Fx.row) | 1 => PtS WW WT.heap.size (.slice (some ⟨gt, 0, none⟩) n1 ct) vs0 P0 u u p ∧ OwnR WW BX 55 10 (.slice ca cn cc) (p.map Fx.row) ∧ (∃ q, vv 0 = .slice (some ⟨q, 0, none⟩) 1 1 ∧ WW.heap[q]? = some (.cells #[.int .i64 x.t, .int .i64 x.x, .int .i64 x.y, .int .i64 x.z, .int .i64 x.e, .int .i64 x.a, .int .i64 x.b, .int .i64 x.c, .int .i64 x.d, .int .i64 x.g] 55)) | 2 => PtS WW WT.heap.size (.slice (some ⟨gt, 0, none⟩) n1 ct) vs0 P0 u (vv 1) (p ++ [x]) | _ => PtS WW WT.heap.size (.slice (some ⟨gt, 0, none⟩) n1 ct) vs0 P0 (vv 1) (vv 1) (p ++ [x])) ∧ Below WT.heap.size WT WW ∧ wx.heap.size ≤ WW.heap.size ∧ WW.heap[bx]? = some (.cells x.row.toArray 55)) 2 (fun j => if j = 1 then v9 else selV [5, 6, 8] us j) W9) => hK0 v9 A9 W9 h1 (hR.next (by decide) 1 (by decide) (.inr ⟨by decide, all_on hd ⟨5, Ground.data⟩ (by simp) rfl⟩) hL hS' (fun h => absurd h (by decide)))); clear hK0
      obtain ⟨⟨hp4, ho4, ⟨q, hq, hq4⟩⟩, ⟨hB4, hz4, hx4⟩⟩ := hS
      have e5 : us 5 = .slice (some ⟨q, 0, none⟩) 1 1 := hq
      have P4 := hid hp4
      have O4 := hid ho4
      have Q4 := hid hq4
      clear hp4 ho4 hq hq4
      have B4 := hid hB4
      have X4 := hid hx4
      clear hB4 hx4
      have HL0 := hid (show BX ≤ W.heap.size by have h1 := HBXW.out; omega)
      have HL1 := hid (show (p.map Fx.row).length + [x.row].length ≤ maxLen by rw [List.length_map, List.length_singleton]; have h1 := HPL.out; unfold maxLen; omega)
      have HL2 := hid (show ((p.map Fx.row).length + [x.row].length) * 80 ≤ 140737488355328 by rw [List.length_map, List.length_singleton]; have h1 := HPL.out; omega)
      clear hd
      simp only [putF]
      rw [hA, e3, e5]
      go_frame
      go_wp2_with (first | (at_builtin; go_loud (refine wpList_append_rowsR rfl (.tmp 96) (.tmp 98) 106 rfl BX 55 i0 _ 10 80 Try.underlying106 HI.out HZ0.out HZ1.out HZ2.out rfl (by decide) (.slice ca cn cc) (p.map Fx.row) [x.row] rfl O4.out q 0 1 1 rfl rfl (rows_one (f := x) Q4.out) (rows_wide [x]) HL1.out HL2.out HL0.out ?_; intro v7 w7 ho1 ho2 ho3; have HO1 := hid ho1; have HO2 := hid ho2; clear ho1 ho2 ho3)))
      refine hK.out v7 _ _ (by rw [hA]; simp only [putF]; rw [e3, e5]; kernel_rfl) ?_
      have HBQ := (Below.refl BX W).grown HO2.out HL0.out (fun k hk => OwnR.ownBlock O4.out k hk)
      refine ⟨P4.out.turn HBQ HTX.out HLO.out HLF.out HO1.out, B4.out.trans (HBQ.mono (Nat.le_of_lt HTX.out)), by have h1 := HBQ.size; omega, (HBQ.block _ HXX.out).trans X4.out⟩
    · intro K L us W hK0 hL hd hR
      have e1 : us 1 = .slice (some ⟨gt, 0, none⟩) n1 ct := hR.vals 1 (by decide) (all_on hd ⟨1, Ground.data⟩ (by simp) rfl)
      have e2 : us 2 = .int .i64 (k0 : Int) := hR.vals 2 (by decide) (all_on hd ⟨2, Ground.data⟩ (by simp) rfl)
      have hK := hid (fun v9 A9 h1 (h3 : v9 = .pointer (some ⟨gt, k0, none⟩)) => hK0 v9 A9 W h1 (hR.pure (by decide) h3)); clear hK0
      clear hd
      simp only [putF]
      rw [hA, e1, e2]
      go_frame
      go_wp2_with fail
      exact hK.out _ _ (by rw [hA]; simp only [putF]; rw [e1, e2]; kernel_rfl) rfl
    · intro K L us W hK0 hL hd hR
      have e7 : us 7 = .pointer (some ⟨gt, k0, none⟩) := hR.vals 7 (by decide) (all_on hd ⟨7, Ground.data⟩ (by simp) rfl)
      have hS := hR.at 2 (by decide) (.inr ⟨by decide, all_on hd ⟨6, Ground.data⟩ (by simp) rfl⟩) hL
      have hK := hid (fun v9 A9 W9 h1 (hS' : (fun kk vv WW => (match kk with | 0 => PtS WW WT.heap.size (.slice (some ⟨gt, 0, none⟩) n1 ct) vs0 P0 u u p ∧ OwnR WW BX 55 10 (.slice ca cn cc) (p.map Fx.row) | 1 => PtS WW WT.heap.size (.slice (some ⟨gt, 0, none⟩) n1 ct) vs0 P0 u u p ∧ OwnR WW BX 55 10 (.slice ca cn cc) (p.map Fx.row) ∧ (∃ q, vv 0 = .slice (some ⟨q, 0, none⟩) 1 1 ∧ WW.heap[q]? = some (.cells #[.int .i64 x.t, .int .i64 x.x, .int .i64 x.y, .int .i64 x.z, .int .i64 x.e, .int .i64 x.a, .int .i64 x.b, .int .i64 x.c, .int .i64 x.d, .int .i64 x.g] 55)) | 2 => PtS WW WT.heap.size (.slice (some ⟨gt, 0, none⟩) n1 ct) vs0 P0 u (vv 1) (p ++ [x]) | _ => PtS WW WT.heap.size (.slice (some ⟨gt, 0, none⟩) n1 ct) vs0 P0 (vv 1) (vv 1) (p ++ [x])) ∧ Below WT.heap.size WT WW ∧ wx.heap.size ≤ WW.heap.size ∧ WW.heap[bx]? = some (.cells x.row.toArray 55)) 3 (fun j => if j = 2 then v9 else selV [5, 6, 8] us j) W9) => hK0 v9 A9 W9 h1 (hR.next (by decide) 2 (by decide) (.inr ⟨by decide, all_on hd ⟨6, Ground.data⟩ (by simp) rfl⟩) hL hS' (fun _ => by intro j hj; rw [List.mem_singleton.1 hj]; exact all_on hd ⟨1, Ground.phase⟩ (by simp) rfl))); clear hK0
      obtain ⟨hp4, ⟨hB4, hz4, hx4⟩⟩ := hS
      obtain ⟨v7, e6⟩ : ∃ v, us 6 = v := ⟨_, rfl⟩
      have hp5 : PtS W WT.heap.size (.slice (some ⟨gt, 0, none⟩) n1 ct) vs0 P0 u (us 6) (p ++ [x]) := hp4
      rw [e6] at hp5
      obtain ⟨a9, c9, e99⟩ := OwnR.slice hp5.last
      subst e99
      generalize hl9 : ((p ++ [x]).map Fx.row).length = n9 at *
      have P4 := hid hp5
      clear hp4 hp5 hl9
      have B4 := hid hB4
      have X4 := hid hx4
      clear hB4 hx4
      obtain ⟨gq, cq, C, hvq, hTq, hC, hsz, hcu⟩ := P4.out.opened
      obtain ⟨eg, _⟩ : gt = gq ∧ True := ⟨(by injection hvq with h1 _ _; injection h1 with h1; injection h1), trivial⟩
      subst eg
      rw [← HK0.out] at hsz
      have HC := hid hC
      clear hC hvq hcu
      clear hd
      simp only [putF]
      rw [hA, e7, e6]
      go_frame
      go_wp2_with (first | (go_loud (refine pt_store1 rfl 106 (.tmp 100) (.tmp 99) rfl gt k0 _ rfl rfl rfl rfl HC.out size106 hsz ?_)))
      refine hK.out undef _ _ (by rw [hA]; simp only [putF]; rw [e7, e6]; kernel_rfl) ?_
      refine ⟨?_, below_setRow B4.out hTq _, by simp; omega, (setRow_other _ _ _ _ (fun e => by have h1 := X4.out; rw [e, HC.out] at h1; injection h1 with h1; injection h1 with _ h1; exact absurd h1 (by decide))).trans X4.out⟩
      show PtS _ WT.heap.size (.slice (some ⟨gt, 0, none⟩) n1 ct) vs0 P0 (us 6) (us 6) (p ++ [x])
      rw [e6, HK0.out]
      exact P4.out.put HC.out rfl
  case htZ =>
    intro L us W5 hall hR
    have hS := hR.last (fun i hi => match i, hi with | 0, _ => hall 5 (by decide) | 1, _ => hall 6 (by decide) | 2, _ => hall 8 (by decide))
    have e0 : us 0 = .pointer (some ⟨WT.heap.size, 0, none⟩) := hR.vals 0 (by decide) (hall 0 (by decide))
    have e1 : us 1 = .slice (some ⟨gt, 0, none⟩) n1 ct := hR.vals 1 (by decide) (hall 1 (by decide))
    have e2 : us 2 = .int .i64 (k0 : Int) := hR.vals 2 (by decide) (hall 2 (by decide))
    have e3 : us 3 = .slice ca cn cc := hR.vals 3 (by decide) (hall 3 (by decide))
    have e4 : us 4 = .agg #[.int .i64 x.t, .int .i64 x.x, .int .i64 x.y, .int .i64 x.z, .int .i64 x.e, .int .i64 x.a, .int .i64 x.b, .int .i64 x.c, .int .i64 x.d, .int .i64 x.g] := hR.vals 4 (by decide) (hall 4 (by decide))
    have e7 : us 7 = .pointer (some ⟨gt, k0, none⟩) := hR.vals 7 (by decide) (hall 7 (by decide))
    clear hR hall
    obtain ⟨hp5, hB5, _, hx5⟩ := hS
    obtain ⟨v5, e5⟩ : ∃ v, us 5 = v := ⟨_, rfl⟩
    obtain ⟨v6, e6⟩ : ∃ v, us 6 = v := ⟨_, rfl⟩
    have hp6 : PtS W5 WT.heap.size (.slice (some ⟨gt, 0, none⟩) n1 ct) vs0 P0 (us 6) (us 6) (p ++ [x]) := hp5
    rw [e6] at hp6
    have P5 := hid hp6
    have B5 := hid hB5
    clear hp5 hp6 hB5 hx5
    simp only [putF]
    rw [hA, e0, e1, e2, e3, e4, e7, e5, e6]
    go_frame
    clear hA e5 e6 e0 e1 e2 e3 e4 e7
    exact HQ.out _ _ _ _ _ _ _ _ _ _ P5.out B5.out
set_option maxRecDepth 100000 in
set_option maxHeartbeats 3200000 in
theorem parts_copy (s0 s1 s2 s3 s4 s5 s6 s7 s9 s12 s13 s14 s15 s16 s17 s18 s19 s20 s21 s22 s23 s24 s25 s26 s27 s28 s29 s30 s31 s32 s33 s34 s35 s36 s37 s38 s39 s40 s41 s42 s43 s44 s45 s46 s47 s48 s49 s50 s51 s52 s53 s54 s55 s56 s57 s58 s59 s60 s61 s62 s63 s64 s65 s66 s67 s68 s69 s70 s71 s72 s73 s74 s75 s76 s77 s78 s79 s80 s81 s82 s83 s84 s85 s86 s87 s88 s89 s90 s91 s92 s93 s94 s95 s96 s97 s98 s99 s100 s101 s102 : Value) (WT wx : World) (gt n1 k0 ct bx : Nat) (vs0 : List Value) (P0 : List (List Fx)) (u : Value) (p : List Fx) (Q : Exit → Act → World → Prop) (R : Code) (hR : Try.f70.body.bind (findR 17) = some R) (hk0 : k0 = vs0.length) (hnt : k0 < n1)
    (hpt : PtS wx WT.heap.size (.slice (some ⟨gt, 0, none⟩) n1 ct) vs0 P0 u u p) (hpl : p.length ≤ 1000)
    (h : ∀ (u86 u87 u88 u89 u90 u91 u92 : Value) (cn cc : Nat) (ca : Option Addr) (W5 : World), OwnR W5 wx.heap.size 55 10 (.slice ca cn cc) (p.map Fx.row) → Below wx.heap.size wx W5 → Q Exit.normal ({ tmps := List.toArray (List.cons (s0) (List.cons (s1) (List.cons (s2) (List.cons (s3) (List.cons (s4) (List.cons (s5) (List.cons (s6) (List.cons (s7) (List.cons (.pointer (some ⟨WT.heap.size, 0, none⟩)) (List.cons (s9) (List.cons (.pointer (some ⟨bx, 0, none⟩)) (List.cons (.int .i64 (k0 : Int)) (List.cons (.slice ca cn cc) (List.cons (s13) (List.cons (s14) (List.cons (s15) (List.cons (s16) (List.cons (s17) (List.cons (s18) (List.cons (s19) (List.cons (s20) (List.cons (s21) (List.cons (s22) (List.cons (s23) (List.cons (s24) (List.cons (s25) (List.cons (s26) (List.cons (s27) (List.cons (s28) (List.cons (s29) (List.cons (s30) (List.cons (s31) (List.cons (s32) (List.cons (s33) (List.cons (s34) (List.cons (s35) (List.cons (s36) (List.cons (s37) (List.cons (s38) (List.cons (s39) (List.cons (s40) (List.cons (s41) (List.cons (s42) (List.cons (s43) (List.cons (s44) (List.cons (s45) (List.cons (s46) (List.cons (s47) (List.cons (s48) (List.cons (s49) (List.cons (s50) (List.cons (s51) (List.cons (s52) (List.cons (s53) (List.cons (s54) (List.cons (s55) (List.cons (s56) (List.cons (s57) (List.cons (s58) (List.cons (s59) (List.cons (s60) (List.cons (s61) (List.cons (s62) (List.cons (s63) (List.cons (s64) (List.cons (s65) (List.cons (s66) (List.cons (s67) (List.cons (s68) (List.cons (s69) (List.cons (s70) (List.cons (s71) (List.cons (s72) (List.cons (s73) (List.cons (s74) (List.cons (s75) (List.cons (s76) (List.cons (s77) (List.cons (s78) (List.cons (s79) (List.cons (s80) (List.cons (s81) (List.cons (s82) (List.cons (s83) (List.cons (s84) (List.cons (s85) (List.cons (u86) (List.cons (u87) (List.cons (u88) (List.cons (u89) (List.cons (u90) (List.cons (u91) (List.cons (u92) (List.cons (s93) (List.cons (s94) (List.cons (s95) (List.cons (s96) (List.cons (s97) (List.cons (s98) (List.cons (s99) (List.cons (s100) (List.cons (s101) (List.cons (s102) List.nil))))))))))))))))))))))))))))))))))))))))))))))))))))))))))))))))))))))))))))))))))))))))))))))))))))))), defers := [] } : Act) W5) :
    Code.wp Try.prog R Q ({ tmps := List.toArray (List.cons (s0) (List.cons (s1) (List.cons (s2) (List.cons (s3) (List.cons (s4) (List.cons (s5) (List.cons (s6) (List.cons (s7) (List.cons (.pointer (some ⟨WT.heap.size, 0, none⟩)) (List.cons (s9) (List.cons (.pointer (some ⟨bx, 0, none⟩)) (List.cons (.int .i64 (k0 : Int)) (List.cons (s12) (List.cons (s13) (List.cons (s14) (List.cons (s15) (List.cons (s16) (List.cons (s17) (List.cons (s18) (List.cons (s19) (List.cons (s20) (List.cons (s21) (List.cons (s22) (List.cons (s23) (List.cons (s24) (List.cons (s25) (List.cons (s26) (List.cons (s27) (List.cons (s28) (List.cons (s29) (List.cons (s30) (List.cons (s31) (List.cons (s32) (List.cons (s33) (List.cons (s34) (List.cons (s35) (List.cons (s36) (List.cons (s37) (List.cons (s38) (List.cons (s39) (List.cons (s40) (List.cons (s41) (List.cons (s42) (List.cons (s43) (List.cons (s44) (List.cons (s45) (List.cons (s46) (List.cons (s47) (List.cons (s48) (List.cons (s49) (List.cons (s50) (List.cons (s51) (List.cons (s52) (List.cons (s53) (List.cons (s54) (List.cons (s55) (List.cons (s56) (List.cons (s57) (List.cons (s58) (List.cons (s59) (List.cons (s60) (List.cons (s61) (List.cons (s62) (List.cons (s63) (List.cons (s64) (List.cons (s65) (List.cons (s66) (List.cons (s67) (List.cons (s68) (List.cons (s69) (List.cons (s70) (List.cons (s71) (List.cons (s72) (List.cons (s73) (List.cons (s74) (List.cons (s75) (List.cons (s76) (List.cons (s77) (List.cons (s78) (List.cons (s79) (List.cons (s80) (List.cons (s81) (List.cons (s82) (List.cons (s83) (List.cons (s84) (List.cons (s85) (List.cons (s86) (List.cons (s87) (List.cons (s88) (List.cons (s89) (List.cons (s90) (List.cons (s91) (List.cons (s92) (List.cons (s93) (List.cons (s94) (List.cons (s95) (List.cons (s96) (List.cons (s97) (List.cons (s98) (List.cons (s99) (List.cons (s100) (List.cons (s101) (List.cons (s102) List.nil))))))))))))))))))))))))))))))))))))))))))))))))))))))))))))))))))))))))))))))))))))))))))))))))))))))), defers := [] } : Act) wx := by
  have HK0 := hid hk0
  have HPT := hid hpt
  have HPL := hid hpl
  have HQ := hid h
  have hB9 : Below wx.heap.size wx (wx.alloc (.cells #[] 55)) := (Below.refl _ _).alloc (Nat.le_refl _) _
  have ct8 : (wx.alloc (.cells #[] 55)).cell? ⟨WT.heap.size, 0, none⟩ = some (.slice (some ⟨gt, 0, none⟩) n1 ct) := (cell_row (j := 0) (hpt.grow hB9).hT).trans rfl
  have cu : (wx.alloc (.cells #[] 55)).cell? ⟨gt, k0, none⟩ = some u := (hpt.grow hB9).cellU hk0
  clear hk0 hpt hpl h hB9
  obtain ⟨i0, hinf, hz0, hz1, hz2⟩ := info_parts info55f
  have HI := hid hinf
  have HZ0 := hid hz0
  have HZ1 := hid hz1
  have HZ2 := hid hz2
  clear hinf hz0 hz1 hz2
  simp [findR, Try.f70] at hR
  subst hR
  have HNEW := hid (show OwnR (wx.alloc (.cells #[] 55)) wx.heap.size 55 10 (.slice (some ⟨wx.heap.size, 0, none⟩) 0 0) ([].map Fx.row) from ⟨Wide.nil 10, rfl, Or.inr ⟨_, 0, #[], rfl, Nat.le_refl _, (by repeat' (first | (refine heap_alloc_at _ _ _ ?_; (first | rfl | (simp; done) | (simp; omega))) | (refine heap_alloc_past _ _ _ _ ?_))), Nat.le_refl _, by unfold maxLen; omega, rfl, rfl⟩⟩)
  have HBN := hid (show Below wx.heap.size wx (wx.alloc (.cells #[] 55)) from (Below.refl _ _).alloc (Nat.le_refl _) _)
  have HLST := hid HPT.out.last
  rcases HLST.out.2 with ⟨_, h0 | ⟨g, cap, C, hue, hgT, hgC, hcp, hmx, hcr, _⟩⟩
  · have hpn : p = [] := List.map_eq_nil_iff.1 (List.length_eq_zero_iff.1 h0.2)
    have hu : u = .slice none 0 0 := h0.1
    subst hu
    have HOY := hid (show OwnR (wx.alloc (.cells #[] 55)) wx.heap.size 55 10 (.slice (some ⟨wx.heap.size, 0, none⟩) 0 0) (p.map Fx.row) by rw [hpn]; exact HNEW.out)
    clear h0 hpn
    go_wp2_with fail
    exact HQ.out _ _ _ _ _ _ _ _ _ _ _ HOY.out HBN.out
  · obtain ⟨pn, hpn⟩ : ∃ pn, pn = (p.map Fx.row).length := ⟨_, rfl⟩
    rw [← hpn] at hue
    subst hue
    have HGA := hid (heap_still HBN.out hgC)
    have HRW := hid (show RowsAt (wx.alloc (.cells #[] 55)) g 0 10 (p.map Fx.row) from by
      by_cases hz : p = []
      · subst hz; exact fun i r hi => by simp at hi
      · obtain ⟨g', cap', C', e', _, hC', hr', _⟩ := OwnR.rows HLST.out (by rw [List.length_map]; exact List.length_pos_iff.2 hz)
        injection e' with e1 _ _
        injection e1 with e1
        injection e1 with e1
        subst e1
        exact hr'.still HBN.out (Array.getElem?_eq_some_iff.1 hC').1)
    have HPN := hid hpn
    have HL1 := hid (show (([] : List Fx).map Fx.row).length + (p.map Fx.row).length ≤ maxLen by rw [List.length_map, List.length_map]; have h1 := HPL.out; unfold maxLen; simp; omega)
    have HL2 := hid (show ((([] : List Fx).map Fx.row).length + (p.map Fx.row).length) * 80 ≤ 140737488355328 by rw [List.length_map, List.length_map]; have h1 := HPL.out; simp; omega)
    have HL3 := hid (show wx.heap.size ≤ (wx.alloc (.cells #[] 55)).heap.size by simp)
    clear hpn hgC hcp hmx hcr hgT
    go_wp2_with (first | (at_builtin; go_loud (refine wpList_append_rowsR rfl (.tmp 86) (.tmp 91) 106 rfl wx.heap.size 55 i0 _ 10 80 Try.underlying106 HI.out HZ0.out HZ1.out HZ2.out rfl (by decide) (.slice (some ⟨wx.heap.size, 0, none⟩) 0 0) (([] : List Fx).map Fx.row) (p.map Fx.row) rfl HNEW.out g 0 pn cap HPN.out rfl HRW.out (rows_wide p) HL1.out HL2.out HL3.out ?_; intro v6 wy ho1 ho2 ho3; obtain ⟨ca, cc, hce⟩ := OwnR.slice ho1; obtain ⟨cn, hcn⟩ : ∃ cn, cn = (([] : List Fx).map Fx.row ++ p.map Fx.row).length := ⟨_, rfl⟩; rw [← hcn] at hce; subst hce; have HOY := hid (show OwnR wy wx.heap.size 55 10 (.slice ca cn cc) (p.map Fx.row) from ho1); have HBY := hid (show Below wx.heap.size wx wy from HBN.out.grown ho2 HL3.out (fun k hk => OwnR.ownBlock HNEW.out k hk)); clear ho1 ho2 ho3 hcn)))
    exact HQ.out _ _ _ _ _ _ _ _ _ _ wy HOY.out HBY.out
theorem PtS.lows {W : World} {T : Nat} {tv u v : Value} {vs0 : List Value} {P0 : List (List Fx)} {p : List Fx} (h : PtS W T tv vs0 P0 u v p) : T < W.heap.size ∧ (∀ k, tv.ownBlock = some k → k < W.heap.size) ∧ ∀ (i : Nat) (y : Value), vs0[i]? = some y → ∀ k, y.ownBlock = some k → k < W.heap.size := by
  have hlen : ∀ {k : Nat} {o : Obj}, W.heap[k]? = some o → k < W.heap.size := fun h => (Array.getElem?_eq_some_iff.1 h).1
  refine ⟨hlen h.hT, fun k e => by obtain ⟨_, h9⟩ := own_type h.o e; exact hlen h9, fun i y hy k e => ?_⟩
  obtain ⟨q, hq⟩ : ∃ q, P0[i]? = some q := ⟨_, List.getElem?_eq_getElem (by rw [← h.len]; exact (List.getElem?_eq_some_iff.1 hy).1)⟩
  obtain ⟨_, h9⟩ := own_type (h.oth i y q hy hq) e
  exact hlen h9
theorem apartV_comm (a b : Int) : apartV a b = apartV b a := by
  unfold apartV
  split <;> split <;> omega
theorem mostV_comm (ea eb s ta tb : Int) : mostV ea eb s ta tb = mostV eb ea s tb ta := by
  unfold mostV
  rw [apartV_comm ta tb, Int.add_comm ea eb]
theorem nearB_comm (m : Int) (p q : Fx) : nearB m p q = nearB m q p := by
  unfold nearB
  rw [apartV_comm p.x q.x, apartV_comm p.y q.y, apartV_comm p.z q.z, mostV_comm p.e q.e m p.t q.t]
end Go.Proofs.Yteoikaedpgianaa
