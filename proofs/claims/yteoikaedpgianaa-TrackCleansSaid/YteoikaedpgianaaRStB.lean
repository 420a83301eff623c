/- The reference's states (127): its tests. (Printed by wip/gen_stb.py.) The reference's states (127). (Printed by wip/gen_stc.py.) -/
import Derived.Test.YteoikaedpgianaaRStA
import Derived.Test.YteoikaedpgianaaROrdA
namespace Go.Proofs.Yteoikaedpgianaa
open Go.RowKit Go.Sort Go.Lib Go.Shelf Go.Proofs

set_option maxRecDepth 100000 in
set_option maxHeartbeats 3200000 in
/-- a neighbour has the same time -/
theorem states_twice (s1 s2 s3 s4 s5 s6 s7 s8 s9 s11 s12 s13 s14 s15 s16 s17 s18 s19 s20 s21 s22 s23 s24 s25 s26 s27 s28 s29 s30 s31 s32 s33 s34 s35 s36 s37 s38 s39 s40 s41 s42 s43 s44 s45 s46 s47 s48 s49 s50 s51 s52 s53 s54 s55 s56 s57 s58 s59 s60 s61 s62 s63 s64 s65 s66 s67 s68 s69 s70 s71 s72 s73 s74 s75 s76 s77 s78 s79 s80 s81 s82 s83 s84 s85 s86 s87 s88 s89 s90 s91 s92 s93 s94 s95 s96 s97 s98 s99 s100 s101 s102 s103 s104 s105 s106 s107 s108 s109 s110 s111 s112 s113 s114 s115 s116 s117 s118 s119 s120 s121 s122 s123 s124 s125 s126 s127 s128 s129 s130 s131 s132 s133 s134 s135 s136 s137 s138 s139 s140 s141 s142 s143 s144 s145 s146 s147 s148 s149 s150 s151 : Value) (w : World) (b off n fc i : Nat) (x : Fx) (L : List Fx) (Q : Exit → Act → World → Prop) (R : Code) (hR : Try.f127.body.bind (findR 6) = some R) (hrow : RowsAt w b off 10 (L.map Fx.row)) (hx : L[i]? = some x) (hnl : n = L.length) (hn : n ≤ 1000) (hin : i < n)
    (HQ : Hid (∀ (u26 u27 u28 u29 u30 u31 u32 u33 u34 u35 u36 u37 u38 u39 u40 u41 u42 u43 u44 u45 u46 u47 u48 u49 u50 u51 u52 u53 u54 u55 u56 u57 u58 u59 u60 u61 : Value) (W5 : World), Below w.heap.size w W5 → Q Exit.normal ({ tmps := List.toArray (List.cons (.slice (some ⟨b, off, none⟩) n fc) (List.cons (s1) (List.cons (s2) (List.cons (s3) (List.cons (s4) (List.cons (s5) (List.cons (s6) (List.cons (s7) (List.cons (s8) (List.cons (s9) (List.cons (.int .i64 (i : Int)) (List.cons (s11) (List.cons (s12) (List.cons (s13) (List.cons (s14) (List.cons (s15) (List.cons (s16) (List.cons (s17) (List.cons (s18) (List.cons (s19) (List.cons (s20) (List.cons (s21) (List.cons (s22) (List.cons (s23) (List.cons (s24) (List.cons (s25) (List.cons (u26) (List.cons (u27) (List.cons (u28) (List.cons (u29) (List.cons (u30) (List.cons (u31) (List.cons (u32) (List.cons (u33) (List.cons (u34) (List.cons (u35) (List.cons (u36) (List.cons (u37) (List.cons (u38) (List.cons (u39) (List.cons (u40) (List.cons (u41) (List.cons (u42) (List.cons (u43) (List.cons (u44) (List.cons (u45) (List.cons (u46) (List.cons (u47) (List.cons (u48) (List.cons (u49) (List.cons (u50) (List.cons (u51) (List.cons (u52) (List.cons (u53) (List.cons (u54) (List.cons (u55) (List.cons (u56) (List.cons (u57) (List.cons (u58) (List.cons (u59) (List.cons (u60) (List.cons (u61) (List.cons (.bool (twiceG Fx.t L i)) (List.cons (s63) (List.cons (s64) (List.cons (s65) (List.cons (s66) (List.cons (s67) (List.cons (s68) (List.cons (s69) (List.cons (s70) (List.cons (s71) (List.cons (s72) (List.cons (s73) (List.cons (s74) (List.cons (s75) (List.cons (s76) (List.cons (s77) (List.cons (s78) (List.cons (s79) (List.cons (s80) (List.cons (s81) (List.cons (s82) (List.cons (s83) (List.cons (s84) (List.cons (s85) (List.cons (s86) (List.cons (s87) (List.cons (s88) (List.cons (s89) (List.cons (s90) (List.cons (s91) (List.cons (s92) (List.cons (s93) (List.cons (s94) (List.cons (s95) (List.cons (s96) (List.cons (s97) (List.cons (s98) (List.cons (s99) (List.cons (s100) (List.cons (s101) (List.cons (s102) (List.cons (s103) (List.cons (s104) (List.cons (s105) (List.cons (s106) (List.cons (s107) (List.cons (s108) (List.cons (s109) (List.cons (s110) (List.cons (s111) (List.cons (s112) (List.cons (s113) (List.cons (s114) (List.cons (s115) (List.cons (s116) (List.cons (s117) (List.cons (s118) (List.cons (s119) (List.cons (s120) (List.cons (s121) (List.cons (s122) (List.cons (s123) (List.cons (s124) (List.cons (s125) (List.cons (s126) (List.cons (s127) (List.cons (s128) (List.cons (s129) (List.cons (s130) (List.cons (s131) (List.cons (s132) (List.cons (s133) (List.cons (s134) (List.cons (s135) (List.cons (s136) (List.cons (s137) (List.cons (s138) (List.cons (s139) (List.cons (s140) (List.cons (s141) (List.cons (s142) (List.cons (s143) (List.cons (s144) (List.cons (s145) (List.cons (s146) (List.cons (s147) (List.cons (s148) (List.cons (s149) (List.cons (s150) (List.cons (s151) List.nil)))))))))))))))))))))))))))))))))))))))))))))))))))))))))))))))))))))))))))))))))))))))))))))))))))))))))))))))))))))))))))))))))))))))))))))))))))))))), defers := [] } : Act) W5)) :
    Code.wp Try.prog R Q ({ tmps := List.toArray (List.cons (.slice (some ⟨b, off, none⟩) n fc) (List.cons (s1) (List.cons (s2) (List.cons (s3) (List.cons (s4) (List.cons (s5) (List.cons (s6) (List.cons (s7) (List.cons (s8) (List.cons (s9) (List.cons (.int .i64 (i : Int)) (List.cons (s11) (List.cons (s12) (List.cons (s13) (List.cons (s14) (List.cons (s15) (List.cons (s16) (List.cons (s17) (List.cons (s18) (List.cons (s19) (List.cons (s20) (List.cons (s21) (List.cons (s22) (List.cons (s23) (List.cons (s24) (List.cons (s25) (List.cons (s26) (List.cons (s27) (List.cons (s28) (List.cons (s29) (List.cons (s30) (List.cons (s31) (List.cons (s32) (List.cons (s33) (List.cons (s34) (List.cons (s35) (List.cons (s36) (List.cons (s37) (List.cons (s38) (List.cons (s39) (List.cons (s40) (List.cons (s41) (List.cons (s42) (List.cons (s43) (List.cons (s44) (List.cons (s45) (List.cons (s46) (List.cons (s47) (List.cons (s48) (List.cons (s49) (List.cons (s50) (List.cons (s51) (List.cons (s52) (List.cons (s53) (List.cons (s54) (List.cons (s55) (List.cons (s56) (List.cons (s57) (List.cons (s58) (List.cons (s59) (List.cons (s60) (List.cons (s61) (List.cons (s62) (List.cons (s63) (List.cons (s64) (List.cons (s65) (List.cons (s66) (List.cons (s67) (List.cons (s68) (List.cons (s69) (List.cons (s70) (List.cons (s71) (List.cons (s72) (List.cons (s73) (List.cons (s74) (List.cons (s75) (List.cons (s76) (List.cons (s77) (List.cons (s78) (List.cons (s79) (List.cons (s80) (List.cons (s81) (List.cons (s82) (List.cons (s83) (List.cons (s84) (List.cons (s85) (List.cons (s86) (List.cons (s87) (List.cons (s88) (List.cons (s89) (List.cons (s90) (List.cons (s91) (List.cons (s92) (List.cons (s93) (List.cons (s94) (List.cons (s95) (List.cons (s96) (List.cons (s97) (List.cons (s98) (List.cons (s99) (List.cons (s100) (List.cons (s101) (List.cons (s102) (List.cons (s103) (List.cons (s104) (List.cons (s105) (List.cons (s106) (List.cons (s107) (List.cons (s108) (List.cons (s109) (List.cons (s110) (List.cons (s111) (List.cons (s112) (List.cons (s113) (List.cons (s114) (List.cons (s115) (List.cons (s116) (List.cons (s117) (List.cons (s118) (List.cons (s119) (List.cons (s120) (List.cons (s121) (List.cons (s122) (List.cons (s123) (List.cons (s124) (List.cons (s125) (List.cons (s126) (List.cons (s127) (List.cons (s128) (List.cons (s129) (List.cons (s130) (List.cons (s131) (List.cons (s132) (List.cons (s133) (List.cons (s134) (List.cons (s135) (List.cons (s136) (List.cons (s137) (List.cons (s138) (List.cons (s139) (List.cons (s140) (List.cons (s141) (List.cons (s142) (List.cons (s143) (List.cons (s144) (List.cons (s145) (List.cons (s146) (List.cons (s147) (List.cons (s148) (List.cons (s149) (List.cons (s150) (List.cons (s151) List.nil)))))))))))))))))))))))))))))))))))))))))))))))))))))))))))))))))))))))))))))))))))))))))))))))))))))))))))))))))))))))))))))))))))))))))))))))))))))))), defers := [] } : Act) w := by
  simp [findR, Try.f127] at hR
  subst hR
  have HNL := hid hnl
  clear hnl
  have HX := hid hx
  have HRW := hid hrow
  have HQ := HQ
  have cx := fun d os => cell_regrown (w := w) (a := ⟨b, off + i * 10, none⟩) (v := .int .i64 x.t) (row_off HRW.out hx (off + i * 10) rfl 0 (by decide)) d os
  clear hx hrow
  by_cases hl0 : i = 0
  · have d0 : decide ((0 : Int) < (i : Int)) = false := decide_eq_false (by omega)
    have hi0 : ¬ 0 < i := by omega
    have d0n : decide (0 < i) = false := decide_eq_false hi0
    have HL0 := hid hl0
    clear hl0
    by_cases hr : i + 1 < n
    · obtain ⟨z, hz⟩ : ∃ z, L[i + 1]? = some z := ⟨_, List.getElem?_eq_getElem (by have := HNL.out; omega)⟩
      have cz := fun d os => cell_regrown (w := w) (a := ⟨b, off + (i + 1) * 10, none⟩) (v := .int .i64 z.t) (row_off HRW.out hz (off + (i + 1) * 10) rfl 0 (by decide)) d os
      have d1 : decide ((i : Int) + 1 < (n : Int)) = true := decide_eq_true (by omega)
      by_cases hzt : z.t = x.t
      · have ez : (z.t == x.t) = true := by simpa using hzt
        have fz : decide (z.t = x.t) = true := by simpa using hzt
        have HTW := hid (show twiceG Fx.t L i = true from tw_right (by have := HNL.out; omega) HX.out hz hzt)
        rw [HTW.out] at HQ
        refine wp_region_quiet_below (by kernel_rfl) (by kernel_rfl) ?_
        repeat (first | go_big_quiet_step (fail) | quiet_step (fail))
        refine wpQuiet_nil ?_
        intro _ hw'
        obtain ⟨⟨dqV, osV⟩, hw2⟩ := hw'
        subst hw2
        have HQV := hid (below_regrown w dqV osV)
        generalize Sort.grow (redrawn w dqV) osV = V at HQV ⊢
        have hsV := HQV.out.size
        exact HQ.out _ _ _ _ _ _ _ _ _ _ _ _ _ _ _ _ _ _ _ _ _ _ _ _ _ _ _ _ _ _ _ _ _ _ _ _ V HQV.out
      · have ez : (z.t == x.t) = false := by simpa using hzt
        have fz : decide (z.t = x.t) = false := by simpa using hzt
        have HTW := hid (show twiceG Fx.t L i = false from tw_no HX.out (.inl HL0.out) (.inr ⟨z, hz, hzt⟩))
        rw [HTW.out] at HQ
        refine wp_region_quiet_below (by kernel_rfl) (by kernel_rfl) ?_
        repeat (first | go_big_quiet_step (fail) | quiet_step (fail))
        refine wpQuiet_nil ?_
        intro _ hw'
        obtain ⟨⟨dqV, osV⟩, hw2⟩ := hw'
        subst hw2
        have HQV := hid (below_regrown w dqV osV)
        generalize Sort.grow (redrawn w dqV) osV = V at HQV ⊢
        have hsV := HQV.out.size
        exact HQ.out _ _ _ _ _ _ _ _ _ _ _ _ _ _ _ _ _ _ _ _ _ _ _ _ _ _ _ _ _ _ _ _ _ _ _ _ V HQV.out
    · have d1 : decide ((i : Int) + 1 < (n : Int)) = false := decide_eq_false (by omega)
      have HTW := hid (show twiceG Fx.t L i = false from tw_no HX.out (.inl HL0.out) (.inl (by have := HNL.out; omega)))
      rw [HTW.out] at HQ
      refine wp_region_quiet_below (by kernel_rfl) (by kernel_rfl) ?_
      repeat (first | go_big_quiet_step (fail) | quiet_step (fail))
      refine wpQuiet_nil ?_
      intro _ hw'
      obtain ⟨⟨dqV, osV⟩, hw2⟩ := hw'
      subst hw2
      have HQV := hid (below_regrown w dqV osV)
      generalize Sort.grow (redrawn w dqV) osV = V at HQV ⊢
      have hsV := HQV.out.size
      exact HQ.out _ _ _ _ _ _ _ _ _ _ _ _ _ _ _ _ _ _ _ _ _ _ _ _ _ _ _ _ _ _ _ _ _ _ _ _ V HQV.out
  · obtain ⟨y, hy⟩ : ∃ y, L[i - 1]? = some y := ⟨_, List.getElem?_eq_getElem (by have := HNL.out; omega)⟩
    have cy := fun d os => cell_regrown (w := w) (a := ⟨b, off + (i - 1) * 10, none⟩) (v := .int .i64 y.t) (row_off HRW.out hy (off + (i - 1) * 10) rfl 0 (by decide)) d os
    have hi0 : 0 < i := by omega
    have d0 : decide ((0 : Int) < (i : Int)) = true := decide_eq_true (by omega)
    by_cases hyt : y.t = x.t
    · have ey : (y.t == x.t) = true := by simpa using hyt
      have fy : decide (y.t = x.t) = true := by simpa using hyt
      have HTW := hid (show twiceG Fx.t L i = true from tw_left hi0 HX.out hy hyt)
      rw [HTW.out] at HQ
      refine wp_region_quiet_below (by kernel_rfl) (by kernel_rfl) ?_
      repeat (first | go_big_quiet_step (fail) | quiet_step (fail))
      refine wpQuiet_nil ?_
      intro _ hw'
      obtain ⟨⟨dqV, osV⟩, hw2⟩ := hw'
      subst hw2
      have HQV := hid (below_regrown w dqV osV)
      generalize Sort.grow (redrawn w dqV) osV = V at HQV ⊢
      have hsV := HQV.out.size
      exact HQ.out _ _ _ _ _ _ _ _ _ _ _ _ _ _ _ _ _ _ _ _ _ _ _ _ _ _ _ _ _ _ _ _ _ _ _ _ V HQV.out
    · have ey : (y.t == x.t) = false := by simpa using hyt
      have fy : decide (y.t = x.t) = false := by simpa using hyt
      by_cases hr : i + 1 < n
      · obtain ⟨z, hz⟩ : ∃ z, L[i + 1]? = some z := ⟨_, List.getElem?_eq_getElem (by have := HNL.out; omega)⟩
        have cz := fun d os => cell_regrown (w := w) (a := ⟨b, off + (i + 1) * 10, none⟩) (v := .int .i64 z.t) (row_off HRW.out hz (off + (i + 1) * 10) rfl 0 (by decide)) d os
        have d1 : decide ((i : Int) + 1 < (n : Int)) = true := decide_eq_true (by omega)
        by_cases hzt : z.t = x.t
        · have ez : (z.t == x.t) = true := by simpa using hzt
          have fz : decide (z.t = x.t) = true := by simpa using hzt
          have HTW := hid (show twiceG Fx.t L i = true from tw_right (by have := HNL.out; omega) HX.out hz hzt)
          rw [HTW.out] at HQ
          refine wp_region_quiet_below (by kernel_rfl) (by kernel_rfl) ?_
          repeat (first | go_big_quiet_step (fail) | quiet_step (fail))
          refine wpQuiet_nil ?_
          intro _ hw'
          obtain ⟨⟨dqV, osV⟩, hw2⟩ := hw'
          subst hw2
          have HQV := hid (below_regrown w dqV osV)
          generalize Sort.grow (redrawn w dqV) osV = V at HQV ⊢
          have hsV := HQV.out.size
          exact HQ.out _ _ _ _ _ _ _ _ _ _ _ _ _ _ _ _ _ _ _ _ _ _ _ _ _ _ _ _ _ _ _ _ _ _ _ _ V HQV.out
        · have ez : (z.t == x.t) = false := by simpa using hzt
          have fz : decide (z.t = x.t) = false := by simpa using hzt
          have HTW := hid (show twiceG Fx.t L i = false from tw_no HX.out (.inr ⟨y, hy, hyt⟩) (.inr ⟨z, hz, hzt⟩))
          rw [HTW.out] at HQ
          refine wp_region_quiet_below (by kernel_rfl) (by kernel_rfl) ?_
          repeat (first | go_big_quiet_step (fail) | quiet_step (fail))
          refine wpQuiet_nil ?_
          intro _ hw'
          obtain ⟨⟨dqV, osV⟩, hw2⟩ := hw'
          subst hw2
          have HQV := hid (below_regrown w dqV osV)
          generalize Sort.grow (redrawn w dqV) osV = V at HQV ⊢
          have hsV := HQV.out.size
          exact HQ.out _ _ _ _ _ _ _ _ _ _ _ _ _ _ _ _ _ _ _ _ _ _ _ _ _ _ _ _ _ _ _ _ _ _ _ _ V HQV.out
      · have d1 : decide ((i : Int) + 1 < (n : Int)) = false := decide_eq_false (by omega)
        have HTW := hid (show twiceG Fx.t L i = false from tw_no HX.out (.inr ⟨y, hy, hyt⟩) (.inl (by have := HNL.out; omega)))
        rw [HTW.out] at HQ
        refine wp_region_quiet_below (by kernel_rfl) (by kernel_rfl) ?_
        repeat (first | go_big_quiet_step (fail) | quiet_step (fail))
        refine wpQuiet_nil ?_
        intro _ hw'
        obtain ⟨⟨dqV, osV⟩, hw2⟩ := hw'
        subst hw2
        have HQV := hid (below_regrown w dqV osV)
        generalize Sort.grow (redrawn w dqV) osV = V at HQV ⊢
        have hsV := HQV.out.size
        exact HQ.out _ _ _ _ _ _ _ _ _ _ _ _ _ _ _ _ _ _ _ _ _ _ _ _ _ _ _ _ _ _ _ _ _ _ _ _ V HQV.out
set_option maxRecDepth 100000 in
set_option maxHeartbeats 3200000 in
/-- a fix is kept: there is none, or the last one is near -/
theorem states_keep (s1 s2 s4 s5 s6 s7 s9 s11 s12 s13 s14 s15 s16 s17 s18 s19 s20 s21 s22 s23 s24 s25 s26 s27 s28 s29 s30 s31 s32 s33 s34 s35 s36 s37 s38 s39 s40 s41 s42 s43 s44 s45 s46 s47 s48 s49 s50 s51 s52 s53 s54 s55 s56 s57 s58 s59 s60 s61 s62 s63 s64 s65 s66 s67 s68 s69 s70 s71 s72 s73 s74 s75 s76 s77 s78 s79 s80 s81 s82 s83 s84 s85 s86 s87 s88 s89 s90 s91 s92 s93 s94 s95 s96 s97 s98 s99 s100 s101 s102 s103 s104 s105 s106 s107 s108 s109 s110 s111 s112 s113 s114 s115 s116 s117 s118 s119 s120 s121 s122 s123 s124 s125 s126 s127 s128 s129 s130 s131 s132 s133 s134 s135 s136 s137 s138 s139 s140 s141 s142 s143 s144 s145 s146 s147 s148 s149 s150 s151 : Value) (w : World) (b off n fc i gm : Nat) (last m0 m1 m2 m3 : Int) (kq : Bool) (x : Fx) (L : List Fx) (Q : Exit → Act → World → Prop) (R : Code) (hR : Try.f127.body.bind (findR 8) = some R) (hrow : RowsAt w b off 10 (L.map Fx.row)) (hm5 : w.heap[gm]? = some (.cells #[.int .i64 m0, .int .i64 m1, .int .i64 m2, .int .i64 m3] 61)) (hx : L[i]? = some x) (hnl : n = L.length) (hin : i < n) (hok : ∀ p ∈ L, p.ok = true) (hm : 0 ≤ m1 ∧ m1 ≤ 1000000) (hkq : (last = -1 ∧ kq = true) ∨ ∃ (j : Nat) (y : Fx), last = (j : Int) ∧ L[j]? = some y ∧ kq = nearB m1 y x)
    (HQ : Hid (∀ (u66 u67 u68 u69 u70 u71 u72 u73 u74 u75 u76 u77 u78 : Value) (W5 : World), Below w.heap.size w W5 → Q Exit.normal ({ tmps := List.toArray (List.cons (.slice (some ⟨b, off, none⟩) n fc) (List.cons (s1) (List.cons (s2) (List.cons (.pointer (some ⟨gm, 0, none⟩)) (List.cons (s4) (List.cons (s5) (List.cons (s6) (List.cons (s7) (List.cons (.int .i64 last) (List.cons (s9) (List.cons (.int .i64 (i : Int)) (List.cons (s11) (List.cons (s12) (List.cons (s13) (List.cons (s14) (List.cons (s15) (List.cons (s16) (List.cons (s17) (List.cons (s18) (List.cons (s19) (List.cons (s20) (List.cons (s21) (List.cons (s22) (List.cons (s23) (List.cons (s24) (List.cons (s25) (List.cons (s26) (List.cons (s27) (List.cons (s28) (List.cons (s29) (List.cons (s30) (List.cons (s31) (List.cons (s32) (List.cons (s33) (List.cons (s34) (List.cons (s35) (List.cons (s36) (List.cons (s37) (List.cons (s38) (List.cons (s39) (List.cons (s40) (List.cons (s41) (List.cons (s42) (List.cons (s43) (List.cons (s44) (List.cons (s45) (List.cons (s46) (List.cons (s47) (List.cons (s48) (List.cons (s49) (List.cons (s50) (List.cons (s51) (List.cons (s52) (List.cons (s53) (List.cons (s54) (List.cons (s55) (List.cons (s56) (List.cons (s57) (List.cons (s58) (List.cons (s59) (List.cons (s60) (List.cons (s61) (List.cons (s62) (List.cons (s63) (List.cons (s64) (List.cons (s65) (List.cons (u66) (List.cons (u67) (List.cons (u68) (List.cons (u69) (List.cons (u70) (List.cons (u71) (List.cons (u72) (List.cons (u73) (List.cons (u74) (List.cons (u75) (List.cons (u76) (List.cons (u77) (List.cons (u78) (List.cons (.bool kq) (List.cons (s80) (List.cons (s81) (List.cons (s82) (List.cons (s83) (List.cons (s84) (List.cons (s85) (List.cons (s86) (List.cons (s87) (List.cons (s88) (List.cons (s89) (List.cons (s90) (List.cons (s91) (List.cons (s92) (List.cons (s93) (List.cons (s94) (List.cons (s95) (List.cons (s96) (List.cons (s97) (List.cons (s98) (List.cons (s99) (List.cons (s100) (List.cons (s101) (List.cons (s102) (List.cons (s103) (List.cons (s104) (List.cons (s105) (List.cons (s106) (List.cons (s107) (List.cons (s108) (List.cons (s109) (List.cons (s110) (List.cons (s111) (List.cons (s112) (List.cons (s113) (List.cons (s114) (List.cons (s115) (List.cons (s116) (List.cons (s117) (List.cons (s118) (List.cons (s119) (List.cons (s120) (List.cons (s121) (List.cons (s122) (List.cons (s123) (List.cons (s124) (List.cons (s125) (List.cons (s126) (List.cons (s127) (List.cons (s128) (List.cons (s129) (List.cons (s130) (List.cons (s131) (List.cons (s132) (List.cons (s133) (List.cons (s134) (List.cons (s135) (List.cons (s136) (List.cons (s137) (List.cons (s138) (List.cons (s139) (List.cons (s140) (List.cons (s141) (List.cons (s142) (List.cons (s143) (List.cons (s144) (List.cons (s145) (List.cons (s146) (List.cons (s147) (List.cons (s148) (List.cons (s149) (List.cons (s150) (List.cons (s151) List.nil)))))))))))))))))))))))))))))))))))))))))))))))))))))))))))))))))))))))))))))))))))))))))))))))))))))))))))))))))))))))))))))))))))))))))))))))))))))))), defers := [] } : Act) W5)) :
    Code.wp Try.prog R Q ({ tmps := List.toArray (List.cons (.slice (some ⟨b, off, none⟩) n fc) (List.cons (s1) (List.cons (s2) (List.cons (.pointer (some ⟨gm, 0, none⟩)) (List.cons (s4) (List.cons (s5) (List.cons (s6) (List.cons (s7) (List.cons (.int .i64 last) (List.cons (s9) (List.cons (.int .i64 (i : Int)) (List.cons (s11) (List.cons (s12) (List.cons (s13) (List.cons (s14) (List.cons (s15) (List.cons (s16) (List.cons (s17) (List.cons (s18) (List.cons (s19) (List.cons (s20) (List.cons (s21) (List.cons (s22) (List.cons (s23) (List.cons (s24) (List.cons (s25) (List.cons (s26) (List.cons (s27) (List.cons (s28) (List.cons (s29) (List.cons (s30) (List.cons (s31) (List.cons (s32) (List.cons (s33) (List.cons (s34) (List.cons (s35) (List.cons (s36) (List.cons (s37) (List.cons (s38) (List.cons (s39) (List.cons (s40) (List.cons (s41) (List.cons (s42) (List.cons (s43) (List.cons (s44) (List.cons (s45) (List.cons (s46) (List.cons (s47) (List.cons (s48) (List.cons (s49) (List.cons (s50) (List.cons (s51) (List.cons (s52) (List.cons (s53) (List.cons (s54) (List.cons (s55) (List.cons (s56) (List.cons (s57) (List.cons (s58) (List.cons (s59) (List.cons (s60) (List.cons (s61) (List.cons (s62) (List.cons (s63) (List.cons (s64) (List.cons (s65) (List.cons (s66) (List.cons (s67) (List.cons (s68) (List.cons (s69) (List.cons (s70) (List.cons (s71) (List.cons (s72) (List.cons (s73) (List.cons (s74) (List.cons (s75) (List.cons (s76) (List.cons (s77) (List.cons (s78) (List.cons (s79) (List.cons (s80) (List.cons (s81) (List.cons (s82) (List.cons (s83) (List.cons (s84) (List.cons (s85) (List.cons (s86) (List.cons (s87) (List.cons (s88) (List.cons (s89) (List.cons (s90) (List.cons (s91) (List.cons (s92) (List.cons (s93) (List.cons (s94) (List.cons (s95) (List.cons (s96) (List.cons (s97) (List.cons (s98) (List.cons (s99) (List.cons (s100) (List.cons (s101) (List.cons (s102) (List.cons (s103) (List.cons (s104) (List.cons (s105) (List.cons (s106) (List.cons (s107) (List.cons (s108) (List.cons (s109) (List.cons (s110) (List.cons (s111) (List.cons (s112) (List.cons (s113) (List.cons (s114) (List.cons (s115) (List.cons (s116) (List.cons (s117) (List.cons (s118) (List.cons (s119) (List.cons (s120) (List.cons (s121) (List.cons (s122) (List.cons (s123) (List.cons (s124) (List.cons (s125) (List.cons (s126) (List.cons (s127) (List.cons (s128) (List.cons (s129) (List.cons (s130) (List.cons (s131) (List.cons (s132) (List.cons (s133) (List.cons (s134) (List.cons (s135) (List.cons (s136) (List.cons (s137) (List.cons (s138) (List.cons (s139) (List.cons (s140) (List.cons (s141) (List.cons (s142) (List.cons (s143) (List.cons (s144) (List.cons (s145) (List.cons (s146) (List.cons (s147) (List.cons (s148) (List.cons (s149) (List.cons (s150) (List.cons (s151) List.nil)))))))))))))))))))))))))))))))))))))))))))))))))))))))))))))))))))))))))))))))))))))))))))))))))))))))))))))))))))))))))))))))))))))))))))))))))))))))), defers := [] } : Act) w := by
  simp [findR, Try.f127] at hR
  subst hR
  have HX := hid hx
  have HNL := hid hnl
  clear hnl
  rcases hkq with ⟨hl, hk⟩ | ⟨j, y, hl, hy, hk⟩
  · subst hl hk
    refine wp_region_quiet_below (by kernel_rfl) (by kernel_rfl) ?_
    repeat (first | go_big_quiet_step (fail) | quiet_step (fail))
    refine wpQuiet_nil ?_
    intro _ hw'
    obtain ⟨⟨dqV, osV⟩, hw2⟩ := hw'
    subst hw2
    have HQV := hid (below_regrown w dqV osV)
    generalize Sort.grow (redrawn w dqV) osV = V at HQV ⊢
    have hsV := HQV.out.size
    exact HQ.out _ _ _ _ _ _ _ _ _ _ _ _ _ V HQV.out
  · have hjn := (List.getElem?_eq_some_iff.1 hy).1
    subst hl
    have d0 : decide ((j : Int) < 0) = false := decide_eq_false (by omega)
    have hyo := hok y (List.mem_of_getElem? hy)
    have hxo := hok x (List.mem_of_getElem? hx)
    have HNQ := hid (show ∀ W, Calls Try.prog 93 #[.agg #[.int .i64 y.t, .int .i64 y.x, .int .i64 y.y, .int .i64 y.z, .int .i64 y.e, .int .i64 y.a, .int .i64 y.b, .int .i64 y.c, .int .i64 y.d, .int .i64 y.g], .agg #[.int .i64 x.t, .int .i64 x.x, .int .i64 x.y, .int .i64 x.z, .int .i64 x.e, .int .i64 x.a, .int .i64 x.b, .int .i64 x.c, .int .i64 x.d, .int .i64 x.g], .agg #[.int .i64 m0, .int .i64 m1, .int .i64 m2, .int .i64 m3]] W fun r w' => r = .returned (.bool kq) ∧ Below W.heap.size W w' from fun W => hk ▸ nearRef_any y x m0 m1 m2 m3 W hyo hxo hm)
    have hcy := row_off hrow hy (off + j * 10) rfl
    have hcx := row_off hrow hx (off + i * 10) rfl
    have cm0 := fun d os => cell_regrown (w := w) (a := ⟨gm, 0, none⟩) (v := .int .i64 m0) ((cell_row (j := 0) hm5).trans rfl) d os
    have cm1 := fun d os => cell_regrown (w := w) (a := ⟨gm, 1, none⟩) (v := .int .i64 m1) ((cell_row (j := 1) hm5).trans rfl) d os
    have cm2 := fun d os => cell_regrown (w := w) (a := ⟨gm, 2, none⟩) (v := .int .i64 m2) ((cell_row (j := 2) hm5).trans rfl) d os
    have cm3 := fun d os => cell_regrown (w := w) (a := ⟨gm, 3, none⟩) (v := .int .i64 m3) ((cell_row (j := 3) hm5).trans rfl) d os
    have p0 := fun d os => cell_regrown (w := w) (a := ⟨b, off + j * 10, none⟩) (v := .int .i64 y.t) (hcy 0 (by decide)) d os
    have p1 := fun d os => cell_regrown (w := w) (a := ⟨b, off + j * 10 + 1, none⟩) (v := .int .i64 y.x) (hcy 1 (by decide)) d os
    have p2 := fun d os => cell_regrown (w := w) (a := ⟨b, off + j * 10 + 2, none⟩) (v := .int .i64 y.y) (hcy 2 (by decide)) d os
    have p3 := fun d os => cell_regrown (w := w) (a := ⟨b, off + j * 10 + 3, none⟩) (v := .int .i64 y.z) (hcy 3 (by decide)) d os
    have p4 := fun d os => cell_regrown (w := w) (a := ⟨b, off + j * 10 + 4, none⟩) (v := .int .i64 y.e) (hcy 4 (by decide)) d os
    have p5 := fun d os => cell_regrown (w := w) (a := ⟨b, off + j * 10 + 5, none⟩) (v := .int .i64 y.a) (hcy 5 (by decide)) d os
    have p6 := fun d os => cell_regrown (w := w) (a := ⟨b, off + j * 10 + 6, none⟩) (v := .int .i64 y.b) (hcy 6 (by decide)) d os
    have p7 := fun d os => cell_regrown (w := w) (a := ⟨b, off + j * 10 + 7, none⟩) (v := .int .i64 y.c) (hcy 7 (by decide)) d os
    have p8 := fun d os => cell_regrown (w := w) (a := ⟨b, off + j * 10 + 8, none⟩) (v := .int .i64 y.d) (hcy 8 (by decide)) d os
    have p9 := fun d os => cell_regrown (w := w) (a := ⟨b, off + j * 10 + 9, none⟩) (v := .int .i64 y.g) (hcy 9 (by decide)) d os
    have q0 := fun d os => cell_regrown (w := w) (a := ⟨b, off + i * 10, none⟩) (v := .int .i64 x.t) (hcx 0 (by decide)) d os
    have q1 := fun d os => cell_regrown (w := w) (a := ⟨b, off + i * 10 + 1, none⟩) (v := .int .i64 x.x) (hcx 1 (by decide)) d os
    have q2 := fun d os => cell_regrown (w := w) (a := ⟨b, off + i * 10 + 2, none⟩) (v := .int .i64 x.y) (hcx 2 (by decide)) d os
    have q3 := fun d os => cell_regrown (w := w) (a := ⟨b, off + i * 10 + 3, none⟩) (v := .int .i64 x.z) (hcx 3 (by decide)) d os
    have q4 := fun d os => cell_regrown (w := w) (a := ⟨b, off + i * 10 + 4, none⟩) (v := .int .i64 x.e) (hcx 4 (by decide)) d os
    have q5 := fun d os => cell_regrown (w := w) (a := ⟨b, off + i * 10 + 5, none⟩) (v := .int .i64 x.a) (hcx 5 (by decide)) d os
    have q6 := fun d os => cell_regrown (w := w) (a := ⟨b, off + i * 10 + 6, none⟩) (v := .int .i64 x.b) (hcx 6 (by decide)) d os
    have q7 := fun d os => cell_regrown (w := w) (a := ⟨b, off + i * 10 + 7, none⟩) (v := .int .i64 x.c) (hcx 7 (by decide)) d os
    have q8 := fun d os => cell_regrown (w := w) (a := ⟨b, off + i * 10 + 8, none⟩) (v := .int .i64 x.d) (hcx 8 (by decide)) d os
    have q9 := fun d os => cell_regrown (w := w) (a := ⟨b, off + i * 10 + 9, none⟩) (v := .int .i64 x.g) (hcx 9 (by decide)) d os
    have hjn2 : j < n := by have := HNL.out; omega
    clear hcy hcx hk hy hyo hxo hx hok
    refine wp_region_quiet_below (by kernel_rfl) (by kernel_rfl) ?_
    repeat (first | go_big_quiet_step ((go_at_call 93; with_reducible exact Calls.regrown_of (HNQ.out _))) | quiet_step ((go_at_call 93; with_reducible exact Calls.regrown_of (HNQ.out _))))
    refine wpQuiet_nil ?_
    intro _ hw'
    obtain ⟨⟨dqV, osV⟩, hw2⟩ := hw'
    subst hw2
    have HQV := hid (below_regrown w dqV osV)
    generalize Sort.grow (redrawn w dqV) osV = V at HQV ⊢
    have hsV := HQV.out.size
    exact HQ.out _ _ _ _ _ _ _ _ _ _ _ _ _ V HQV.out
theorem row_nat {W : World} {B n c : Nat} {a : Option Addr} {R : List Nat} (h : OwnR W B 3 1 (.slice a n c) (R.map fun (p : Nat) => [Value.int .i64 (p : Int)])) {k p : Nat} (hk : R[k]? = some p) : ∃ g, a = some ⟨g, 0, none⟩ ∧ (∀ (j q : Nat), R[j]? = some q → W.cell? ⟨g, j, none⟩ = some (.int .i64 (q : Int))) ∧ g < W.heap.size := by
  have hl := (List.getElem?_eq_some_iff.1 hk).1
  obtain ⟨g, cap, C, e, _, hC, hr, _⟩ := OwnR.rows h (by rw [List.length_map]; omega)
  injection e with e1
  refine ⟨g, e1, fun j q hj => ?_, (Array.getElem?_eq_some_iff.1 hC).1⟩
  have hc := hr j [.int .i64 (q : Int)] (by rw [List.getElem?_map, hj]; rfl) 0 (by decide)
  rw [Nat.zero_add, Nat.mul_one, Nat.add_zero] at hc
  exact hc.trans rfl
set_option maxRecDepth 100000 in
set_option maxHeartbeats 3200000 in
/-- the last three that are put aside are near each other -/
theorem states_jump (s1 s2 s4 s5 s6 s7 s8 s12 s13 s14 s15 s16 s17 s18 s19 s20 s21 s22 s23 s24 s25 s26 s27 s28 s29 s30 s31 s32 s33 s34 s35 s36 s37 s38 s39 s40 s41 s42 s43 s44 s45 s46 s47 s48 s49 s50 s51 s52 s53 s54 s55 s56 s57 s58 s59 s60 s61 s62 s63 s64 s65 s66 s67 s68 s69 s70 s71 s72 s73 s74 s75 s76 s77 s78 s79 s80 s81 s82 s83 s84 s85 s86 s87 s88 s89 s90 s91 s92 s93 s94 s95 s96 s97 s98 s99 s100 s101 s102 s103 s104 s105 s106 s107 s108 s109 s110 s111 s112 s113 s114 s115 s116 s117 s118 s119 s120 s121 s122 s123 s124 s125 s126 s127 s128 s129 s130 s131 s132 s133 s134 s135 s136 s137 s138 s139 s140 s141 s142 s143 s144 s145 s146 s147 s148 s149 s150 s151 : Value) (w : World) (B b off n fc i gm rn rc : Nat) (ra : Option Addr) (m0 m1 m2 m3 : Int) (jq : Bool) (x : Fx) (L : List Fx) (Rw : List Nat) (Q : Exit → Act → World → Prop) (R : Code) (hR : Try.f127.body.bind (findR 13) = some R) (hrow : RowsAt w b off 10 (L.map Fx.row)) (hm5 : w.heap[gm]? = some (.cells #[.int .i64 m0, .int .i64 m1, .int .i64 m2, .int .i64 m3] 61)) (hrow2 : OwnR w B 3 1 (.slice ra rn rc) (Rw.map fun (p : Nat) => [Value.int .i64 (p : Int)])) (hx : L[i]? = some x) (hnl : n = L.length) (hin : i < n) (hrn : rn ≤ 1000) (hok : ∀ p ∈ L, p.ok = true) (hm : 0 ≤ m1 ∧ m1 ≤ 1000000) (hjq : (rn < 3 ∧ jq = false) ∨ ∃ (k a c : Nat) (xa xb : Fx), rn = k + 3 ∧ Rw[k]? = some a ∧ Rw[k + 1]? = some c ∧ L[a]? = some xa ∧ L[c]? = some xb ∧ jq = (nearB m1 xa xb && nearB m1 xb x))
    (HQ : Hid (∀ (u90 u91 u92 u93 u94 u95 u96 u97 u98 u99 u100 u101 u102 u103 u104 u105 u106 u107 u108 u109 u110 u111 u112 u113 u114 u115 u116 u117 u118 u119 u120 u121 u122 u123 u124 u125 u126 : Value) (W5 : World), Below w.heap.size w W5 → Q Exit.normal ({ tmps := List.toArray (List.cons (.slice (some ⟨b, off, none⟩) n fc) (List.cons (s1) (List.cons (s2) (List.cons (.pointer (some ⟨gm, 0, none⟩)) (List.cons (s4) (List.cons (s5) (List.cons (s6) (List.cons (s7) (List.cons (s8) (List.cons (.slice ra rn rc) (List.cons (.int .i64 (i : Int)) (List.cons (.int .i64 (rn : Int)) (List.cons (s12) (List.cons (s13) (List.cons (s14) (List.cons (s15) (List.cons (s16) (List.cons (s17) (List.cons (s18) (List.cons (s19) (List.cons (s20) (List.cons (s21) (List.cons (s22) (List.cons (s23) (List.cons (s24) (List.cons (s25) (List.cons (s26) (List.cons (s27) (List.cons (s28) (List.cons (s29) (List.cons (s30) (List.cons (s31) (List.cons (s32) (List.cons (s33) (List.cons (s34) (List.cons (s35) (List.cons (s36) (List.cons (s37) (List.cons (s38) (List.cons (s39) (List.cons (s40) (List.cons (s41) (List.cons (s42) (List.cons (s43) (List.cons (s44) (List.cons (s45) (List.cons (s46) (List.cons (s47) (List.cons (s48) (List.cons (s49) (List.cons (s50) (List.cons (s51) (List.cons (s52) (List.cons (s53) (List.cons (s54) (List.cons (s55) (List.cons (s56) (List.cons (s57) (List.cons (s58) (List.cons (s59) (List.cons (s60) (List.cons (s61) (List.cons (s62) (List.cons (s63) (List.cons (s64) (List.cons (s65) (List.cons (s66) (List.cons (s67) (List.cons (s68) (List.cons (s69) (List.cons (s70) (List.cons (s71) (List.cons (s72) (List.cons (s73) (List.cons (s74) (List.cons (s75) (List.cons (s76) (List.cons (s77) (List.cons (s78) (List.cons (s79) (List.cons (s80) (List.cons (s81) (List.cons (s82) (List.cons (s83) (List.cons (s84) (List.cons (s85) (List.cons (s86) (List.cons (s87) (List.cons (s88) (List.cons (s89) (List.cons (u90) (List.cons (u91) (List.cons (u92) (List.cons (u93) (List.cons (u94) (List.cons (u95) (List.cons (u96) (List.cons (u97) (List.cons (u98) (List.cons (u99) (List.cons (u100) (List.cons (u101) (List.cons (u102) (List.cons (u103) (List.cons (u104) (List.cons (u105) (List.cons (u106) (List.cons (u107) (List.cons (u108) (List.cons (u109) (List.cons (u110) (List.cons (u111) (List.cons (u112) (List.cons (u113) (List.cons (u114) (List.cons (u115) (List.cons (u116) (List.cons (u117) (List.cons (u118) (List.cons (u119) (List.cons (u120) (List.cons (u121) (List.cons (u122) (List.cons (u123) (List.cons (u124) (List.cons (u125) (List.cons (u126) (List.cons (.bool jq) (List.cons (s128) (List.cons (s129) (List.cons (s130) (List.cons (s131) (List.cons (s132) (List.cons (s133) (List.cons (s134) (List.cons (s135) (List.cons (s136) (List.cons (s137) (List.cons (s138) (List.cons (s139) (List.cons (s140) (List.cons (s141) (List.cons (s142) (List.cons (s143) (List.cons (s144) (List.cons (s145) (List.cons (s146) (List.cons (s147) (List.cons (s148) (List.cons (s149) (List.cons (s150) (List.cons (s151) List.nil)))))))))))))))))))))))))))))))))))))))))))))))))))))))))))))))))))))))))))))))))))))))))))))))))))))))))))))))))))))))))))))))))))))))))))))))))))))))), defers := [] } : Act) W5)) :
    Code.wp Try.prog R Q ({ tmps := List.toArray (List.cons (.slice (some ⟨b, off, none⟩) n fc) (List.cons (s1) (List.cons (s2) (List.cons (.pointer (some ⟨gm, 0, none⟩)) (List.cons (s4) (List.cons (s5) (List.cons (s6) (List.cons (s7) (List.cons (s8) (List.cons (.slice ra rn rc) (List.cons (.int .i64 (i : Int)) (List.cons (.int .i64 (rn : Int)) (List.cons (s12) (List.cons (s13) (List.cons (s14) (List.cons (s15) (List.cons (s16) (List.cons (s17) (List.cons (s18) (List.cons (s19) (List.cons (s20) (List.cons (s21) (List.cons (s22) (List.cons (s23) (List.cons (s24) (List.cons (s25) (List.cons (s26) (List.cons (s27) (List.cons (s28) (List.cons (s29) (List.cons (s30) (List.cons (s31) (List.cons (s32) (List.cons (s33) (List.cons (s34) (List.cons (s35) (List.cons (s36) (List.cons (s37) (List.cons (s38) (List.cons (s39) (List.cons (s40) (List.cons (s41) (List.cons (s42) (List.cons (s43) (List.cons (s44) (List.cons (s45) (List.cons (s46) (List.cons (s47) (List.cons (s48) (List.cons (s49) (List.cons (s50) (List.cons (s51) (List.cons (s52) (List.cons (s53) (List.cons (s54) (List.cons (s55) (List.cons (s56) (List.cons (s57) (List.cons (s58) (List.cons (s59) (List.cons (s60) (List.cons (s61) (List.cons (s62) (List.cons (s63) (List.cons (s64) (List.cons (s65) (List.cons (s66) (List.cons (s67) (List.cons (s68) (List.cons (s69) (List.cons (s70) (List.cons (s71) (List.cons (s72) (List.cons (s73) (List.cons (s74) (List.cons (s75) (List.cons (s76) (List.cons (s77) (List.cons (s78) (List.cons (s79) (List.cons (s80) (List.cons (s81) (List.cons (s82) (List.cons (s83) (List.cons (s84) (List.cons (s85) (List.cons (s86) (List.cons (s87) (List.cons (s88) (List.cons (s89) (List.cons (s90) (List.cons (s91) (List.cons (s92) (List.cons (s93) (List.cons (s94) (List.cons (s95) (List.cons (s96) (List.cons (s97) (List.cons (s98) (List.cons (s99) (List.cons (s100) (List.cons (s101) (List.cons (s102) (List.cons (s103) (List.cons (s104) (List.cons (s105) (List.cons (s106) (List.cons (s107) (List.cons (s108) (List.cons (s109) (List.cons (s110) (List.cons (s111) (List.cons (s112) (List.cons (s113) (List.cons (s114) (List.cons (s115) (List.cons (s116) (List.cons (s117) (List.cons (s118) (List.cons (s119) (List.cons (s120) (List.cons (s121) (List.cons (s122) (List.cons (s123) (List.cons (s124) (List.cons (s125) (List.cons (s126) (List.cons (s127) (List.cons (s128) (List.cons (s129) (List.cons (s130) (List.cons (s131) (List.cons (s132) (List.cons (s133) (List.cons (s134) (List.cons (s135) (List.cons (s136) (List.cons (s137) (List.cons (s138) (List.cons (s139) (List.cons (s140) (List.cons (s141) (List.cons (s142) (List.cons (s143) (List.cons (s144) (List.cons (s145) (List.cons (s146) (List.cons (s147) (List.cons (s148) (List.cons (s149) (List.cons (s150) (List.cons (s151) List.nil)))))))))))))))))))))))))))))))))))))))))))))))))))))))))))))))))))))))))))))))))))))))))))))))))))))))))))))))))))))))))))))))))))))))))))))))))))))))), defers := [] } : Act) w := by
  simp [findR, Try.f127] at hR
  subst hR
  have HNL := hid hnl
  clear hnl
  rcases hjq with ⟨hr3, hj⟩ | ⟨k, a, c, xa, xb, hrk, hra1, hrb1, hxa, hxb, hj⟩
  · subst hj
    have d3 : decide ((3 : Int) ≤ (rn : Int)) = false := decide_eq_false (by omega)
    have d3n : decide (3 ≤ rn) = false := decide_eq_false (by omega)
    have d3m : ¬ 3 ≤ rn := by omega
    refine wp_region_quiet_below (by kernel_rfl) (by kernel_rfl) ?_
    repeat (first | go_big_quiet_step (fail) | quiet_step (fail))
    refine wpQuiet_nil ?_
    intro _ hw'
    obtain ⟨⟨dqV, osV⟩, hw2⟩ := hw'
    subst hw2
    have HQV := hid (below_regrown w dqV osV)
    generalize Sort.grow (redrawn w dqV) osV = V at HQV ⊢
    have hsV := HQV.out.size
    exact HQ.out _ _ _ _ _ _ _ _ _ _ _ _ _ _ _ _ _ _ _ _ _ _ _ _ _ _ _ _ _ _ _ _ _ _ _ _ _ V HQV.out
  · have d3 : decide ((3 : Int) ≤ (rn : Int)) = true := decide_eq_true (by omega)
    have d3n : decide (3 ≤ rn) = true := decide_eq_true (by omega)
    have d3m : 3 ≤ rn := by omega
    have hk3 : (rn : Int) - 3 = (k : Int) := by omega
    have hk2 : (rn : Int) - 2 = ((k + 1 : Nat) : Int) := by omega
    have hkr : k < rn := by omega
    have hkr2 : k + 1 < rn := by omega
    have han : a < n := by have := (List.getElem?_eq_some_iff.1 hxa).1; have := HNL.out; omega
    have hcn : c < n := by have := (List.getElem?_eq_some_iff.1 hxb).1; have := HNL.out; omega
    clear hrk
    obtain ⟨gr, hga, hrr, hgr⟩ := row_nat hrow2 hra1
    subst hga
    have ca := fun d os => cell_regrown (w := w) (a := ⟨gr, k, none⟩) (v := .int .i64 (a : Int)) (hrr k a hra1) d os
    have cc := fun d os => cell_regrown (w := w) (a := ⟨gr, k + 1, none⟩) (v := .int .i64 (c : Int)) (hrr (k + 1) c hrb1) d os
    have hcxa := row_off hrow hxa (off + a * 10) rfl
    have hcxb := row_off hrow hxb (off + c * 10) rfl
    have hcx := row_off hrow hx (off + i * 10) rfl
    have cm0 := fun d os => cell_regrown (w := w) (a := ⟨gm, 0, none⟩) (v := .int .i64 m0) ((cell_row (j := 0) hm5).trans rfl) d os
    have cm1 := fun d os => cell_regrown (w := w) (a := ⟨gm, 1, none⟩) (v := .int .i64 m1) ((cell_row (j := 1) hm5).trans rfl) d os
    have cm2 := fun d os => cell_regrown (w := w) (a := ⟨gm, 2, none⟩) (v := .int .i64 m2) ((cell_row (j := 2) hm5).trans rfl) d os
    have cm3 := fun d os => cell_regrown (w := w) (a := ⟨gm, 3, none⟩) (v := .int .i64 m3) ((cell_row (j := 3) hm5).trans rfl) d os
    have p0 := fun d os => cell_regrown (w := w) (a := ⟨b, off + a * 10, none⟩) (v := .int .i64 xa.t) (hcxa 0 (by decide)) d os
    have p1 := fun d os => cell_regrown (w := w) (a := ⟨b, off + a * 10 + 1, none⟩) (v := .int .i64 xa.x) (hcxa 1 (by decide)) d os
    have p2 := fun d os => cell_regrown (w := w) (a := ⟨b, off + a * 10 + 2, none⟩) (v := .int .i64 xa.y) (hcxa 2 (by decide)) d os
    have p3 := fun d os => cell_regrown (w := w) (a := ⟨b, off + a * 10 + 3, none⟩) (v := .int .i64 xa.z) (hcxa 3 (by decide)) d os
    have p4 := fun d os => cell_regrown (w := w) (a := ⟨b, off + a * 10 + 4, none⟩) (v := .int .i64 xa.e) (hcxa 4 (by decide)) d os
    have p5 := fun d os => cell_regrown (w := w) (a := ⟨b, off + a * 10 + 5, none⟩) (v := .int .i64 xa.a) (hcxa 5 (by decide)) d os
    have p6 := fun d os => cell_regrown (w := w) (a := ⟨b, off + a * 10 + 6, none⟩) (v := .int .i64 xa.b) (hcxa 6 (by decide)) d os
    have p7 := fun d os => cell_regrown (w := w) (a := ⟨b, off + a * 10 + 7, none⟩) (v := .int .i64 xa.c) (hcxa 7 (by decide)) d os
    have p8 := fun d os => cell_regrown (w := w) (a := ⟨b, off + a * 10 + 8, none⟩) (v := .int .i64 xa.d) (hcxa 8 (by decide)) d os
    have p9 := fun d os => cell_regrown (w := w) (a := ⟨b, off + a * 10 + 9, none⟩) (v := .int .i64 xa.g) (hcxa 9 (by decide)) d os
    have q0 := fun d os => cell_regrown (w := w) (a := ⟨b, off + c * 10, none⟩) (v := .int .i64 xb.t) (hcxb 0 (by decide)) d os
    have q1 := fun d os => cell_regrown (w := w) (a := ⟨b, off + c * 10 + 1, none⟩) (v := .int .i64 xb.x) (hcxb 1 (by decide)) d os
    have q2 := fun d os => cell_regrown (w := w) (a := ⟨b, off + c * 10 + 2, none⟩) (v := .int .i64 xb.y) (hcxb 2 (by decide)) d os
    have q3 := fun d os => cell_regrown (w := w) (a := ⟨b, off + c * 10 + 3, none⟩) (v := .int .i64 xb.z) (hcxb 3 (by decide)) d os
    have q4 := fun d os => cell_regrown (w := w) (a := ⟨b, off + c * 10 + 4, none⟩) (v := .int .i64 xb.e) (hcxb 4 (by decide)) d os
    have q5 := fun d os => cell_regrown (w := w) (a := ⟨b, off + c * 10 + 5, none⟩) (v := .int .i64 xb.a) (hcxb 5 (by decide)) d os
    have q6 := fun d os => cell_regrown (w := w) (a := ⟨b, off + c * 10 + 6, none⟩) (v := .int .i64 xb.b) (hcxb 6 (by decide)) d os
    have q7 := fun d os => cell_regrown (w := w) (a := ⟨b, off + c * 10 + 7, none⟩) (v := .int .i64 xb.c) (hcxb 7 (by decide)) d os
    have q8 := fun d os => cell_regrown (w := w) (a := ⟨b, off + c * 10 + 8, none⟩) (v := .int .i64 xb.d) (hcxb 8 (by decide)) d os
    have q9 := fun d os => cell_regrown (w := w) (a := ⟨b, off + c * 10 + 9, none⟩) (v := .int .i64 xb.g) (hcxb 9 (by decide)) d os
    have r0 := fun d os => cell_regrown (w := w) (a := ⟨b, off + i * 10, none⟩) (v := .int .i64 x.t) (hcx 0 (by decide)) d os
    have r1 := fun d os => cell_regrown (w := w) (a := ⟨b, off + i * 10 + 1, none⟩) (v := .int .i64 x.x) (hcx 1 (by decide)) d os
    have r2 := fun d os => cell_regrown (w := w) (a := ⟨b, off + i * 10 + 2, none⟩) (v := .int .i64 x.y) (hcx 2 (by decide)) d os
    have r3 := fun d os => cell_regrown (w := w) (a := ⟨b, off + i * 10 + 3, none⟩) (v := .int .i64 x.z) (hcx 3 (by decide)) d os
    have r4 := fun d os => cell_regrown (w := w) (a := ⟨b, off + i * 10 + 4, none⟩) (v := .int .i64 x.e) (hcx 4 (by decide)) d os
    have r5 := fun d os => cell_regrown (w := w) (a := ⟨b, off + i * 10 + 5, none⟩) (v := .int .i64 x.a) (hcx 5 (by decide)) d os
    have r6 := fun d os => cell_regrown (w := w) (a := ⟨b, off + i * 10 + 6, none⟩) (v := .int .i64 x.b) (hcx 6 (by decide)) d os
    have r7 := fun d os => cell_regrown (w := w) (a := ⟨b, off + i * 10 + 7, none⟩) (v := .int .i64 x.c) (hcx 7 (by decide)) d os
    have r8 := fun d os => cell_regrown (w := w) (a := ⟨b, off + i * 10 + 8, none⟩) (v := .int .i64 x.d) (hcx 8 (by decide)) d os
    have r9 := fun d os => cell_regrown (w := w) (a := ⟨b, off + i * 10 + 9, none⟩) (v := .int .i64 x.g) (hcx 9 (by decide)) d os
    clear hcxa hcxb hcx hrr
    cases hn1 : nearB m1 xa xb with
    | false =>
      have HN1 := hid (show ∀ W, Calls Try.prog 93 #[.agg #[.int .i64 xa.t, .int .i64 xa.x, .int .i64 xa.y, .int .i64 xa.z, .int .i64 xa.e, .int .i64 xa.a, .int .i64 xa.b, .int .i64 xa.c, .int .i64 xa.d, .int .i64 xa.g], .agg #[.int .i64 xb.t, .int .i64 xb.x, .int .i64 xb.y, .int .i64 xb.z, .int .i64 xb.e, .int .i64 xb.a, .int .i64 xb.b, .int .i64 xb.c, .int .i64 xb.d, .int .i64 xb.g], .agg #[.int .i64 m0, .int .i64 m1, .int .i64 m2, .int .i64 m3]] W fun r w' => r = .returned (.bool false) ∧ Below W.heap.size W w' from fun W => hn1 ▸ nearRef_any xa xb m0 m1 m2 m3 W (hok xa (List.mem_of_getElem? hxa)) (hok xb (List.mem_of_getElem? hxb)) hm)
      have HJ := hid (show jq = false by rw [hj, hn1]; rfl)
      rw [HJ.out] at HQ
      clear hxa hxb hx hok hj hra1 hrb1
      refine wp_region_quiet_below (by kernel_rfl) (by kernel_rfl) ?_
      repeat (first | go_big_quiet_step ((first | (go_at_call 93; with_reducible exact Calls.regrown_of (HN1.out _)))) | quiet_step ((first | (go_at_call 93; with_reducible exact Calls.regrown_of (HN1.out _)))))
      refine wpQuiet_nil ?_
      intro _ hw'
      obtain ⟨⟨dqV, osV⟩, hw2⟩ := hw'
      subst hw2
      have HQV := hid (below_regrown w dqV osV)
      generalize Sort.grow (redrawn w dqV) osV = V at HQV ⊢
      have hsV := HQV.out.size
      exact HQ.out _ _ _ _ _ _ _ _ _ _ _ _ _ _ _ _ _ _ _ _ _ _ _ _ _ _ _ _ _ _ _ _ _ _ _ _ _ V HQV.out
    | true =>
      cases hn2 : nearB m1 xb x with
      | false =>
        have HN1 := hid (show ∀ W, Calls Try.prog 93 #[.agg #[.int .i64 xa.t, .int .i64 xa.x, .int .i64 xa.y, .int .i64 xa.z, .int .i64 xa.e, .int .i64 xa.a, .int .i64 xa.b, .int .i64 xa.c, .int .i64 xa.d, .int .i64 xa.g], .agg #[.int .i64 xb.t, .int .i64 xb.x, .int .i64 xb.y, .int .i64 xb.z, .int .i64 xb.e, .int .i64 xb.a, .int .i64 xb.b, .int .i64 xb.c, .int .i64 xb.d, .int .i64 xb.g], .agg #[.int .i64 m0, .int .i64 m1, .int .i64 m2, .int .i64 m3]] W fun r w' => r = .returned (.bool true) ∧ Below W.heap.size W w' from fun W => hn1 ▸ nearRef_any xa xb m0 m1 m2 m3 W (hok xa (List.mem_of_getElem? hxa)) (hok xb (List.mem_of_getElem? hxb)) hm)
        have HN2 := hid (show ∀ W, Calls Try.prog 93 #[.agg #[.int .i64 xb.t, .int .i64 xb.x, .int .i64 xb.y, .int .i64 xb.z, .int .i64 xb.e, .int .i64 xb.a, .int .i64 xb.b, .int .i64 xb.c, .int .i64 xb.d, .int .i64 xb.g], .agg #[.int .i64 x.t, .int .i64 x.x, .int .i64 x.y, .int .i64 x.z, .int .i64 x.e, .int .i64 x.a, .int .i64 x.b, .int .i64 x.c, .int .i64 x.d, .int .i64 x.g], .agg #[.int .i64 m0, .int .i64 m1, .int .i64 m2, .int .i64 m3]] W fun r w' => r = .returned (.bool false) ∧ Below W.heap.size W w' from fun W => hn2 ▸ nearRef_any xb x m0 m1 m2 m3 W (hok xb (List.mem_of_getElem? hxb)) (hok x (List.mem_of_getElem? hx)) hm)
        have HJ := hid (show jq = false by rw [hj, hn1, hn2]; rfl)
        rw [HJ.out] at HQ
        clear hxa hxb hx hok hj hra1 hrb1
        refine wp_region_quiet_below (by kernel_rfl) (by kernel_rfl) ?_
        repeat (first | go_big_quiet_step ((first | (go_at_call 93; with_reducible exact Calls.regrown_of (HN1.out _)) | (go_at_call 93; with_reducible exact Calls.regrown_of (HN2.out _)))) | quiet_step ((first | (go_at_call 93; with_reducible exact Calls.regrown_of (HN1.out _)) | (go_at_call 93; with_reducible exact Calls.regrown_of (HN2.out _)))))
        refine wpQuiet_nil ?_
        intro _ hw'
        obtain ⟨⟨dqV, osV⟩, hw2⟩ := hw'
        subst hw2
        have HQV := hid (below_regrown w dqV osV)
        generalize Sort.grow (redrawn w dqV) osV = V at HQV ⊢
        have hsV := HQV.out.size
        exact HQ.out _ _ _ _ _ _ _ _ _ _ _ _ _ _ _ _ _ _ _ _ _ _ _ _ _ _ _ _ _ _ _ _ _ _ _ _ _ V HQV.out
      | true =>
        have HN1 := hid (show ∀ W, Calls Try.prog 93 #[.agg #[.int .i64 xa.t, .int .i64 xa.x, .int .i64 xa.y, .int .i64 xa.z, .int .i64 xa.e, .int .i64 xa.a, .int .i64 xa.b, .int .i64 xa.c, .int .i64 xa.d, .int .i64 xa.g], .agg #[.int .i64 xb.t, .int .i64 xb.x, .int .i64 xb.y, .int .i64 xb.z, .int .i64 xb.e, .int .i64 xb.a, .int .i64 xb.b, .int .i64 xb.c, .int .i64 xb.d, .int .i64 xb.g], .agg #[.int .i64 m0, .int .i64 m1, .int .i64 m2, .int .i64 m3]] W fun r w' => r = .returned (.bool true) ∧ Below W.heap.size W w' from fun W => hn1 ▸ nearRef_any xa xb m0 m1 m2 m3 W (hok xa (List.mem_of_getElem? hxa)) (hok xb (List.mem_of_getElem? hxb)) hm)
        have HN2 := hid (show ∀ W, Calls Try.prog 93 #[.agg #[.int .i64 xb.t, .int .i64 xb.x, .int .i64 xb.y, .int .i64 xb.z, .int .i64 xb.e, .int .i64 xb.a, .int .i64 xb.b, .int .i64 xb.c, .int .i64 xb.d, .int .i64 xb.g], .agg #[.int .i64 x.t, .int .i64 x.x, .int .i64 x.y, .int .i64 x.z, .int .i64 x.e, .int .i64 x.a, .int .i64 x.b, .int .i64 x.c, .int .i64 x.d, .int .i64 x.g], .agg #[.int .i64 m0, .int .i64 m1, .int .i64 m2, .int .i64 m3]] W fun r w' => r = .returned (.bool true) ∧ Below W.heap.size W w' from fun W => hn2 ▸ nearRef_any xb x m0 m1 m2 m3 W (hok xb (List.mem_of_getElem? hxb)) (hok x (List.mem_of_getElem? hx)) hm)
        have HJ := hid (show jq = true by rw [hj, hn1, hn2]; rfl)
        rw [HJ.out] at HQ
        clear hxa hxb hx hok hj hra1 hrb1
        refine wp_region_quiet_below (by kernel_rfl) (by kernel_rfl) ?_
        repeat (first | go_big_quiet_step ((first | (go_at_call 93; with_reducible exact Calls.regrown_of (HN1.out _)) | (go_at_call 93; with_reducible exact Calls.regrown_of (HN2.out _)))) | quiet_step ((first | (go_at_call 93; with_reducible exact Calls.regrown_of (HN1.out _)) | (go_at_call 93; with_reducible exact Calls.regrown_of (HN2.out _)))))
        refine wpQuiet_nil ?_
        intro _ hw'
        obtain ⟨⟨dqV, osV⟩, hw2⟩ := hw'
        subst hw2
        have HQV := hid (below_regrown w dqV osV)
        generalize Sort.grow (redrawn w dqV) osV = V at HQV ⊢
        have hsV := HQV.out.size
        exact HQ.out _ _ _ _ _ _ _ _ _ _ _ _ _ _ _ _ _ _ _ _ _ _ _ _ _ _ _ _ _ _ _ _ _ _ _ _ _ V HQV.out
end Go.Proofs.Yteoikaedpgianaa
namespace Go.Proofs.Yteoikaedpgianaa
open Go.RowKit Go.Sort Go.Lib Go.Shelf Go.Proofs

def updN (f : Nat → Value) (es : List Nat) : Nat → Nat → Value
  | 0 => f
  | m + 1 => updG (updN f es m) (es.getD m 0) (.int .i64 0)
theorem row_cap {W : World} {B t sz n c : Nat} {a : Option Addr} {l : List (List Value)} (h : OwnR W B t sz (.slice a n c) l) (hl : 0 < l.length) : n = l.length ∧ n ≤ c := by
  obtain ⟨_, h0 | ⟨g, cap, C, e, _, _, h3, _⟩⟩ := h.2
  · have := h0.2; omega
  · injection e with _ e1 e2
    omega
set_option maxRecDepth 100000 in
set_option maxHeartbeats 3200000 in
/-- the last three that are put aside are kept -/
theorem states_move (s0 s1 s2 s3 s4 s5 s8 s12 s13 s14 s15 s16 s17 s18 s19 s20 s21 s22 s23 s24 s25 s26 s27 s28 s29 s30 s31 s32 s33 s34 s35 s36 s37 s38 s39 s40 s41 s42 s43 s44 s45 s46 s47 s48 s49 s50 s51 s52 s53 s54 s55 s56 s57 s58 s59 s60 s61 s62 s63 s64 s65 s66 s67 s68 s69 s70 s71 s72 s73 s74 s75 s76 s77 s78 s79 s80 s81 s82 s83 s84 s85 s86 s87 s88 s89 s90 s91 s92 s93 s94 s95 s96 s97 s98 s99 s100 s101 s102 s103 s104 s105 s106 s107 s108 s109 s110 s111 s112 s113 s114 s115 s116 s117 s118 s119 s120 s121 s122 s123 s124 s125 s126 s127 s128 s129 s130 s131 s132 s133 s134 s135 s136 s137 s138 s139 s140 s141 s142 s143 s144 s145 s146 s147 s148 s149 s150 s151 : Value) (w : World) (B go gj n i rn rc k a c e : Nat) (ra : Option Addr) (fo fj : Nat → Value) (Rw : List Nat) (Q : Exit → Act → World → Prop) (R : Code) (hR : Try.f127.body.bind (findS 14) = some R) (hrn : rn ≤ 1000) (hbo : B ≤ go) (hbj : B ≤ gj) (hro : RowF w go 3 n fo) (hrj : RowF w gj 4 n fj) (hrow2 : OwnR w B 3 1 (.slice ra rn rc) (Rw.map fun (p : Nat) => [Value.int .i64 (p : Int)])) (hap : (Value.slice ra rn rc).ownBlock ≠ some go) (hrk : rn = k + 3) (hra1 : Rw[k]? = some a) (hrc1 : Rw[k + 1]? = some c) (hre1 : Rw[k + 2]? = some e) (han : a < n) (hcn : c < n) (hen : e < n)
    (HQ : Hid (∀ (u13 u128 u129 u130 u131 u132 u133 u134 u135 u136 u137 u138 u139 u140 u141 u142 u143 u144 u145 u146 u147 u148 : Value) (W5 : World), RowF W5 go 3 n (updN fo [a, c, e] 3) → RowF W5 gj 4 n (updG fj a (.bool true)) → Below B w W5 → w.heap.size ≤ W5.heap.size → Q Exit.normal ({ tmps := List.toArray (List.cons (s0) (List.cons (s1) (List.cons (s2) (List.cons (s3) (List.cons (s4) (List.cons (s5) (List.cons (.slice (some ⟨go, 0, none⟩) n n) (List.cons (.slice (some ⟨gj, 0, none⟩) n n) (List.cons (.int .i64 (i : Int)) (List.cons (.slice none 0 0) (List.cons (.int .i64 (i : Int)) (List.cons (.int .i64 (rn : Int)) (List.cons (s12) (List.cons (u13) (List.cons (s14) (List.cons (s15) (List.cons (s16) (List.cons (s17) (List.cons (s18) (List.cons (s19) (List.cons (s20) (List.cons (s21) (List.cons (s22) (List.cons (s23) (List.cons (s24) (List.cons (s25) (List.cons (s26) (List.cons (s27) (List.cons (s28) (List.cons (s29) (List.cons (s30) (List.cons (s31) (List.cons (s32) (List.cons (s33) (List.cons (s34) (List.cons (s35) (List.cons (s36) (List.cons (s37) (List.cons (s38) (List.cons (s39) (List.cons (s40) (List.cons (s41) (List.cons (s42) (List.cons (s43) (List.cons (s44) (List.cons (s45) (List.cons (s46) (List.cons (s47) (List.cons (s48) (List.cons (s49) (List.cons (s50) (List.cons (s51) (List.cons (s52) (List.cons (s53) (List.cons (s54) (List.cons (s55) (List.cons (s56) (List.cons (s57) (List.cons (s58) (List.cons (s59) (List.cons (s60) (List.cons (s61) (List.cons (s62) (List.cons (s63) (List.cons (s64) (List.cons (s65) (List.cons (s66) (List.cons (s67) (List.cons (s68) (List.cons (s69) (List.cons (s70) (List.cons (s71) (List.cons (s72) (List.cons (s73) (List.cons (s74) (List.cons (s75) (List.cons (s76) (List.cons (s77) (List.cons (s78) (List.cons (s79) (List.cons (s80) (List.cons (s81) (List.cons (s82) (List.cons (s83) (List.cons (s84) (List.cons (s85) (List.cons (s86) (List.cons (s87) (List.cons (s88) (List.cons (s89) (List.cons (s90) (List.cons (s91) (List.cons (s92) (List.cons (s93) (List.cons (s94) (List.cons (s95) (List.cons (s96) (List.cons (s97) (List.cons (s98) (List.cons (s99) (List.cons (s100) (List.cons (s101) (List.cons (s102) (List.cons (s103) (List.cons (s104) (List.cons (s105) (List.cons (s106) (List.cons (s107) (List.cons (s108) (List.cons (s109) (List.cons (s110) (List.cons (s111) (List.cons (s112) (List.cons (s113) (List.cons (s114) (List.cons (s115) (List.cons (s116) (List.cons (s117) (List.cons (s118) (List.cons (s119) (List.cons (s120) (List.cons (s121) (List.cons (s122) (List.cons (s123) (List.cons (s124) (List.cons (s125) (List.cons (s126) (List.cons (s127) (List.cons (u128) (List.cons (u129) (List.cons (u130) (List.cons (u131) (List.cons (u132) (List.cons (u133) (List.cons (u134) (List.cons (u135) (List.cons (u136) (List.cons (u137) (List.cons (u138) (List.cons (u139) (List.cons (u140) (List.cons (u141) (List.cons (u142) (List.cons (u143) (List.cons (u144) (List.cons (u145) (List.cons (u146) (List.cons (u147) (List.cons (u148) (List.cons (s149) (List.cons (s150) (List.cons (s151) List.nil)))))))))))))))))))))))))))))))))))))))))))))))))))))))))))))))))))))))))))))))))))))))))))))))))))))))))))))))))))))))))))))))))))))))))))))))))))))))), defers := [] } : Act) W5)) :
    Code.wp Try.prog R Q ({ tmps := List.toArray (List.cons (s0) (List.cons (s1) (List.cons (s2) (List.cons (s3) (List.cons (s4) (List.cons (s5) (List.cons (.slice (some ⟨go, 0, none⟩) n n) (List.cons (.slice (some ⟨gj, 0, none⟩) n n) (List.cons (s8) (List.cons (.slice ra rn rc) (List.cons (.int .i64 (i : Int)) (List.cons (.int .i64 (rn : Int)) (List.cons (s12) (List.cons (s13) (List.cons (s14) (List.cons (s15) (List.cons (s16) (List.cons (s17) (List.cons (s18) (List.cons (s19) (List.cons (s20) (List.cons (s21) (List.cons (s22) (List.cons (s23) (List.cons (s24) (List.cons (s25) (List.cons (s26) (List.cons (s27) (List.cons (s28) (List.cons (s29) (List.cons (s30) (List.cons (s31) (List.cons (s32) (List.cons (s33) (List.cons (s34) (List.cons (s35) (List.cons (s36) (List.cons (s37) (List.cons (s38) (List.cons (s39) (List.cons (s40) (List.cons (s41) (List.cons (s42) (List.cons (s43) (List.cons (s44) (List.cons (s45) (List.cons (s46) (List.cons (s47) (List.cons (s48) (List.cons (s49) (List.cons (s50) (List.cons (s51) (List.cons (s52) (List.cons (s53) (List.cons (s54) (List.cons (s55) (List.cons (s56) (List.cons (s57) (List.cons (s58) (List.cons (s59) (List.cons (s60) (List.cons (s61) (List.cons (s62) (List.cons (s63) (List.cons (s64) (List.cons (s65) (List.cons (s66) (List.cons (s67) (List.cons (s68) (List.cons (s69) (List.cons (s70) (List.cons (s71) (List.cons (s72) (List.cons (s73) (List.cons (s74) (List.cons (s75) (List.cons (s76) (List.cons (s77) (List.cons (s78) (List.cons (s79) (List.cons (s80) (List.cons (s81) (List.cons (s82) (List.cons (s83) (List.cons (s84) (List.cons (s85) (List.cons (s86) (List.cons (s87) (List.cons (s88) (List.cons (s89) (List.cons (s90) (List.cons (s91) (List.cons (s92) (List.cons (s93) (List.cons (s94) (List.cons (s95) (List.cons (s96) (List.cons (s97) (List.cons (s98) (List.cons (s99) (List.cons (s100) (List.cons (s101) (List.cons (s102) (List.cons (s103) (List.cons (s104) (List.cons (s105) (List.cons (s106) (List.cons (s107) (List.cons (s108) (List.cons (s109) (List.cons (s110) (List.cons (s111) (List.cons (s112) (List.cons (s113) (List.cons (s114) (List.cons (s115) (List.cons (s116) (List.cons (s117) (List.cons (s118) (List.cons (s119) (List.cons (s120) (List.cons (s121) (List.cons (s122) (List.cons (s123) (List.cons (s124) (List.cons (s125) (List.cons (s126) (List.cons (s127) (List.cons (s128) (List.cons (s129) (List.cons (s130) (List.cons (s131) (List.cons (s132) (List.cons (s133) (List.cons (s134) (List.cons (s135) (List.cons (s136) (List.cons (s137) (List.cons (s138) (List.cons (s139) (List.cons (s140) (List.cons (s141) (List.cons (s142) (List.cons (s143) (List.cons (s144) (List.cons (s145) (List.cons (s146) (List.cons (s147) (List.cons (s148) (List.cons (s149) (List.cons (s150) (List.cons (s151) List.nil)))))))))))))))))))))))))))))))))))))))))))))))))))))))))))))))))))))))))))))))))))))))))))))))))))))))))))))))))))))))))))))))))))))))))))))))))))))))), defers := [] } : Act) w := by
  simp [findS, headR, Try.f127] at hR
  subst hR
  have HRO := hid hro
  have HRJ := hid hrj
  have HR2 := hid hrow2
  have hcap : k + 3 ≤ rc := by have h9 := (row_cap hrow2 (by rw [List.length_map]; have := (List.getElem?_eq_some_iff.1 hra1).1; omega)).2; omega
  obtain ⟨gr, hga, hrr, hgr⟩ := row_nat hrow2 hra1
  subst hga
  have hk3 : (rn : Int) - 3 = (k : Int) := by omega
  have hkr : k < rn := by omega
  have hrk2 : rn - k = 3 := by omega
  have hkc : k < rc := by omega
  have ca : w.cell? ⟨gr, k, none⟩ = some (.int .i64 (a : Int)) := hrr k a hra1
  have z1 : w.frozen? ⟨gj, a, none⟩ = false := hrj.frozen
  have z0 : w.cell? ⟨gj, a, none⟩ = some (fj a) := hrj.cell han
  have hne : gr ≠ go := fun e => hap (by rw [← e]; rfl)
  have hnj : gr ≠ gj := fun e => by
    obtain ⟨C, h1⟩ := own_type hrow2 (show (Value.slice (some ⟨gr, 0, none⟩) rn rc).ownBlock = some gr from rfl)
    obtain ⟨C', h2, _⟩ := hrj
    rw [e, h2] at h1
    injection h1 with h1
    injection h1 with _ h1
    exact absurd h1 (by decide)
  have hoj : go ≠ gj := hro.apart hrj (by decide)
  have HEL := hid (show ∀ m, m < 3 → Rw[k + m]? = some ([a, c, e].getD m 0) ∧ [a, c, e].getD m 0 < n from fun m hm => by
    match m, hm with
    | 0, _ => exact ⟨hra1, han⟩
    | 1, _ => exact ⟨hrc1, hcn⟩
    | 2, _ => exact ⟨hre1, hen⟩)
  have HRR := hid hrr
  have HRK := hid hrk
  have HAN := hid han
  clear hro hrj hrow2 hra1 hrc1 hre1 hap hrr hrk hcn hen
  go_wp2_with fail
  clear ca z1 z0
  go_loopw [140] (fun iv W => ∃ m : Nat, m ≤ 3 ∧ iv = .int .i64 (m : Int) ∧ RowF W go 3 n (updN fo [a, c, e] m) ∧ RowF W gj 4 n (updG fj a (.bool true)) ∧ W.heap[gr]? = w.heap[gr]? ∧ Below B w W ∧ w.heap.size ≤ W.heap.size) (fun iv _ => 3 - (intOf iv).toNat)
  case atStart => exact ⟨0, by omega, rfl, HRO.out.same (setCell_other (fun e => hoj e)), HRJ.out.set a (.bool true), setCell_other (fun e => hnj e), (Below.refl _ _ |>.mono (by omega)).setCell (p := ⟨gj, a, none⟩) hbj _, by simp⟩
  case round =>
    obtain ⟨m, hm, rfl, hfo, hfj, hgs, hB, hsz⟩ := hrel
    have HFO := hid hfo
    have HFJ := hid hfj
    have HGS := hid hgs
    have HB := hid hB
    clear hfo hfj hgs hB
    by_cases hlt : m < 3
    · have e3 : decide ((m : Int) < 3) = true := decide_eq_true (by omega)
      obtain ⟨el, hel⟩ : ∃ el, el = [a, c, e].getD m 0 := ⟨_, rfl⟩
      have hE := HEL.out m hlt
      rw [← hel] at hE
      have heln : el < n := hE.2
      have HELM := hid hel
      have cr : wr.cell? ⟨gr, k + m, none⟩ = some (.int .i64 (el : Int)) := by
        have h9 := HRR.out (k + m) el hE.1
        unfold World.cell? at h9 ⊢
        simp only at h9 ⊢
        rw [HGS.out]
        exact h9
      have z1 : wr.frozen? ⟨go, el, none⟩ = false := HFO.out.frozen
      have z0 : wr.cell? ⟨go, el, none⟩ = some (updN fo [a, c, e] m el) := HFO.out.cell heln
      clear hE hel
      go_wp2_with fail
      refine ⟨⟨m + 1, by omega, by go_num, ?_, HFJ.out.same (setCell_other (fun e => hoj e.symm)), (setCell_other (fun e => hne e)).trans HGS.out, HB.out.setCell (p := ⟨go, el, none⟩) hbo _, by simp; omega⟩, by simp [intOf]; omega⟩
      rw [updN, ← HELM.out]
      exact HFO.out.set el (.int .i64 0)
    · have e3 : decide ((m : Int) < 3) = false := decide_eq_false (by omega)
      have hm3 : m = 3 := by omega
      have HF3 := hid (show RowF wr go 3 n (updN fo [a, c, e] 3) from hm3 ▸ HFO.out)
      clear hm3
      go_wp2_with fail
      exact HQ.out _ _ _ _ _ _ _ _ _ _ _ _ _ _ _ _ _ _ _ _ _ _ wr HF3.out HFJ.out HB.out hsz
end Go.Proofs.Yteoikaedpgianaa
