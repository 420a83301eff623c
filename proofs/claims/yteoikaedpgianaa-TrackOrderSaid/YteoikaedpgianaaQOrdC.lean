/- TrackOrder (19): both lists are cleaned alike. (Printed by wip/gen_ordc.py.) TrackOrder (19): two fixes change places (region 16). (Printed by wip/gen_ordd.py.) -/
import Derived.Test.YteoikaedpgianaaQOrdB
namespace Go.Proofs.Yteoikaedpgianaa
open Go.RowKit Go.Sort Go.Lib Go.Shelf Go.Proofs

theorem size124o : (Try.prog.info? 124).map (·.size) = some 2 := by kernel_rfl
set_option maxRecDepth 100000 in
set_option maxHeartbeats 3200000 in
/-- both lists are cleaned alike -/
theorem order_clean (s1 s2 s3 s4 s6 s7 s8 s10 s11 s12 s13 s14 s15 s16 s17 s18 s19 s20 s21 s22 s23 s24 s25 s26 s27 s28 s29 s30 s31 s32 s33 s34 s35 s36 s37 s38 s39 s40 s41 s42 s43 s44 s45 s46 s47 s48 s49 s50 s51 s52 s53 s54 s55 s56 s57 s58 s59 s60 s61 s62 s63 s64 s65 s66 s67 s68 s69 s70 s71 s72 s73 s74 s75 s76 s77 s78 s79 s80 s81 s82 s83 s84 s85 s86 s87 s88 s89 s90 s91 s92 s93 s94 s95 s96 s97 s98 s99 s100 s101 s102 s103 s104 s105 s106 s107 s108 s109 s110 s111 s112 s113 s114 s115 s116 s117 s118 s119 s120 s121 s122 s123 s124 s125 s126 s127 s128 s129 s130 s131 s132 s133 s134 s135 s136 s137 s138 s139 s140 s141 s142 s143 s144 s145 s146 s147 s148 s149 s150 s151 s152 s153 s154 s155 s156 s157 s158 s159 s160 s161 s162 s163 s164 s165 s166 s167 s168 s169 s170 s171 s172 s173 s174 s175 s176 s177 s178 s179 s180 s181 s182 s183 s184 s185 s186 s187 s188 s189 s190 s191 s192 s193 s194 s195 s196 s197 s198 s199 s200 s201 s202 s203 s204 s205 s206 s207 s208 s209 s210 s211 s212 s213 s214 s215 s216 s217 s218 s219 s220 s221 s222 s223 s224 s225 s226 s227 s228 : Value) (w : World) (gm fn fc mn mc : Nat) (fa ma : Option Addr) (xs ys : List Fx) (m0 m1 m2 m3 : Int) (Q : Exit → Act → World → Prop) (R : Code) (hR : Try.f19.body.bind (findS 19) = some R) (hm5 : w.heap[gm]? = some (.cells #[.int .i64 m0, .int .i64 m1, .int .i64 m2, .int .i64 m3] 61)) (hX : FxV w (.slice fa fn fc) xs) (hY : FxV w (.slice ma mn mc) ys) (hsame : ∀ x, x ∈ xs ↔ x ∈ ys) (hxl : xs.length ≤ 1000) (hyl : ys.length ≤ 1000) (hr : rulesB m0 m1 m2 m3 = true) (hok : ∀ x ∈ xs, x.ok = true)
    (HQ : Hid (∀ (u0 u1 u2 u3 u4 u5 u7 u8 u9 u10 u11 u12 u13 u14 u15 u16 u17 u18 u19 u20 u21 u22 u23 u24 u25 u26 u27 u28 u29 u30 u31 u32 u33 u34 u35 u36 u37 u38 u39 u40 u41 u42 u43 u44 u45 u46 u47 u48 u49 u50 u51 u52 u53 u54 u55 u56 u57 u58 u59 u60 u61 u62 u63 u64 u65 u66 u67 u68 u69 u70 u71 u72 u73 u74 u75 u76 u77 u78 u79 u80 u81 u82 u83 u84 u85 u86 u87 u88 u89 u90 u91 u92 u93 u94 u95 u96 u97 u98 u99 u100 u101 u102 u103 u104 u105 u106 u107 u108 u109 u110 u111 u112 u113 u114 u115 u116 u117 u118 u119 u120 u121 u122 u123 u124 u125 u126 u127 u128 u129 u130 u131 u132 u133 u134 u135 u136 u137 u138 u139 u140 u141 u142 u143 u144 u145 u146 u147 u148 u149 u150 u151 u152 u153 u154 u155 u156 u157 u158 u159 u160 u161 u162 u163 u164 u165 u166 u167 u168 u169 u170 u171 u172 u173 u174 u175 u176 u177 u178 u179 u180 u181 u182 u183 u184 u185 u186 u187 u188 u189 u190 u191 u192 u193 u194 u195 u196 u197 u198 u199 u200 u201 u202 u203 u204 u205 u206 u207 u208 u209 u210 u211 u212 u213 u214 u215 u216 u217 u218 u219 u220 u221 u222 u223 u224 u225 u226 u227 u228 : Value) (W5 : World), Below w.heap.size w W5 → Q Exit.ret ({ tmps := List.toArray (List.cons (u0) (List.cons (u1) (List.cons (u2) (List.cons (u3) (List.cons (u4) (List.cons (u5) (List.cons (.bool true) (List.cons (u7) (List.cons (u8) (List.cons (u9) (List.cons (u10) (List.cons (u11) (List.cons (u12) (List.cons (u13) (List.cons (u14) (List.cons (u15) (List.cons (u16) (List.cons (u17) (List.cons (u18) (List.cons (u19) (List.cons (u20) (List.cons (u21) (List.cons (u22) (List.cons (u23) (List.cons (u24) (List.cons (u25) (List.cons (u26) (List.cons (u27) (List.cons (u28) (List.cons (u29) (List.cons (u30) (List.cons (u31) (List.cons (u32) (List.cons (u33) (List.cons (u34) (List.cons (u35) (List.cons (u36) (List.cons (u37) (List.cons (u38) (List.cons (u39) (List.cons (u40) (List.cons (u41) (List.cons (u42) (List.cons (u43) (List.cons (u44) (List.cons (u45) (List.cons (u46) (List.cons (u47) (List.cons (u48) (List.cons (u49) (List.cons (u50) (List.cons (u51) (List.cons (u52) (List.cons (u53) (List.cons (u54) (List.cons (u55) (List.cons (u56) (List.cons (u57) (List.cons (u58) (List.cons (u59) (List.cons (u60) (List.cons (u61) (List.cons (u62) (List.cons (u63) (List.cons (u64) (List.cons (u65) (List.cons (u66) (List.cons (u67) (List.cons (u68) (List.cons (u69) (List.cons (u70) (List.cons (u71) (List.cons (u72) (List.cons (u73) (List.cons (u74) (List.cons (u75) (List.cons (u76) (List.cons (u77) (List.cons (u78) (List.cons (u79) (List.cons (u80) (List.cons (u81) (List.cons (u82) (List.cons (u83) (List.cons (u84) (List.cons (u85) (List.cons (u86) (List.cons (u87) (List.cons (u88) (List.cons (u89) (List.cons (u90) (List.cons (u91) (List.cons (u92) (List.cons (u93) (List.cons (u94) (List.cons (u95) (List.cons (u96) (List.cons (u97) (List.cons (u98) (List.cons (u99) (List.cons (u100) (List.cons (u101) (List.cons (u102) (List.cons (u103) (List.cons (u104) (List.cons (u105) (List.cons (u106) (List.cons (u107) (List.cons (u108) (List.cons (u109) (List.cons (u110) (List.cons (u111) (List.cons (u112) (List.cons (u113) (List.cons (u114) (List.cons (u115) (List.cons (u116) (List.cons (u117) (List.cons (u118) (List.cons (u119) (List.cons (u120) (List.cons (u121) (List.cons (u122) (List.cons (u123) (List.cons (u124) (List.cons (u125) (List.cons (u126) (List.cons (u127) (List.cons (u128) (List.cons (u129) (List.cons (u130) (List.cons (u131) (List.cons (u132) (List.cons (u133) (List.cons (u134) (List.cons (u135) (List.cons (u136) (List.cons (u137) (List.cons (u138) (List.cons (u139) (List.cons (u140) (List.cons (u141) (List.cons (u142) (List.cons (u143) (List.cons (u144) (List.cons (u145) (List.cons (u146) (List.cons (u147) (List.cons (u148) (List.cons (u149) (List.cons (u150) (List.cons (u151) (List.cons (u152) (List.cons (u153) (List.cons (u154) (List.cons (u155) (List.cons (u156) (List.cons (u157) (List.cons (u158) (List.cons (u159) (List.cons (u160) (List.cons (u161) (List.cons (u162) (List.cons (u163) (List.cons (u164) (List.cons (u165) (List.cons (u166) (List.cons (u167) (List.cons (u168) (List.cons (u169) (List.cons (u170) (List.cons (u171) (List.cons (u172) (List.cons (u173) (List.cons (u174) (List.cons (u175) (List.cons (u176) (List.cons (u177) (List.cons (u178) (List.cons (u179) (List.cons (u180) (List.cons (u181) (List.cons (u182) (List.cons (u183) (List.cons (u184) (List.cons (u185) (List.cons (u186) (List.cons (u187) (List.cons (u188) (List.cons (u189) (List.cons (u190) (List.cons (u191) (List.cons (u192) (List.cons (u193) (List.cons (u194) (List.cons (u195) (List.cons (u196) (List.cons (u197) (List.cons (u198) (List.cons (u199) (List.cons (u200) (List.cons (u201) (List.cons (u202) (List.cons (u203) (List.cons (u204) (List.cons (u205) (List.cons (u206) (List.cons (u207) (List.cons (u208) (List.cons (u209) (List.cons (u210) (List.cons (u211) (List.cons (u212) (List.cons (u213) (List.cons (u214) (List.cons (u215) (List.cons (u216) (List.cons (u217) (List.cons (u218) (List.cons (u219) (List.cons (u220) (List.cons (u221) (List.cons (u222) (List.cons (u223) (List.cons (u224) (List.cons (u225) (List.cons (u226) (List.cons (u227) (List.cons (u228) List.nil))))))))))))))))))))))))))))))))))))))))))))))))))))))))))))))))))))))))))))))))))))))))))))))))))))))))))))))))))))))))))))))))))))))))))))))))))))))))))))))))))))))))))))))))))))))))))))))))))))))))))))))))))))))))))))))))))))), defers := [] } : Act) W5)) :
    Code.wp Try.prog R Q ({ tmps := List.toArray (List.cons (.slice fa fn fc) (List.cons (s1) (List.cons (s2) (List.cons (s3) (List.cons (s4) (List.cons (.pointer (some ⟨gm, 0, none⟩)) (List.cons (s6) (List.cons (s7) (List.cons (s8) (List.cons (.slice ma mn mc) (List.cons (s10) (List.cons (s11) (List.cons (s12) (List.cons (s13) (List.cons (s14) (List.cons (s15) (List.cons (s16) (List.cons (s17) (List.cons (s18) (List.cons (s19) (List.cons (s20) (List.cons (s21) (List.cons (s22) (List.cons (s23) (List.cons (s24) (List.cons (s25) (List.cons (s26) (List.cons (s27) (List.cons (s28) (List.cons (s29) (List.cons (s30) (List.cons (s31) (List.cons (s32) (List.cons (s33) (List.cons (s34) (List.cons (s35) (List.cons (s36) (List.cons (s37) (List.cons (s38) (List.cons (s39) (List.cons (s40) (List.cons (s41) (List.cons (s42) (List.cons (s43) (List.cons (s44) (List.cons (s45) (List.cons (s46) (List.cons (s47) (List.cons (s48) (List.cons (s49) (List.cons (s50) (List.cons (s51) (List.cons (s52) (List.cons (s53) (List.cons (s54) (List.cons (s55) (List.cons (s56) (List.cons (s57) (List.cons (s58) (List.cons (s59) (List.cons (s60) (List.cons (s61) (List.cons (s62) (List.cons (s63) (List.cons (s64) (List.cons (s65) (List.cons (s66) (List.cons (s67) (List.cons (s68) (List.cons (s69) (List.cons (s70) (List.cons (s71) (List.cons (s72) (List.cons (s73) (List.cons (s74) (List.cons (s75) (List.cons (s76) (List.cons (s77) (List.cons (s78) (List.cons (s79) (List.cons (s80) (List.cons (s81) (List.cons (s82) (List.cons (s83) (List.cons (s84) (List.cons (s85) (List.cons (s86) (List.cons (s87) (List.cons (s88) (List.cons (s89) (List.cons (s90) (List.cons (s91) (List.cons (s92) (List.cons (s93) (List.cons (s94) (List.cons (s95) (List.cons (s96) (List.cons (s97) (List.cons (s98) (List.cons (s99) (List.cons (s100) (List.cons (s101) (List.cons (s102) (List.cons (s103) (List.cons (s104) (List.cons (s105) (List.cons (s106) (List.cons (s107) (List.cons (s108) (List.cons (s109) (List.cons (s110) (List.cons (s111) (List.cons (s112) (List.cons (s113) (List.cons (s114) (List.cons (s115) (List.cons (s116) (List.cons (s117) (List.cons (s118) (List.cons (s119) (List.cons (s120) (List.cons (s121) (List.cons (s122) (List.cons (s123) (List.cons (s124) (List.cons (s125) (List.cons (s126) (List.cons (s127) (List.cons (s128) (List.cons (s129) (List.cons (s130) (List.cons (s131) (List.cons (s132) (List.cons (s133) (List.cons (s134) (List.cons (s135) (List.cons (s136) (List.cons (s137) (List.cons (s138) (List.cons (s139) (List.cons (s140) (List.cons (s141) (List.cons (s142) (List.cons (s143) (List.cons (s144) (List.cons (s145) (List.cons (s146) (List.cons (s147) (List.cons (s148) (List.cons (s149) (List.cons (s150) (List.cons (s151) (List.cons (s152) (List.cons (s153) (List.cons (s154) (List.cons (s155) (List.cons (s156) (List.cons (s157) (List.cons (s158) (List.cons (s159) (List.cons (s160) (List.cons (s161) (List.cons (s162) (List.cons (s163) (List.cons (s164) (List.cons (s165) (List.cons (s166) (List.cons (s167) (List.cons (s168) (List.cons (s169) (List.cons (s170) (List.cons (s171) (List.cons (s172) (List.cons (s173) (List.cons (s174) (List.cons (s175) (List.cons (s176) (List.cons (s177) (List.cons (s178) (List.cons (s179) (List.cons (s180) (List.cons (s181) (List.cons (s182) (List.cons (s183) (List.cons (s184) (List.cons (s185) (List.cons (s186) (List.cons (s187) (List.cons (s188) (List.cons (s189) (List.cons (s190) (List.cons (s191) (List.cons (s192) (List.cons (s193) (List.cons (s194) (List.cons (s195) (List.cons (s196) (List.cons (s197) (List.cons (s198) (List.cons (s199) (List.cons (s200) (List.cons (s201) (List.cons (s202) (List.cons (s203) (List.cons (s204) (List.cons (s205) (List.cons (s206) (List.cons (s207) (List.cons (s208) (List.cons (s209) (List.cons (s210) (List.cons (s211) (List.cons (s212) (List.cons (s213) (List.cons (s214) (List.cons (s215) (List.cons (s216) (List.cons (s217) (List.cons (s218) (List.cons (s219) (List.cons (s220) (List.cons (s221) (List.cons (s222) (List.cons (s223) (List.cons (s224) (List.cons (s225) (List.cons (s226) (List.cons (s227) (List.cons (s228) List.nil))))))))))))))))))))))))))))))))))))))))))))))))))))))))))))))))))))))))))))))))))))))))))))))))))))))))))))))))))))))))))))))))))))))))))))))))))))))))))))))))))))))))))))))))))))))))))))))))))))))))))))))))))))))))))))))))))))), defers := [] } : Act) w := by
  simp [findS, headR, Try.f19] at hR
  subst hR
  have HMw := hid hm5
  have HOK := hid hok
  have HY := hid hY
  have HSM := hid hsame
  have HCC := hid (xClean_ok (.slice fa fn fc) xs m0 m1 m2 m3 w hX hxl hr hok)
  clear hm5 hX hY hok hsame
  have cm0 : w.cell? ⟨gm, 0, none⟩ = some (.int .i64 m0) := (cell_row (j := 0) HMw.out).trans rfl
  have cm1 : w.cell? ⟨gm, 1, none⟩ = some (.int .i64 m1) := (cell_row (j := 1) HMw.out).trans rfl
  have cm2 : w.cell? ⟨gm, 2, none⟩ = some (.int .i64 m2) := (cell_row (j := 2) HMw.out).trans rfl
  have cm3 : w.cell? ⟨gm, 3, none⟩ = some (.int .i64 m3) := (cell_row (j := 3) HMw.out).trans rfl
  go_wp2_with fail
  refine HCC.out.mono ?_
  rintro r w1 ⟨⟨kv, iv, D, Z, rfl, hone, hk, hi, hp, hu⟩, hb1⟩
  clear HCC cm0 cm1 cm2 cm3
  have HBw1 := hid hb1
  have HMw1 := hid (heap_still hb1 HMw.out)
  have HCD := hid (xClean_ok (.slice ma mn mc) ys m0 m1 m2 m3 w1 (HY.out.still hb1) hyl hr (fun p hp => HOK.out p ((HSM.out p).2 hp)))
  obtain ⟨ka, kc, hkv⟩ := OwnR.slice hk
  obtain ⟨kn, hkn⟩ : ∃ kn, kn = (cleanK m1 D).length := ⟨_, rfl⟩
  rw [List.length_map, ← hkn] at hkv
  subst hkv
  have HKN := hid hkn
  have HK := hid (OwnF.fxV hk)
  have HI := hid hi
  have HP := hid hp
  have HU := hid hu
  have HONE := hid hone
  clear hb1 hk hi hp hu hone HMw HY hkn
  have cm0 : w1.cell? ⟨gm, 0, none⟩ = some (.int .i64 m0) := (cell_row (j := 0) HMw1.out).trans rfl
  have cm1 : w1.cell? ⟨gm, 1, none⟩ = some (.int .i64 m1) := (cell_row (j := 1) HMw1.out).trans rfl
  have cm2 : w1.cell? ⟨gm, 2, none⟩ = some (.int .i64 m2) := (cell_row (j := 2) HMw1.out).trans rfl
  have cm3 : w1.cell? ⟨gm, 3, none⟩ = some (.int .i64 m3) := (cell_row (j := 3) HMw1.out).trans rfl
  go_wp2_with fail
  refine HCD.out.mono ?_
  rintro r w2 ⟨⟨kv2, iv2, D2, Z2, rfl, hone2, hk2, hi2, hp2, hu2⟩, hb2⟩
  clear HCD cm0 cm1 cm2 cm3
  have hD : D2 = D := hone2.one HONE.out (fun x => (HSM.out x).symm)
  subst hD
  have hZ : Z2 = Z := issUp_one (hp2.trans HP.out.symm) hu2 HU.out
  subst hZ
  have HBw2 := hid (HBw1.out.trans (hb2.mono HBw1.out.size))
  have HMw2 := hid (heap_still hb2 HMw1.out)
  have hsub : ∀ g ∈ cleanK m1 D2, g ∈ ys := fun g hg => cleanK_mem hone2 hg
  have HKOK := hid (fun (x : Fx) (hx : x ∈ cleanK m1 D2) => show x.ok = true from HOK.out x ((HSM.out x).2 (hsub x hx)))
  have hnd : (cleanK m1 D2).length ≤ 1000 := by
    have h1 := (cleanK_up (m1 := m1) hone2)
    have hn1 : (cleanK m1 D2).Nodup := h1.imp fun {a b} h e => by subst e; omega
    exact Nat.le_trans (hn1.length_le_of_subset (fun x hx => hsub x hx)) hyl
  have HKL := hid (show kn ≤ 1000 by rw [HKN.out]; exact hnd)
  have HUP := hid (cleanK_up (m1 := m1) hone2)
  have hzl : Z2.length ≤ 100000 := by
    rw [hp2.length_eq]
    unfold cleanI
    have h1 := run_small (t := Fx.t) (near := nearB m1) D2 D2.length
    have h2 : D2.length ≤ 1000 := Nat.le_trans ((once_nodup hone2.1).length_le_of_subset (fun x hx => (hone2.2 x).1 hx)) hyl
    rw [List.length_append, show (offsG Fx.t (runG Fx.t (nearB m1) D2 D2.length).2.1).length = (runG Fx.t (nearB m1) D2 D2.length).2.1.length by simp [offsG]]
    omega
  have HZL := hid hzl
  have HSF := hid (sameFx_any (.slice ka kn kc) kv2 (cleanK m1 D2) w2 (by rw [← HKN.out]; have h1 := HKL.out; omega) (HK.out.still hb2) (OwnF.fxV hk2))
  have HSI := hid (fun (W : World) (hb : Below w2.heap.size w2 W) => sameIss_any iv iv2 Z2 W hzl ((HI.out.still hb2).still hb) (hi2.still hb))
  have HI2 := hid (HI.out.still hb2)
  have HK2 := hid (HK.out.still hb2)
  clear hb2 hk2 hi2 hp2 hu2 hsub hnd hzl HMw1 HI HK HONE HU
  go_wp2_with fail
  refine HSF.out.mono ?_
  rintro r w3 ⟨rfl, hb3⟩
  have HB3 := hid hb3
  clear hb3
  go_wp2_with fail
  refine (HSI.out _ HB3.out).mono ?_
  rintro r w4 ⟨rfl, hb4⟩
  have HB4 := hid (HB3.out.trans (hb4.mono HB3.out.size))
  clear hb4 HB3 HSF HSI
  obtain ⟨ia, ic, hiv, hrows⟩ := HI2.out.opens
  obtain ⟨zn, hzn⟩ : ∃ zn, zn = Z2.length := ⟨_, rfl⟩
  rw [← hzn] at hiv
  have HZN := hid hzn
  have HRW := hid hrows
  have hzb : zn ≤ 100000 := by rw [hzn]; exact HZL.out
  clear HI2 hrows hzn
  subst hiv
  go_wp2_with fail
  go_loopw [20, 139] (fun qv jv W => ∃ (i : Nat) (q : Bool), i ≤ zn ∧ jv = .int .i64 (i : Int) ∧ qv = .bool q ∧ (q = false → ∀ j, j < i → ∀ z, Z2[j]? = some z → z.1 ≠ 3) ∧ Below w4.heap.size w4 W) (fun _ jv _ => zn - (intOf jv).toNat)
  case atStart => exact ⟨0, false, by omega, rfl, rfl, fun _ j hj => absurd hj (Nat.not_lt_zero _), Below.refl _ _⟩
  case round =>
    obtain ⟨i, q, hi, rfl, rfl, hq, hB⟩ := hrel
    have HQQ := hid hq
    have HB := hid hB
    clear hq hB
    by_cases hlt : i < zn
    · have e3 : decide ((i : Int) < (zn : Int)) = true := decide_eq_true (by omega)
      obtain ⟨z, hz⟩ : ∃ z, Z2[i]? = some z := ⟨_, List.getElem?_eq_getElem (by rw [← HZN.out]; exact hlt)⟩
      obtain ⟨b, off, ha, hbl, hrow⟩ := HRW.out i z hz
      subst ha
      have hrw := (hrow.still HB4.out hbl).still HB.out (Nat.lt_of_lt_of_le hbl HB4.out.size)
      have hc0 : wr.cell? ⟨b, off + i * 2, none⟩ = some (.int .i64 z.1) := (iss_off hrw hz (off + i * 2) rfl 0 (by decide)).trans rfl
      have hc1 : wr.cell? ⟨b, off + i * 2 + 1, none⟩ = some (.int .i64 z.2) := (iss_off hrw hz (off + i * 2) rfl 1 (by decide)).trans rfl
      have HZ := hid hz
      clear hz hrow hrw
      cases q with
      | true =>
        go_wp2_with (first | (refine wpList_store_new rfl 124 (.tmp 22) (.tmp 142) rfl rfl rfl rfl size124o rfl rfl rfl ?_))
        exact ⟨⟨i + 1, true, by omega, by go_num, rfl, fun h => absurd h (by decide), by have hB9 := HB.out; have hs9 := HB.out.size; (repeat' (first | (with_reducible exact Below.refl _ _) | (with_reducible assumption) | (with_reducible refine Below.alloc ?_ ?_ _) | (with_reducible refine Below.drew ?_) | (with_reducible refine below_drewN ?_ _) | (with_reducible refine Below.setCell ?_ ?_ _) | (with_reducible refine below_setRow ?_ ?_ _) | go_size))⟩, by simp [intOf]; omega⟩
      | false =>
        by_cases h3 : z.1 = 3
        · have e4 : (z.1 == 3) = true := by simpa using h3
          have e5 : decide (z.1 = 3) = true := decide_eq_true h3
          clear h3
          go_wp2_with (first | (refine wpList_store_new rfl 124 (.tmp 22) (.tmp 142) rfl rfl rfl rfl size124o rfl rfl rfl ?_))
          exact ⟨⟨i + 1, true, by omega, by go_num, rfl, fun h => absurd h (by decide), by have hB9 := HB.out; have hs9 := HB.out.size; (repeat' (first | (with_reducible exact Below.refl _ _) | (with_reducible assumption) | (with_reducible refine Below.alloc ?_ ?_ _) | (with_reducible refine Below.drew ?_) | (with_reducible refine below_drewN ?_ _) | (with_reducible refine Below.setCell ?_ ?_ _) | (with_reducible refine below_setRow ?_ ?_ _) | go_size))⟩, by simp [intOf]; omega⟩
        · have e4 : (z.1 == 3) = false := by simpa using h3
          have e5 : decide (z.1 = 3) = false := decide_eq_false h3
          have H3 := hid h3
          clear h3
          go_wp2_with (first | (refine wpList_store_new rfl 124 (.tmp 22) (.tmp 142) rfl rfl rfl rfl size124o rfl rfl rfl ?_))
          refine ⟨⟨i + 1, false, by omega, by go_num, rfl, ?_, by have hB9 := HB.out; have hs9 := HB.out.size; (repeat' (first | (with_reducible exact Below.refl _ _) | (with_reducible assumption) | (with_reducible refine Below.alloc ?_ ?_ _) | (with_reducible refine Below.drew ?_) | (with_reducible refine below_drewN ?_ _) | (with_reducible refine Below.setCell ?_ ?_ _) | (with_reducible refine below_setRow ?_ ?_ _) | go_size))⟩, by simp [intOf]; omega⟩
          intro _ j hj y hy
          by_cases hji : j = i
          · subst hji; rw [HZ.out] at hy; injection hy with hy; rw [← hy]; exact H3.out
          · exact HQQ.out rfl j (by omega) y hy
    · have e3 : decide ((i : Int) < (zn : Int)) = false := decide_eq_false (by omega)
      have HJ := hid (show q = false → cleanK m1 (cleanK m1 D2) = cleanK m1 D2 ∧ cleanI m1 (cleanK m1 D2) = [] from fun hq => clean_again hone2 (fun p hp => by
        obtain ⟨j, hj⟩ := List.getElem?_of_mem (HP.out.symm.subset hp)
        exact HQQ.out hq j (by have h9 := (List.getElem?_eq_some_iff.1 hj).1; rw [← HZN.out] at h9; omega) p hj))
      have HB5 := hid (HBw2.out.trans ((HB4.out.trans (HB.out.mono HB4.out.size)).mono HBw2.out.size))
      have HM5 := hid (heap_still HB.out (heap_still HB4.out HMw2.out))
      have HK5 := hid ((HK2.out.still HB4.out).still HB.out)
      go_upto_if 140 with fail
      refine wp_cond_false rfl (wp_exit ?_)
      go_step
      go_step
      go_step
      go_step
      exact order_again _ _ _ _ _ _ _ _ _ _ _ _ _ _ _ _ _ _ _ _ _ _ _ _ _ _ _ _ _ _ _ _ _ _ _ _ _ _ _ _ _ _ _ _ _ _ _ _ _ _ _ _ _ _ _ _ _ _ _ _ _ _ _ _ _ _ _ _ _ _ _ _ _ _ _ _ _ _ _ _ _ _ _ _ _ _ _ _ _ _ _ _ _ _ _ _ _ _ _ _ _ _ _ _ _ _ _ _ _ _ _ _ _ _ _ _ _ _ _ _ _ _ _ _ _ _ _ _ _ _ _ _ _ _ _ _ _ _ _ _ _ _ _ _ _ _ _ _ _ _ _ _ _ _ _ _ _ _ _ _ _ _ _ _ _ _ _ _ _ _ _ _ _ _ _ _ _ _ _ _ _ _ _ _ _ _ _ _ _ _ _ _ _ _ _ _ _ _ _ _ _ _ _ _ _ _ _ _ _ _ _ _ _ _ _ _ _ _ _ _ _ _ _ _ _ _ wr gm kn kc ka q (cleanK m1 D2) m0 m1 m2 m3 _ _ (by kernel_rfl) HM5.out HK5.out HKN.out HKL.out hr (fun x hx => HKOK.out x hx) HUP.out HJ.out (hid (fun u0 u1 u2 u3 u4 u5 u7 u8 u9 u10 u11 u12 u13 u14 u15 u16 u17 u18 u19 u20 u21 u22 u23 u24 u25 u26 u27 u28 u29 u30 u31 u32 u33 u34 u35 u36 u37 u38 u39 u40 u41 u42 u43 u44 u45 u46 u47 u48 u49 u50 u51 u52 u53 u54 u55 u56 u57 u58 u59 u60 u61 u62 u63 u64 u65 u66 u67 u68 u69 u70 u71 u72 u73 u74 u75 u76 u77 u78 u79 u80 u81 u82 u83 u84 u85 u86 u87 u88 u89 u90 u91 u92 u93 u94 u95 u96 u97 u98 u99 u100 u101 u102 u103 u104 u105 u106 u107 u108 u109 u110 u111 u112 u113 u114 u115 u116 u117 u118 u119 u120 u121 u122 u123 u124 u125 u126 u127 u128 u129 u130 u131 u132 u133 u134 u135 u136 u137 u138 u139 u140 u141 u142 u143 u144 u145 u146 u147 u148 u149 u150 u151 u152 u153 u154 u155 u156 u157 u158 u159 u160 u161 u162 u163 u164 u165 u166 u167 u168 u169 u170 u171 u172 u173 u174 u175 u176 u177 u178 u179 u180 u181 u182 u183 u184 u185 u186 u187 u188 u189 u190 u191 u192 u193 u194 u195 u196 u197 u198 u199 u200 u201 u202 u203 u204 u205 u206 u207 u208 u209 u210 u211 u212 u213 u214 u215 u216 u217 u218 u219 u220 u221 u222 u223 u224 u225 u226 u227 u228 W5 hb => HQ.out u0 u1 u2 u3 u4 u5 u7 u8 u9 u10 u11 u12 u13 u14 u15 u16 u17 u18 u19 u20 u21 u22 u23 u24 u25 u26 u27 u28 u29 u30 u31 u32 u33 u34 u35 u36 u37 u38 u39 u40 u41 u42 u43 u44 u45 u46 u47 u48 u49 u50 u51 u52 u53 u54 u55 u56 u57 u58 u59 u60 u61 u62 u63 u64 u65 u66 u67 u68 u69 u70 u71 u72 u73 u74 u75 u76 u77 u78 u79 u80 u81 u82 u83 u84 u85 u86 u87 u88 u89 u90 u91 u92 u93 u94 u95 u96 u97 u98 u99 u100 u101 u102 u103 u104 u105 u106 u107 u108 u109 u110 u111 u112 u113 u114 u115 u116 u117 u118 u119 u120 u121 u122 u123 u124 u125 u126 u127 u128 u129 u130 u131 u132 u133 u134 u135 u136 u137 u138 u139 u140 u141 u142 u143 u144 u145 u146 u147 u148 u149 u150 u151 u152 u153 u154 u155 u156 u157 u158 u159 u160 u161 u162 u163 u164 u165 u166 u167 u168 u169 u170 u171 u172 u173 u174 u175 u176 u177 u178 u179 u180 u181 u182 u183 u184 u185 u186 u187 u188 u189 u190 u191 u192 u193 u194 u195 u196 u197 u198 u199 u200 u201 u202 u203 u204 u205 u206 u207 u208 u209 u210 u211 u212 u213 u214 u215 u216 u217 u218 u219 u220 u221 u222 u223 u224 u225 u226 u227 u228 W5 (HB5.out.trans (hb.mono HB5.out.size))))
end Go.Proofs.Yteoikaedpgianaa
namespace Go.Proofs.Yteoikaedpgianaa
open Go.RowKit Go.Sort Go.Lib Go.Shelf Go.Proofs

theorem own_swapF {W : World} {base g n cap x y : Nat} {C : Array Value} {L : List Fx} {p q : Fx} (h : OwnF W base (.slice (some ⟨g, 0, none⟩) n cap) L) (hC : W.heap[g]? = some (.cells C 55)) (hx : L[x]? = some p) (hy : L[y]? = some q) :
    OwnF ((W.setRow g (ptL C (x * 10) q.row)).setRow g (ptL (ptL C (x * 10) q.row) (y * 10) p.row)) base (.slice (some ⟨g, 0, none⟩) n cap) ((L.set x q).set y p) := by
  have hx1 := (List.getElem?_eq_some_iff.1 hx).1
  have hy1 := (List.getElem?_eq_some_iff.1 hy).1
  have hn := own_none h
  have h1 := OwnR.put (W' := W.setRow g (ptL C (x * 10) q.row)) h (by rw [List.length_map]; exact hn) (by omega : x < n) hC (Fx.row_len q) (Fx.row_one q) (setRow_heap _ _ _ _ _ _ hC)
  have h2 := OwnR.put (W' := (W.setRow g (ptL C (x * 10) q.row)).setRow g (ptL (ptL C (x * 10) q.row) (y * 10) p.row)) h1 (by rw [List.length_set, List.length_map]; exact hn) (by omega : y < n) (setRow_heap _ _ _ _ _ _ hC) (Fx.row_len p) (Fx.row_one p) (setRow_heap _ _ _ _ _ _ (setRow_heap _ _ _ _ _ _ hC))
  unfold OwnF
  rw [List.map_set, List.map_set]
  exact h2
set_option maxRecDepth 100000 in
set_option maxHeartbeats 3200000 in
theorem order_swap (s0 s1 s2 s3 s4 s5 s6 s7 s8 s10 s11 s14 s15 s16 s17 s18 s19 s20 s21 s22 s23 s24 s25 s26 s27 s28 s29 s30 s31 s32 s33 s34 s35 s36 s37 s38 s39 s40 s41 s42 s43 s44 s45 s46 s47 s48 s49 s50 s51 s52 s53 s54 s55 s56 s57 s58 s59 s60 s61 s62 s63 s64 s65 s66 s67 s68 s69 s70 s71 s72 s73 s74 s75 s76 s77 s78 s79 s80 s81 s82 s83 s84 s85 s86 s87 s88 s89 s90 s91 s92 s93 s94 s95 s96 s97 s98 s99 s100 s101 s102 s103 s104 s105 s106 s107 s108 s109 s110 s111 s112 s113 s114 s115 s116 s117 s118 s119 s120 s121 s122 s123 s124 s125 s126 s127 s128 s129 s130 s131 s132 s133 s134 s135 s136 s137 s138 s139 s140 s141 s142 s143 s144 s145 s146 s147 s148 s149 s150 s151 s152 s153 s154 s155 s156 s157 s158 s159 s160 s161 s162 s163 s164 s165 s166 s167 s168 s169 s170 s171 s172 s173 s174 s175 s176 s177 s178 s179 s180 s181 s182 s183 s184 s185 s186 s187 s188 s189 s190 s191 s192 s193 s194 s195 s196 s197 s198 s199 s200 s201 s202 s203 s204 s205 s206 s207 s208 s209 s210 s211 s212 s213 s214 s215 s216 s217 s218 s219 s220 s221 s222 s223 s224 s225 s226 s227 s228 : Value) (V : World) (B g n cap x y : Nat) (p q : Fx) (Lp : List Fx) (Q : Exit → Act → World → Prop) (R : Code) (hR : Try.f19.body.bind (findR 16) = some R)
    (ho : OwnF V B (.slice (some ⟨g, 0, none⟩) n cap) Lp) (hp : Lp[x]? = some p) (hq : Lp[y]? = some q)
    (HQ : Hid (∀ (u83 u84 u85 u86 u87 u88 u89 u90 u91 u92 u93 u94 u95 u96 : Value) (W5 : World), OwnF W5 B (.slice (some ⟨g, 0, none⟩) n cap) ((Lp.set x q).set y p) → V.grownBy W5 (some g) → Q Exit.normal ({ tmps := List.toArray (List.cons (s0) (List.cons (s1) (List.cons (s2) (List.cons (s3) (List.cons (s4) (List.cons (s5) (List.cons (s6) (List.cons (s7) (List.cons (s8) (List.cons (.slice (some ⟨g, 0, none⟩) n cap) (List.cons (s10) (List.cons (s11) (List.cons (.int .i64 (x : Int)) (List.cons (.int .i64 (y : Int)) (List.cons (s14) (List.cons (s15) (List.cons (s16) (List.cons (s17) (List.cons (s18) (List.cons (s19) (List.cons (s20) (List.cons (s21) (List.cons (s22) (List.cons (s23) (List.cons (s24) (List.cons (s25) (List.cons (s26) (List.cons (s27) (List.cons (s28) (List.cons (s29) (List.cons (s30) (List.cons (s31) (List.cons (s32) (List.cons (s33) (List.cons (s34) (List.cons (s35) (List.cons (s36) (List.cons (s37) (List.cons (s38) (List.cons (s39) (List.cons (s40) (List.cons (s41) (List.cons (s42) (List.cons (s43) (List.cons (s44) (List.cons (s45) (List.cons (s46) (List.cons (s47) (List.cons (s48) (List.cons (s49) (List.cons (s50) (List.cons (s51) (List.cons (s52) (List.cons (s53) (List.cons (s54) (List.cons (s55) (List.cons (s56) (List.cons (s57) (List.cons (s58) (List.cons (s59) (List.cons (s60) (List.cons (s61) (List.cons (s62) (List.cons (s63) (List.cons (s64) (List.cons (s65) (List.cons (s66) (List.cons (s67) (List.cons (s68) (List.cons (s69) (List.cons (s70) (List.cons (s71) (List.cons (s72) (List.cons (s73) (List.cons (s74) (List.cons (s75) (List.cons (s76) (List.cons (s77) (List.cons (s78) (List.cons (s79) (List.cons (s80) (List.cons (s81) (List.cons (s82) (List.cons (u83) (List.cons (u84) (List.cons (u85) (List.cons (u86) (List.cons (u87) (List.cons (u88) (List.cons (u89) (List.cons (u90) (List.cons (u91) (List.cons (u92) (List.cons (u93) (List.cons (u94) (List.cons (u95) (List.cons (u96) (List.cons (s97) (List.cons (s98) (List.cons (s99) (List.cons (s100) (List.cons (s101) (List.cons (s102) (List.cons (s103) (List.cons (s104) (List.cons (s105) (List.cons (s106) (List.cons (s107) (List.cons (s108) (List.cons (s109) (List.cons (s110) (List.cons (s111) (List.cons (s112) (List.cons (s113) (List.cons (s114) (List.cons (s115) (List.cons (s116) (List.cons (s117) (List.cons (s118) (List.cons (s119) (List.cons (s120) (List.cons (s121) (List.cons (s122) (List.cons (s123) (List.cons (s124) (List.cons (s125) (List.cons (s126) (List.cons (s127) (List.cons (s128) (List.cons (s129) (List.cons (s130) (List.cons (s131) (List.cons (s132) (List.cons (s133) (List.cons (s134) (List.cons (s135) (List.cons (s136) (List.cons (s137) (List.cons (s138) (List.cons (s139) (List.cons (s140) (List.cons (s141) (List.cons (s142) (List.cons (s143) (List.cons (s144) (List.cons (s145) (List.cons (s146) (List.cons (s147) (List.cons (s148) (List.cons (s149) (List.cons (s150) (List.cons (s151) (List.cons (s152) (List.cons (s153) (List.cons (s154) (List.cons (s155) (List.cons (s156) (List.cons (s157) (List.cons (s158) (List.cons (s159) (List.cons (s160) (List.cons (s161) (List.cons (s162) (List.cons (s163) (List.cons (s164) (List.cons (s165) (List.cons (s166) (List.cons (s167) (List.cons (s168) (List.cons (s169) (List.cons (s170) (List.cons (s171) (List.cons (s172) (List.cons (s173) (List.cons (s174) (List.cons (s175) (List.cons (s176) (List.cons (s177) (List.cons (s178) (List.cons (s179) (List.cons (s180) (List.cons (s181) (List.cons (s182) (List.cons (s183) (List.cons (s184) (List.cons (s185) (List.cons (s186) (List.cons (s187) (List.cons (s188) (List.cons (s189) (List.cons (s190) (List.cons (s191) (List.cons (s192) (List.cons (s193) (List.cons (s194) (List.cons (s195) (List.cons (s196) (List.cons (s197) (List.cons (s198) (List.cons (s199) (List.cons (s200) (List.cons (s201) (List.cons (s202) (List.cons (s203) (List.cons (s204) (List.cons (s205) (List.cons (s206) (List.cons (s207) (List.cons (s208) (List.cons (s209) (List.cons (s210) (List.cons (s211) (List.cons (s212) (List.cons (s213) (List.cons (s214) (List.cons (s215) (List.cons (s216) (List.cons (s217) (List.cons (s218) (List.cons (s219) (List.cons (s220) (List.cons (s221) (List.cons (s222) (List.cons (s223) (List.cons (s224) (List.cons (s225) (List.cons (s226) (List.cons (s227) (List.cons (s228) List.nil))))))))))))))))))))))))))))))))))))))))))))))))))))))))))))))))))))))))))))))))))))))))))))))))))))))))))))))))))))))))))))))))))))))))))))))))))))))))))))))))))))))))))))))))))))))))))))))))))))))))))))))))))))))))))))))))))))), defers := [] } : Act) W5)) :
    Code.wp Try.prog R Q ({ tmps := List.toArray (List.cons (s0) (List.cons (s1) (List.cons (s2) (List.cons (s3) (List.cons (s4) (List.cons (s5) (List.cons (s6) (List.cons (s7) (List.cons (s8) (List.cons (.slice (some ⟨g, 0, none⟩) n cap) (List.cons (s10) (List.cons (s11) (List.cons (.int .i64 (x : Int)) (List.cons (.int .i64 (y : Int)) (List.cons (s14) (List.cons (s15) (List.cons (s16) (List.cons (s17) (List.cons (s18) (List.cons (s19) (List.cons (s20) (List.cons (s21) (List.cons (s22) (List.cons (s23) (List.cons (s24) (List.cons (s25) (List.cons (s26) (List.cons (s27) (List.cons (s28) (List.cons (s29) (List.cons (s30) (List.cons (s31) (List.cons (s32) (List.cons (s33) (List.cons (s34) (List.cons (s35) (List.cons (s36) (List.cons (s37) (List.cons (s38) (List.cons (s39) (List.cons (s40) (List.cons (s41) (List.cons (s42) (List.cons (s43) (List.cons (s44) (List.cons (s45) (List.cons (s46) (List.cons (s47) (List.cons (s48) (List.cons (s49) (List.cons (s50) (List.cons (s51) (List.cons (s52) (List.cons (s53) (List.cons (s54) (List.cons (s55) (List.cons (s56) (List.cons (s57) (List.cons (s58) (List.cons (s59) (List.cons (s60) (List.cons (s61) (List.cons (s62) (List.cons (s63) (List.cons (s64) (List.cons (s65) (List.cons (s66) (List.cons (s67) (List.cons (s68) (List.cons (s69) (List.cons (s70) (List.cons (s71) (List.cons (s72) (List.cons (s73) (List.cons (s74) (List.cons (s75) (List.cons (s76) (List.cons (s77) (List.cons (s78) (List.cons (s79) (List.cons (s80) (List.cons (s81) (List.cons (s82) (List.cons (s83) (List.cons (s84) (List.cons (s85) (List.cons (s86) (List.cons (s87) (List.cons (s88) (List.cons (s89) (List.cons (s90) (List.cons (s91) (List.cons (s92) (List.cons (s93) (List.cons (s94) (List.cons (s95) (List.cons (s96) (List.cons (s97) (List.cons (s98) (List.cons (s99) (List.cons (s100) (List.cons (s101) (List.cons (s102) (List.cons (s103) (List.cons (s104) (List.cons (s105) (List.cons (s106) (List.cons (s107) (List.cons (s108) (List.cons (s109) (List.cons (s110) (List.cons (s111) (List.cons (s112) (List.cons (s113) (List.cons (s114) (List.cons (s115) (List.cons (s116) (List.cons (s117) (List.cons (s118) (List.cons (s119) (List.cons (s120) (List.cons (s121) (List.cons (s122) (List.cons (s123) (List.cons (s124) (List.cons (s125) (List.cons (s126) (List.cons (s127) (List.cons (s128) (List.cons (s129) (List.cons (s130) (List.cons (s131) (List.cons (s132) (List.cons (s133) (List.cons (s134) (List.cons (s135) (List.cons (s136) (List.cons (s137) (List.cons (s138) (List.cons (s139) (List.cons (s140) (List.cons (s141) (List.cons (s142) (List.cons (s143) (List.cons (s144) (List.cons (s145) (List.cons (s146) (List.cons (s147) (List.cons (s148) (List.cons (s149) (List.cons (s150) (List.cons (s151) (List.cons (s152) (List.cons (s153) (List.cons (s154) (List.cons (s155) (List.cons (s156) (List.cons (s157) (List.cons (s158) (List.cons (s159) (List.cons (s160) (List.cons (s161) (List.cons (s162) (List.cons (s163) (List.cons (s164) (List.cons (s165) (List.cons (s166) (List.cons (s167) (List.cons (s168) (List.cons (s169) (List.cons (s170) (List.cons (s171) (List.cons (s172) (List.cons (s173) (List.cons (s174) (List.cons (s175) (List.cons (s176) (List.cons (s177) (List.cons (s178) (List.cons (s179) (List.cons (s180) (List.cons (s181) (List.cons (s182) (List.cons (s183) (List.cons (s184) (List.cons (s185) (List.cons (s186) (List.cons (s187) (List.cons (s188) (List.cons (s189) (List.cons (s190) (List.cons (s191) (List.cons (s192) (List.cons (s193) (List.cons (s194) (List.cons (s195) (List.cons (s196) (List.cons (s197) (List.cons (s198) (List.cons (s199) (List.cons (s200) (List.cons (s201) (List.cons (s202) (List.cons (s203) (List.cons (s204) (List.cons (s205) (List.cons (s206) (List.cons (s207) (List.cons (s208) (List.cons (s209) (List.cons (s210) (List.cons (s211) (List.cons (s212) (List.cons (s213) (List.cons (s214) (List.cons (s215) (List.cons (s216) (List.cons (s217) (List.cons (s218) (List.cons (s219) (List.cons (s220) (List.cons (s221) (List.cons (s222) (List.cons (s223) (List.cons (s224) (List.cons (s225) (List.cons (s226) (List.cons (s227) (List.cons (s228) List.nil))))))))))))))))))))))))))))))))))))))))))))))))))))))))))))))))))))))))))))))))))))))))))))))))))))))))))))))))))))))))))))))))))))))))))))))))))))))))))))))))))))))))))))))))))))))))))))))))))))))))))))))))))))))))))))))))))))), defers := [] } : Act) V := by
  simp [findR, Try.f19] at hR
  subst hR
  obtain ⟨C, hC, hcs⟩ := block_at ho (by have := (List.getElem?_eq_some_iff.1 hp).1; omega)
  have hn := own_none ho
  have hcn : n ≤ cap := own_cap ho hn.symm
  have hx1 : x < n := by rw [hn]; exact (List.getElem?_eq_some_iff.1 hp).1
  have hy1 : y < n := by rw [hn]; exact (List.getElem?_eq_some_iff.1 hq).1
  have hcz : n * 10 ≤ C.size := by rw [hcs]; exact Nat.mul_le_mul_right 10 hcn
  have hrow := rows_at ho (by omega)
  have HO := hid ho
  have YC := hid hC
  have YK := hid (Below.refl V.heap.size V)
  have YP := hid (row_of hrow hp (x * 10) rfl)
  have YQ := hid (row_of hrow hq (y * 10) rfl)
  have HPX := hid hp
  have HQY := hid hq
  clear ho hC hcs hn hrow hp hq hcn
  refine gen_act (fun A0 hA => ?_)
  refine wp_region_by (by kernel_rfl) (by kernel_rfl) [some 83, some 84, some 85, some 86, some 87, some 88, some 89, some 90, some 91, some 92, some 93, some 94, some 95, none, some 96, none] rfl (by decide) (TwoT V.drew (V.drew.setRow g (ptL C (x * 10) [.int .i64 q.t, .int .i64 q.x, .int .i64 q.y, .int .i64 q.z, .int .i64 q.e, .int .i64 q.a, .int .i64 q.b, .int .i64 q.c, .int .i64 q.d, .int .i64 q.g])) ((V.drew.setRow g (ptL C (x * 10) [.int .i64 q.t, .int .i64 q.x, .int .i64 q.y, .int .i64 q.z, .int .i64 q.e, .int .i64 q.a, .int .i64 q.b, .int .i64 q.c, .int .i64 q.d, .int .i64 q.g])).setRow g (ptL (ptL C (x * 10) [.int .i64 q.t, .int .i64 q.x, .int .i64 q.y, .int .i64 q.z, .int .i64 q.e, .int .i64 q.a, .int .i64 q.b, .int .i64 q.c, .int .i64 q.d, .int .i64 q.g]) (y * 10) [.int .i64 p.t, .int .i64 p.x, .int .i64 p.y, .int .i64 p.z, .int .i64 p.e, .int .i64 p.a, .int .i64 p.b, .int .i64 p.c, .int .i64 p.d, .int .i64 p.g])) 13 15 [0, 1, 4, 5, 6, 7, 11, 12] [.slice (some ⟨g, 0, none⟩) n cap, .int .i64 (x : Int), .slice (some ⟨g, 0, none⟩) n cap, .int .i64 (y : Int), .slice (some ⟨g, 0, none⟩) n cap, .int .i64 (y : Int), .pointer (some ⟨g, y * 10, none⟩), .agg #[.int .i64 q.t, .int .i64 q.x, .int .i64 q.y, .int .i64 q.z, .int .i64 q.e, .int .i64 q.a, .int .i64 q.b, .int .i64 q.c, .int .i64 q.d, .int .i64 q.g], .slice (some ⟨g, 0, none⟩) n cap, .int .i64 (x : Int), .pointer (some ⟨g, x * 10, none⟩), .agg #[.int .i64 p.t, .int .i64 p.x, .int .i64 p.y, .int .i64 p.z, .int .i64 p.e, .int .i64 p.a, .int .i64 p.b, .int .i64 p.c, .int .i64 p.d, .int .i64 p.g], .pointer (some ⟨g, x * 10, none⟩), undef, .pointer (some ⟨g, y * 10, none⟩), undef]) (selfF A0 _) (putF_self A0 _) TwoT.start ?hs1_16_W1 ?hend_16_W1
  case hs1_16_W1 =>
    refine ⟨?_, ?_, ?_, ?_, ?_, ?_, ?_, ?_, ?_, ?_, ?_, ?_, ?_, ?_, ?_, ?_, trivial⟩
    · intro K L us W hK0 hL hd hR
      have hK := hid (fun v A' h1 h2 => hK0 v A' W h1 (hR.pure 0 (by decide) (by decide) h2)); clear hK0
      (try simp [Region.binds] at hd)
      clear hd hR
      simp only [putF]
      rw [hA]
      go_frame
      go_wp2_with fail
      exact hK.out _ _ (by rw [hA]; simp only [putF]; kernel_rfl) rfl
    · intro K L us W hK0 hL hd hR
      have hK := hid (fun v A' h1 h2 => hK0 v A' W h1 (hR.pure 1 (by decide) (by decide) h2)); clear hK0
      (try simp [Region.binds] at hd)
      clear hd hR
      simp only [putF]
      rw [hA]
      go_frame
      go_wp2_with fail
      exact hK.out _ _ (by rw [hA]; simp only [putF]; kernel_rfl) rfl
    · intro K L us W hK0 hL hd hR
      have hK := hid (fun v A' h1 h2 => hK0 v A' W h1 (hR.pure 2 (by decide) (by decide) h2)); clear hK0
      (try simp [Region.binds] at hd)
      clear hd hR
      simp only [putF]
      rw [hA]
      go_frame
      go_wp2_with fail
      exact hK.out _ _ (by rw [hA]; simp only [putF]; kernel_rfl) rfl
    · intro K L us W hK0 hL hd hR
      have hK := hid (fun v A' h1 h2 => hK0 v A' W h1 (hR.pure 3 (by decide) (by decide) h2)); clear hK0
      (try simp [Region.binds] at hd)
      clear hd hR
      simp only [putF]
      rw [hA]
      go_frame
      go_wp2_with fail
      exact hK.out _ _ (by rw [hA]; simp only [putF]; kernel_rfl) rfl
    · intro K L us W hK0 hL hd hR
      have hK := hid (fun v A' h1 h2 => hK0 v A' W h1 (hR.pure 4 (by decide) (by decide) h2)); clear hK0
      (try simp [Region.binds] at hd)
      clear hd hR
      simp only [putF]
      rw [hA]
      go_frame
      go_wp2_with fail
      exact hK.out _ _ (by rw [hA]; simp only [putF]; kernel_rfl) rfl
    · intro K L us W hK0 hL hd hR
      have hK := hid (fun v A' h1 h2 => hK0 v A' W h1 (hR.pure 5 (by decide) (by decide) h2)); clear hK0
      (try simp [Region.binds] at hd)
      clear hd hR
      simp only [putF]
      rw [hA]
      go_frame
      go_wp2_with fail
      exact hK.out _ _ (by rw [hA]; simp only [putF]; kernel_rfl) rfl
    · intro K L us W hK0 hL hd hR
      have hK := hid (fun v A' h1 h2 => hK0 v A' W h1 (hR.pure 6 (by decide) (by decide) h2)); clear hK0
      (try simp [Region.binds] at hd)
      have e4 : us 4 = .slice (some ⟨g, 0, none⟩) n cap := hR.vals 4 (by simp [hd]) (by decide) (by decide)
      have e5 : us 5 = .int .i64 (y : Int) := hR.vals 5 (by simp [hd]) (by decide) (by decide)
      clear hd hR
      simp only [putF]
      rw [hA, e4, e5]
      go_frame
      go_wp2_with fail
      exact hK.out _ _ (by rw [hA]; simp only [putF]; rw [e4, e5]; kernel_rfl) rfl
    · intro K L us W hK0 hL hd hR
      have hK := hid (fun v A' h1 h2 => hK0 v A' W h1 (hR.pure 7 (by decide) (by decide) h2)); clear hK0
      (try simp [Region.binds] at hd)
      have e6 : us 6 = .pointer (some ⟨g, y * 10, none⟩) := hR.vals 6 (by simp [hd]) (by decide) (by decide)
      have hW := hR.at0 (k := 7) (by decide) hL
      clear hd hR
      subst hW
      have c0 : V.drew.cell? ⟨g, y * 10, none⟩ = some (.int .i64 q.t) := YQ.out 0 (by decide)
      have c1 : V.drew.cell? ⟨g, y * 10 + 1, none⟩ = some (.int .i64 q.x) := YQ.out 1 (by decide)
      have c2 : V.drew.cell? ⟨g, y * 10 + 2, none⟩ = some (.int .i64 q.y) := YQ.out 2 (by decide)
      have c3 : V.drew.cell? ⟨g, y * 10 + 3, none⟩ = some (.int .i64 q.z) := YQ.out 3 (by decide)
      have c4 : V.drew.cell? ⟨g, y * 10 + 4, none⟩ = some (.int .i64 q.e) := YQ.out 4 (by decide)
      have c5 : V.drew.cell? ⟨g, y * 10 + 5, none⟩ = some (.int .i64 q.a) := YQ.out 5 (by decide)
      have c6 : V.drew.cell? ⟨g, y * 10 + 6, none⟩ = some (.int .i64 q.b) := YQ.out 6 (by decide)
      have c7 : V.drew.cell? ⟨g, y * 10 + 7, none⟩ = some (.int .i64 q.c) := YQ.out 7 (by decide)
      have c8 : V.drew.cell? ⟨g, y * 10 + 8, none⟩ = some (.int .i64 q.d) := YQ.out 8 (by decide)
      have c9 : V.drew.cell? ⟨g, y * 10 + 9, none⟩ = some (.int .i64 q.g) := YQ.out 9 (by decide)
      simp only [putF]
      rw [hA, e6]
      go_frame
      go_wp2_with fail
      exact hK.out _ _ (by rw [hA]; simp only [putF]; rw [e6]; kernel_rfl) rfl
    · intro K L us W hK0 hL hd hR
      have hK := hid (fun v A' h1 h2 => hK0 v A' W h1 (hR.pure 8 (by decide) (by decide) h2)); clear hK0
      (try simp [Region.binds] at hd)
      clear hd hR
      simp only [putF]
      rw [hA]
      go_frame
      go_wp2_with fail
      exact hK.out _ _ (by rw [hA]; simp only [putF]; kernel_rfl) rfl
    · intro K L us W hK0 hL hd hR
      have hK := hid (fun v A' h1 h2 => hK0 v A' W h1 (hR.pure 9 (by decide) (by decide) h2)); clear hK0
      (try simp [Region.binds] at hd)
      clear hd hR
      simp only [putF]
      rw [hA]
      go_frame
      go_wp2_with fail
      exact hK.out _ _ (by rw [hA]; simp only [putF]; kernel_rfl) rfl
    · intro K L us W hK0 hL hd hR
      have hK := hid (fun v A' h1 h2 => hK0 v A' W h1 (hR.pure 10 (by decide) (by decide) h2)); clear hK0
      (try simp [Region.binds] at hd)
      have e8 : us 8 = .slice (some ⟨g, 0, none⟩) n cap := hR.vals 8 (by simp [hd]) (by decide) (by decide)
      have e9 : us 9 = .int .i64 (x : Int) := hR.vals 9 (by simp [hd]) (by decide) (by decide)
      clear hd hR
      simp only [putF]
      rw [hA, e8, e9]
      go_frame
      go_wp2_with fail
      exact hK.out _ _ (by rw [hA]; simp only [putF]; rw [e8, e9]; kernel_rfl) rfl
    · intro K L us W hK0 hL hd hR
      have hK := hid (fun v A' h1 h2 => hK0 v A' W h1 (hR.pure 11 (by decide) (by decide) h2)); clear hK0
      (try simp [Region.binds] at hd)
      have e10 : us 10 = .pointer (some ⟨g, x * 10, none⟩) := hR.vals 10 (by simp [hd]) (by decide) (by decide)
      have hW := hR.at0 (k := 11) (by decide) hL
      clear hd hR
      subst hW
      have c0 : V.drew.cell? ⟨g, x * 10, none⟩ = some (.int .i64 p.t) := YP.out 0 (by decide)
      have c1 : V.drew.cell? ⟨g, x * 10 + 1, none⟩ = some (.int .i64 p.x) := YP.out 1 (by decide)
      have c2 : V.drew.cell? ⟨g, x * 10 + 2, none⟩ = some (.int .i64 p.y) := YP.out 2 (by decide)
      have c3 : V.drew.cell? ⟨g, x * 10 + 3, none⟩ = some (.int .i64 p.z) := YP.out 3 (by decide)
      have c4 : V.drew.cell? ⟨g, x * 10 + 4, none⟩ = some (.int .i64 p.e) := YP.out 4 (by decide)
      have c5 : V.drew.cell? ⟨g, x * 10 + 5, none⟩ = some (.int .i64 p.a) := YP.out 5 (by decide)
      have c6 : V.drew.cell? ⟨g, x * 10 + 6, none⟩ = some (.int .i64 p.b) := YP.out 6 (by decide)
      have c7 : V.drew.cell? ⟨g, x * 10 + 7, none⟩ = some (.int .i64 p.c) := YP.out 7 (by decide)
      have c8 : V.drew.cell? ⟨g, x * 10 + 8, none⟩ = some (.int .i64 p.d) := YP.out 8 (by decide)
      have c9 : V.drew.cell? ⟨g, x * 10 + 9, none⟩ = some (.int .i64 p.g) := YP.out 9 (by decide)
      simp only [putF]
      rw [hA, e10]
      go_frame
      go_wp2_with fail
      exact hK.out _ _ (by rw [hA]; simp only [putF]; rw [e10]; kernel_rfl) rfl
    · intro K L us W hK0 hL hd hR
      have hK := hid (fun v A' h1 h2 => hK0 v A' W h1 (hR.pure 12 (by decide) (by decide) h2)); clear hK0
      (try simp [Region.binds] at hd)
      have e0 : us 0 = .slice (some ⟨g, 0, none⟩) n cap := hR.vals 0 (by simp [hd]) (by decide) (by decide)
      have e1 : us 1 = .int .i64 (x : Int) := hR.vals 1 (by simp [hd]) (by decide) (by decide)
      clear hd hR
      simp only [putF]
      rw [hA, e0, e1]
      go_frame
      go_wp2_with fail
      exact hK.out _ _ (by rw [hA]; simp only [putF]; rw [e0, e1]; kernel_rfl) rfl
    · intro K L us W hK0 hL hd hR
      simp [Region.binds] at hd
      have e12 : us 12 = .pointer (some ⟨g, x * 10, none⟩) := hR.vals 12 (by simp [hd]) (by decide) (by decide)
      have e7 : us 7 = .agg #[.int .i64 q.t, .int .i64 q.x, .int .i64 q.y, .int .i64 q.z, .int .i64 q.e, .int .i64 q.a, .int .i64 q.b, .int .i64 q.c, .int .i64 q.d, .int .i64 q.g] := hR.vals 7 (by simp [hd]) (by decide) (by decide)
      have hp : ∀ j ∈ [0, 1, 4, 5, 6, 7, 11, 12], L j = true := by
        intro j hj
        simp only [List.mem_cons, List.not_mem_nil, or_false] at hj
        rcases hj with rfl | rfl | rfl | rfl | rfl | rfl | rfl | rfl
        all_goals (simp [hd])
      have hW := (hR.fst (v := undef) hL hp (by decide)).1
      have hK := hid (fun A' h1 => hK0 undef A' _ h1 (hR.fst hL hp (by decide)).2); clear hK0 hp
      clear hd hR
      subst hW
      simp only [putF]
      rw [hA, e12, e7]
      go_frame
      go_wp2_with (refine pt_store rfl 55 (.tmp 95) (.tmp 90) rfl g (x * 10) _ rfl rfl (show V.drew.heap[g]? = _ from YC.out) size55f rfl (by show x * 10 + 10 ≤ C.size; omega) rfl ?_)
      exact hK.out _ (by rw [hA]; simp only [putF]; rw [e12, e7]; kernel_rfl)
    · intro K L us W hK0 hL hd hR
      have hK := hid (fun v A' h1 h2 => hK0 v A' W h1 (hR.pure 14 (by decide) (by decide) h2)); clear hK0
      (try simp [Region.binds] at hd)
      have e2 : us 2 = .slice (some ⟨g, 0, none⟩) n cap := hR.vals 2 (by simp [hd]) (by decide) (by decide)
      have e3 : us 3 = .int .i64 (y : Int) := hR.vals 3 (by simp [hd]) (by decide) (by decide)
      clear hd hR
      simp only [putF]
      rw [hA, e2, e3]
      go_frame
      go_wp2_with fail
      exact hK.out _ _ (by rw [hA]; simp only [putF]; rw [e2, e3]; kernel_rfl) rfl
    · intro K L us W hK0 hL hd hR
      simp [Region.binds] at hd
      have e14 : us 14 = .pointer (some ⟨g, y * 10, none⟩) := hR.vals 14 (by simp [hd]) (by decide) (by decide)
      have e11 : us 11 = .agg #[.int .i64 p.t, .int .i64 p.x, .int .i64 p.y, .int .i64 p.z, .int .i64 p.e, .int .i64 p.a, .int .i64 p.b, .int .i64 p.c, .int .i64 p.d, .int .i64 p.g] := hR.vals 11 (by simp [hd]) (by decide) (by decide)
      have h5 : L 13 = true := by simp [hd]
      have hW := (hR.snd (v := undef) h5 hL).1
      have hK := hid (fun A' h1 => hK0 undef A' _ h1 (hR.snd h5 hL).2); clear hK0
      clear hd hR
      subst hW
      simp only [putF]
      rw [hA, e14, e11]
      go_frame
      go_wp2_with (refine pt_store rfl 55 (.tmp 96) (.tmp 94) rfl g (y * 10) _ rfl rfl (setRow_heap _ _ _ _ _ _ (show V.drew.heap[g]? = _ from YC.out)) size55f rfl (by show y * 10 + 10 ≤ (ptL C (x * 10) _).size; rw [ptL_size]; omega) rfl ?_)
      exact hK.out _ (by rw [hA]; simp only [putF]; rw [e14, e11]; kernel_rfl)
  intro L us W1 hL hR
  have hW : W1 = (V.drew.setRow g (ptL C (x * 10) [.int .i64 q.t, .int .i64 q.x, .int .i64 q.y, .int .i64 q.z, .int .i64 q.e, .int .i64 q.a, .int .i64 q.b, .int .i64 q.c, .int .i64 q.d, .int .i64 q.g])).setRow g (ptL (ptL C (x * 10) [.int .i64 q.t, .int .i64 q.x, .int .i64 q.y, .int .i64 q.z, .int .i64 q.e, .int .i64 q.a, .int .i64 q.b, .int .i64 q.c, .int .i64 q.d, .int .i64 q.g]) (y * 10) [.int .i64 p.t, .int .i64 p.x, .int .i64 p.y, .int .i64 p.z, .int .i64 p.e, .int .i64 p.a, .int .i64 p.b, .int .i64 p.c, .int .i64 p.d, .int .i64 p.g]) := by have := hR.wld; rw [hL 15 (by decide)] at this; exact this
  clear hR hL
  simp only [putF]
  rw [hA]
  clear hA
  go_frame
  subst hW
  refine HQ.out _ _ _ _ _ _ _ _ _ _ _ _ _ _ _ (own_swapF (OwnR.heap HO.out (fun _ _ h _ => h) : OwnF V.drew B (.slice (some ⟨g, 0, none⟩) n cap) Lp) YC.out HPX.out HQY.out) ?_
  exact grown_row (grown_row (show V.grownBy V.drew (some g) from ⟨rfl, rfl, rfl, Nat.le_refl _, fun _ _ _ => rfl⟩) _) _
end Go.Proofs.Yteoikaedpgianaa
