/- TrackOrder (19): cleaned again, and the parts. (Printed by wip/gen_ordb.py.) -/
import Derived.Test.YteoikaedpgianaaQOrdA
import Derived.Test.YteoikaedpgianaaQTrackAt
namespace Go.Proofs.Yteoikaedpgianaa
open Go.RowKit Go.Sort Go.Lib Go.Shelf Go.Proofs

def adOf : Value → Option Addr
  | .slice a _ _ => a
  | _ => none
def capOf : Value → Nat
  | .slice _ _ c => c
  | _ => 0
/-- the parts of a track by their numbers -/
def trF (P : List (List Fx)) (p i j : Nat) : Int := ((P[p]!)[i]!).f j
theorem PtV.trackAt {W : World} {T n c g : Nat} {vs : List Value} {P : List (List Fx)} (h : PtV W T (.slice (some ⟨g, 0, none⟩) n c) vs P) : trackAt W g 0 n (fun p => adOf (vs[p]!)) (fun p => (P[p]!).length) (fun p => capOf (vs[p]!)) (trF P) := by
  have hn : n = vs.length := h.o.len
  intro p hp
  obtain ⟨v, hv⟩ : ∃ v, vs[p]? = some v := ⟨_, List.getElem?_eq_getElem (by omega)⟩
  obtain ⟨q, hq⟩ : ∃ q, P[p]? = some q := ⟨_, List.getElem?_eq_getElem (by rw [← h.len]; omega)⟩
  have ev : vs[p]! = v := by rw [List.getElem!_eq_getElem?_getD, hv]; rfl
  have eq : P[p]! = q := by rw [List.getElem!_eq_getElem?_getD, hq]; rfl
  obtain ⟨g', hg, hc⟩ := h.o.at hv
  injection hg with hg
  injection hg with hg
  subst hg
  have ho := h.f p v q hv hq
  obtain ⟨a, c', hs⟩ := OwnR.slice ho
  rw [List.length_map] at hs
  simp only [ev, eq]
  refine ⟨by rw [Nat.zero_add, hc, hs]; rfl, fun h0 => ?_⟩
  obtain ⟨x, hx⟩ : ∃ x, q[0]? = some x := ⟨_, List.getElem?_eq_getElem h0⟩
  rw [hs] at ho
  obtain ⟨b, hb, hr, hl⟩ := own_at ho hx
  refine ⟨b, 0, by rw [hs]; exact hb, hl, fun i hi j hj => ?_⟩
  rw [hr i q[i].row (by rw [List.getElem?_map, List.getElem?_eq_getElem hi]; rfl) j hj, Fx.row_at _ j hj]
  unfold trF
  rw [eq, getElem!_pos q i hi]
/-- parts of fixes that are in order, near each other within a part: a track -/
theorem track_parts {m0 m1 m2 m3 : Int} {P : List (List Fx)} (hr : rulesB m0 m1 m2 m3 = true) (hfull : ∀ p ∈ P, p ≠ []) (hok : ∀ p ∈ P, ∀ x ∈ p, x.ok = true) (hup : P.flatten.Pairwise fun a b => a.t < b.t)
    (hb : ∀ p ∈ P, ∀ (i : Nat) (a b : Fx), p[i]? = some a → p[i + 1]? = some b → b.t - a.t ≤ m0) : trackB m0 m1 m2 m3 P.length (fun p => (P[p]!).length) (trF P) = true := by
  obtain ⟨hu1, hu2⟩ := List.pairwise_flatten.1 hup
  unfold trackB
  rw [hr, Bool.true_and]
  refine allN_iff.2 fun p hp => ?_
  have ep : P[p]! = P[p] := getElem!_pos P p hp
  have hmem := List.getElem_mem hp
  have hne := hfull _ hmem
  have hl : 0 < P[p].length := List.length_pos_iff.2 hne
  unfold partB
  simp only [ep]
  rw [decide_eq_true hl, Bool.true_and]
  refine allN_iff.2 fun i hi => ?_
  have eF : ∀ k (hk : k < P[p].length) j, trF P p k j = (P[p][k]).f j := fun k hk j => by unfold trF; rw [ep, getElem!_pos P[p] k hk]
  have hoki := hok _ hmem _ (List.getElem_mem hi)
  have htime := (Fx.ok_bounds hoki).1
  unfold stepB
  have e1 : fixF (trF P p i) = true := by
    have : trF P p i = (P[p][i]).f := funext fun j => eF i hi j
    rw [this]
    exact hoki
  rw [e1, Bool.true_and, Bool.and_eq_true]
  match i, hi with
  | 0, hi =>
    refine ⟨decide_eq_true ?_, rfl⟩
    show lastE (fun p => (P[p]!).length) (trF P) p < trF P p 0 0
    rw [eF 0 hi 0]
    show lastE (fun p => (P[p]!).length) (trF P) p < (P[p][0]).t
    by_cases hp0 : p = 0
    · have e : lastE (fun p => (P[p]!).length) (trF P) p = -1 := by rw [hp0]; rfl
      rw [e]
      omega
    · have hpq : p - 1 < P.length := by omega
      have e : lastE (fun p => (P[p]!).length) (trF P) p = trF P (p - 1) ((P[p - 1]!).length - 1) 0 := by
        obtain ⟨q, hq⟩ : ∃ q, p = q + 1 := ⟨p - 1, by omega⟩
        subst hq
        rfl
      have eq : P[p - 1]! = P[p - 1] := getElem!_pos P (p - 1) hpq
      have hqm := List.getElem_mem hpq
      have hql : 0 < (P[p - 1]).length := List.length_pos_iff.2 (hfull _ hqm)
      rw [e]
      unfold trF
      rw [eq, getElem!_pos P[p - 1] _ (by omega)]
      exact List.pairwise_iff_getElem.1 hu2 (p - 1) p hpq hp (by omega) _ (List.getElem_mem _) _ (List.getElem_mem _)
  | k + 1, hi =>
    have hk : k < P[p].length := by omega
    have h1 := List.pairwise_iff_getElem.1 (hu1 _ hmem) k (k + 1) hk hi (by omega)
    have h2 := hb _ hmem k _ _ (List.getElem?_eq_getElem hk) (List.getElem?_eq_getElem hi)
    have e2 : lastI (fun p => (P[p]!).length) (trF P) p (k + 1) = (P[p][k]).t := eF k hk 0
    have e3 : trF P p (k + 1) 0 = (P[p][k + 1]).t := eF (k + 1) hi 0
    rw [e2, e3]
    exact ⟨decide_eq_true h1, by rw [decide_eq_true h2, Bool.or_true]⟩
theorem asc_of_up {K : List Fx} (h : K.Pairwise fun a b => a.t < b.t) : allN (ascF K) K.length = true := allN_iff.2 fun i hi => by
  by_cases h0 : i = 0
  · subst h0; rfl
  · rw [ascF_at (by omega) (List.getElem?_eq_getElem (by omega)) (List.getElem?_eq_getElem hi)]
    exact decide_eq_true (List.pairwise_iff_getElem.1 h (i - 1) i (by omega) hi (by omega))
set_option maxRecDepth 100000 in
set_option maxHeartbeats 3200000 in
/-- what is kept is cleaned again and parted -/
theorem order_again (s0 s1 s2 s3 s4 s6 s7 s8 s9 s10 s11 s12 s13 s15 s16 s17 s18 s19 s21 s22 s23 s24 s25 s26 s27 s28 s29 s30 s31 s32 s33 s34 s35 s36 s37 s38 s39 s40 s41 s42 s43 s44 s45 s46 s47 s48 s49 s50 s51 s52 s53 s54 s55 s56 s57 s58 s59 s60 s61 s62 s63 s64 s65 s66 s67 s68 s69 s70 s71 s72 s73 s74 s75 s76 s77 s78 s79 s80 s81 s82 s83 s84 s85 s86 s87 s88 s89 s90 s91 s92 s93 s94 s95 s96 s97 s98 s99 s100 s101 s102 s103 s104 s105 s106 s107 s108 s109 s110 s111 s112 s113 s114 s115 s116 s117 s118 s119 s120 s121 s122 s123 s124 s125 s126 s127 s128 s129 s130 s131 s132 s133 s134 s135 s136 s137 s138 s139 s140 s141 s142 s143 s144 s145 s146 s147 s148 s149 s150 s151 s152 s153 s154 s155 s156 s157 s158 s159 s160 s161 s162 s163 s164 s165 s166 s167 s168 s169 s170 s171 s172 s173 s174 s175 s176 s177 s178 s179 s180 s181 s182 s183 s184 s185 s186 s187 s188 s189 s190 s191 s192 s193 s194 s195 s196 s197 s198 s199 s200 s201 s202 s203 s204 s205 s206 s207 s208 s209 s210 s211 s212 s213 s214 s215 s216 s217 s218 s219 s220 s221 s222 s223 s224 s225 s226 s227 s228 : Value) (w : World) (gm kn kc : Nat) (ka : Option Addr) (jq : Bool) (K : List Fx) (m0 m1 m2 m3 : Int) (Q : Exit → Act → World → Prop) (R : Code) (hR : Try.f19.body.bind (findS 29) = some R) (hm5 : w.heap[gm]? = some (.cells #[.int .i64 m0, .int .i64 m1, .int .i64 m2, .int .i64 m3] 61)) (hK : FxV w (.slice ka kn kc) K) (hkl : kn = K.length) (hkn : kn ≤ 1000) (hr : rulesB m0 m1 m2 m3 = true) (hok : ∀ x ∈ K, x.ok = true) (hup : K.Pairwise fun a b => a.t < b.t)
    (hj : jq = false → cleanK m1 K = K ∧ cleanI m1 K = [])
    (HQ : Hid (∀ (u0 u1 u2 u3 u4 u5 u7 u8 u9 u10 u11 u12 u13 u14 u15 u16 u17 u18 u19 u20 u21 u22 u23 u24 u25 u26 u27 u28 u29 u30 u31 u32 u33 u34 u35 u36 u37 u38 u39 u40 u41 u42 u43 u44 u45 u46 u47 u48 u49 u50 u51 u52 u53 u54 u55 u56 u57 u58 u59 u60 u61 u62 u63 u64 u65 u66 u67 u68 u69 u70 u71 u72 u73 u74 u75 u76 u77 u78 u79 u80 u81 u82 u83 u84 u85 u86 u87 u88 u89 u90 u91 u92 u93 u94 u95 u96 u97 u98 u99 u100 u101 u102 u103 u104 u105 u106 u107 u108 u109 u110 u111 u112 u113 u114 u115 u116 u117 u118 u119 u120 u121 u122 u123 u124 u125 u126 u127 u128 u129 u130 u131 u132 u133 u134 u135 u136 u137 u138 u139 u140 u141 u142 u143 u144 u145 u146 u147 u148 u149 u150 u151 u152 u153 u154 u155 u156 u157 u158 u159 u160 u161 u162 u163 u164 u165 u166 u167 u168 u169 u170 u171 u172 u173 u174 u175 u176 u177 u178 u179 u180 u181 u182 u183 u184 u185 u186 u187 u188 u189 u190 u191 u192 u193 u194 u195 u196 u197 u198 u199 u200 u201 u202 u203 u204 u205 u206 u207 u208 u209 u210 u211 u212 u213 u214 u215 u216 u217 u218 u219 u220 u221 u222 u223 u224 u225 u226 u227 u228 : Value) (W5 : World), Below w.heap.size w W5 → Q Exit.ret ({ tmps := List.toArray (List.cons (u0) (List.cons (u1) (List.cons (u2) (List.cons (u3) (List.cons (u4) (List.cons (u5) (List.cons (.bool true) (List.cons (u7) (List.cons (u8) (List.cons (u9) (List.cons (u10) (List.cons (u11) (List.cons (u12) (List.cons (u13) (List.cons (u14) (List.cons (u15) (List.cons (u16) (List.cons (u17) (List.cons (u18) (List.cons (u19) (List.cons (u20) (List.cons (u21) (List.cons (u22) (List.cons (u23) (List.cons (u24) (List.cons (u25) (List.cons (u26) (List.cons (u27) (List.cons (u28) (List.cons (u29) (List.cons (u30) (List.cons (u31) (List.cons (u32) (List.cons (u33) (List.cons (u34) (List.cons (u35) (List.cons (u36) (List.cons (u37) (List.cons (u38) (List.cons (u39) (List.cons (u40) (List.cons (u41) (List.cons (u42) (List.cons (u43) (List.cons (u44) (List.cons (u45) (List.cons (u46) (List.cons (u47) (List.cons (u48) (List.cons (u49) (List.cons (u50) (List.cons (u51) (List.cons (u52) (List.cons (u53) (List.cons (u54) (List.cons (u55) (List.cons (u56) (List.cons (u57) (List.cons (u58) (List.cons (u59) (List.cons (u60) (List.cons (u61) (List.cons (u62) (List.cons (u63) (List.cons (u64) (List.cons (u65) (List.cons (u66) (List.cons (u67) (List.cons (u68) (List.cons (u69) (List.cons (u70) (List.cons (u71) (List.cons (u72) (List.cons (u73) (List.cons (u74) (List.cons (u75) (List.cons (u76) (List.cons (u77) (List.cons (u78) (List.cons (u79) (List.cons (u80) (List.cons (u81) (List.cons (u82) (List.cons (u83) (List.cons (u84) (List.cons (u85) (List.cons (u86) (List.cons (u87) (List.cons (u88) (List.cons (u89) (List.cons (u90) (List.cons (u91) (List.cons (u92) (List.cons (u93) (List.cons (u94) (List.cons (u95) (List.cons (u96) (List.cons (u97) (List.cons (u98) (List.cons (u99) (List.cons (u100) (List.cons (u101) (List.cons (u102) (List.cons (u103) (List.cons (u104) (List.cons (u105) (List.cons (u106) (List.cons (u107) (List.cons (u108) (List.cons (u109) (List.cons (u110) (List.cons (u111) (List.cons (u112) (List.cons (u113) (List.cons (u114) (List.cons (u115) (List.cons (u116) (List.cons (u117) (List.cons (u118) (List.cons (u119) (List.cons (u120) (List.cons (u121) (List.cons (u122) (List.cons (u123) (List.cons (u124) (List.cons (u125) (List.cons (u126) (List.cons (u127) (List.cons (u128) (List.cons (u129) (List.cons (u130) (List.cons (u131) (List.cons (u132) (List.cons (u133) (List.cons (u134) (List.cons (u135) (List.cons (u136) (List.cons (u137) (List.cons (u138) (List.cons (u139) (List.cons (u140) (List.cons (u141) (List.cons (u142) (List.cons (u143) (List.cons (u144) (List.cons (u145) (List.cons (u146) (List.cons (u147) (List.cons (u148) (List.cons (u149) (List.cons (u150) (List.cons (u151) (List.cons (u152) (List.cons (u153) (List.cons (u154) (List.cons (u155) (List.cons (u156) (List.cons (u157) (List.cons (u158) (List.cons (u159) (List.cons (u160) (List.cons (u161) (List.cons (u162) (List.cons (u163) (List.cons (u164) (List.cons (u165) (List.cons (u166) (List.cons (u167) (List.cons (u168) (List.cons (u169) (List.cons (u170) (List.cons (u171) (List.cons (u172) (List.cons (u173) (List.cons (u174) (List.cons (u175) (List.cons (u176) (List.cons (u177) (List.cons (u178) (List.cons (u179) (List.cons (u180) (List.cons (u181) (List.cons (u182) (List.cons (u183) (List.cons (u184) (List.cons (u185) (List.cons (u186) (List.cons (u187) (List.cons (u188) (List.cons (u189) (List.cons (u190) (List.cons (u191) (List.cons (u192) (List.cons (u193) (List.cons (u194) (List.cons (u195) (List.cons (u196) (List.cons (u197) (List.cons (u198) (List.cons (u199) (List.cons (u200) (List.cons (u201) (List.cons (u202) (List.cons (u203) (List.cons (u204) (List.cons (u205) (List.cons (u206) (List.cons (u207) (List.cons (u208) (List.cons (u209) (List.cons (u210) (List.cons (u211) (List.cons (u212) (List.cons (u213) (List.cons (u214) (List.cons (u215) (List.cons (u216) (List.cons (u217) (List.cons (u218) (List.cons (u219) (List.cons (u220) (List.cons (u221) (List.cons (u222) (List.cons (u223) (List.cons (u224) (List.cons (u225) (List.cons (u226) (List.cons (u227) (List.cons (u228) List.nil))))))))))))))))))))))))))))))))))))))))))))))))))))))))))))))))))))))))))))))))))))))))))))))))))))))))))))))))))))))))))))))))))))))))))))))))))))))))))))))))))))))))))))))))))))))))))))))))))))))))))))))))))))))))))))))))))))), defers := [] } : Act) W5)) :
    Code.wp Try.prog R Q ({ tmps := List.toArray (List.cons (s0) (List.cons (s1) (List.cons (s2) (List.cons (s3) (List.cons (s4) (List.cons (.pointer (some ⟨gm, 0, none⟩)) (List.cons (s6) (List.cons (s7) (List.cons (s8) (List.cons (s9) (List.cons (s10) (List.cons (s11) (List.cons (s12) (List.cons (s13) (List.cons (.slice ka kn kc) (List.cons (s15) (List.cons (s16) (List.cons (s17) (List.cons (s18) (List.cons (s19) (List.cons (.bool jq) (List.cons (s21) (List.cons (s22) (List.cons (s23) (List.cons (s24) (List.cons (s25) (List.cons (s26) (List.cons (s27) (List.cons (s28) (List.cons (s29) (List.cons (s30) (List.cons (s31) (List.cons (s32) (List.cons (s33) (List.cons (s34) (List.cons (s35) (List.cons (s36) (List.cons (s37) (List.cons (s38) (List.cons (s39) (List.cons (s40) (List.cons (s41) (List.cons (s42) (List.cons (s43) (List.cons (s44) (List.cons (s45) (List.cons (s46) (List.cons (s47) (List.cons (s48) (List.cons (s49) (List.cons (s50) (List.cons (s51) (List.cons (s52) (List.cons (s53) (List.cons (s54) (List.cons (s55) (List.cons (s56) (List.cons (s57) (List.cons (s58) (List.cons (s59) (List.cons (s60) (List.cons (s61) (List.cons (s62) (List.cons (s63) (List.cons (s64) (List.cons (s65) (List.cons (s66) (List.cons (s67) (List.cons (s68) (List.cons (s69) (List.cons (s70) (List.cons (s71) (List.cons (s72) (List.cons (s73) (List.cons (s74) (List.cons (s75) (List.cons (s76) (List.cons (s77) (List.cons (s78) (List.cons (s79) (List.cons (s80) (List.cons (s81) (List.cons (s82) (List.cons (s83) (List.cons (s84) (List.cons (s85) (List.cons (s86) (List.cons (s87) (List.cons (s88) (List.cons (s89) (List.cons (s90) (List.cons (s91) (List.cons (s92) (List.cons (s93) (List.cons (s94) (List.cons (s95) (List.cons (s96) (List.cons (s97) (List.cons (s98) (List.cons (s99) (List.cons (s100) (List.cons (s101) (List.cons (s102) (List.cons (s103) (List.cons (s104) (List.cons (s105) (List.cons (s106) (List.cons (s107) (List.cons (s108) (List.cons (s109) (List.cons (s110) (List.cons (s111) (List.cons (s112) (List.cons (s113) (List.cons (s114) (List.cons (s115) (List.cons (s116) (List.cons (s117) (List.cons (s118) (List.cons (s119) (List.cons (s120) (List.cons (s121) (List.cons (s122) (List.cons (s123) (List.cons (s124) (List.cons (s125) (List.cons (s126) (List.cons (s127) (List.cons (s128) (List.cons (s129) (List.cons (s130) (List.cons (s131) (List.cons (s132) (List.cons (s133) (List.cons (s134) (List.cons (s135) (List.cons (s136) (List.cons (s137) (List.cons (s138) (List.cons (s139) (List.cons (s140) (List.cons (s141) (List.cons (s142) (List.cons (s143) (List.cons (s144) (List.cons (s145) (List.cons (s146) (List.cons (s147) (List.cons (s148) (List.cons (s149) (List.cons (s150) (List.cons (s151) (List.cons (s152) (List.cons (s153) (List.cons (s154) (List.cons (s155) (List.cons (s156) (List.cons (s157) (List.cons (s158) (List.cons (s159) (List.cons (s160) (List.cons (s161) (List.cons (s162) (List.cons (s163) (List.cons (s164) (List.cons (s165) (List.cons (s166) (List.cons (s167) (List.cons (s168) (List.cons (s169) (List.cons (s170) (List.cons (s171) (List.cons (s172) (List.cons (s173) (List.cons (s174) (List.cons (s175) (List.cons (s176) (List.cons (s177) (List.cons (s178) (List.cons (s179) (List.cons (s180) (List.cons (s181) (List.cons (s182) (List.cons (s183) (List.cons (s184) (List.cons (s185) (List.cons (s186) (List.cons (s187) (List.cons (s188) (List.cons (s189) (List.cons (s190) (List.cons (s191) (List.cons (s192) (List.cons (s193) (List.cons (s194) (List.cons (s195) (List.cons (s196) (List.cons (s197) (List.cons (s198) (List.cons (s199) (List.cons (s200) (List.cons (s201) (List.cons (s202) (List.cons (s203) (List.cons (s204) (List.cons (s205) (List.cons (s206) (List.cons (s207) (List.cons (s208) (List.cons (s209) (List.cons (s210) (List.cons (s211) (List.cons (s212) (List.cons (s213) (List.cons (s214) (List.cons (s215) (List.cons (s216) (List.cons (s217) (List.cons (s218) (List.cons (s219) (List.cons (s220) (List.cons (s221) (List.cons (s222) (List.cons (s223) (List.cons (s224) (List.cons (s225) (List.cons (s226) (List.cons (s227) (List.cons (s228) List.nil))))))))))))))))))))))))))))))))))))))))))))))))))))))))))))))))))))))))))))))))))))))))))))))))))))))))))))))))))))))))))))))))))))))))))))))))))))))))))))))))))))))))))))))))))))))))))))))))))))))))))))))))))))))))))))))))))))), defers := [] } : Act) w := by
  simp [findS, headR, Try.f19] at hR
  subst hR
  have HMw := hid hm5
  have HBw := hid (Below.refl w.heap.size w)
  have HK := hid hK
  have HKL := hid hkl
  have HOK := hid hok
  have HUP := hid hup
  have HCC := hid (xClean_ok (.slice ka kn kc) K m0 m1 m2 m3 w hK (by rw [← hkl]; exact hkn) hr hok)
  clear hm5 hK hkl hok hup
  have cm0 : w.cell? ⟨gm, 0, none⟩ = some (.int .i64 m0) := (cell_row (j := 0) HMw.out).trans rfl
  have cm1 : w.cell? ⟨gm, 1, none⟩ = some (.int .i64 m1) := (cell_row (j := 1) HMw.out).trans rfl
  have cm2 : w.cell? ⟨gm, 2, none⟩ = some (.int .i64 m2) := (cell_row (j := 2) HMw.out).trans rfl
  have cm3 : w.cell? ⟨gm, 3, none⟩ = some (.int .i64 m3) := (cell_row (j := 3) HMw.out).trans rfl
  go_wp2_with fail
  refine HCC.out.mono ?_
  rintro r w1 ⟨⟨kv2, iv2, D, Z, rfl, hone, hk2, hi2, hp2, -⟩, hb1⟩
  clear HCC cm0 cm1 cm2 cm3
  have hD : D = K := hone.one (once_self HUP.out) (fun _ => Iff.rfl)
  rw [hD] at hk2 hp2
  have HBw1 := hid hb1
  have HMw1 := hid (heap_still hb1 HMw.out)
  have HK2 := hid hk2
  have HI2 := hid hi2
  have HP2 := hid hp2
  clear hb1 hk2 hi2 hp2 hone hD
  cases jq with
  | true =>
    have cm0 : w1.cell? ⟨gm, 0, none⟩ = some (.int .i64 m0) := (cell_row (j := 0) HMw1.out).trans rfl
    have cm1 : w1.cell? ⟨gm, 1, none⟩ = some (.int .i64 m1) := (cell_row (j := 1) HMw1.out).trans rfl
    have cm2 : w1.cell? ⟨gm, 2, none⟩ = some (.int .i64 m2) := (cell_row (j := 2) HMw1.out).trans rfl
    have cm3 : w1.cell? ⟨gm, 3, none⟩ = some (.int .i64 m3) := (cell_row (j := 3) HMw1.out).trans rfl
    have HPP := hid (xParts_ok (.slice ka kn kc) K m0 m1 m2 m3 w1 (HK.out.still HBw1.out) (by rw [← HKL.out]; exact hkn) hr HOK.out (asc_of_up HUP.out))
    go_wp2_with fail
    refine HPP.out.mono ?_
    rintro r wp ⟨⟨tv, vs, T, rfl, hpt, hT⟩, hbp⟩
    clear HPP cm0 cm1 cm2 cm3
    have HBp := hid (HBw1.out.trans (hbp.mono HBw1.out.size))
    have HMp := hid (heap_still hbp HMw1.out)
    have hflat := parts_flat (t := Fx.t) (near := nearB m1) (gap := m0) (K := K) K.length (Nat.le_refl _)
    rw [List.take_length] at hflat
    have hfull := parts_full (t := Fx.t) (near := nearB m1) (gap := m0) (K := K) K.length
    have hbond := parts_bond (t := Fx.t) (near := nearB m1) (gap := m0) (K := K) K.length
    have hcnt := parts_count (t := Fx.t) (near := nearB m1) (gap := m0) (K := K) K.length
    generalize partsG Fx.t (nearB m1) m0 K K.length = P at *
    have hokP : ∀ p ∈ P, ∀ x ∈ p, x.ok = true := fun p hp x hx => HOK.out x (by rw [← hflat]; exact List.mem_flatten.2 ⟨p, hp, hx⟩)
    have HTB := hid (track_parts (P := P) hr hfull hokP (by rw [hflat]; exact HUP.out) (fun p hp i a b h1 h2 => (hbond p hp i a b h1 h2).1))
    have HOKP := hid hokP
    have HBND := hid (show ∀ p ∈ P, ∀ (i : Nat) (a b : Fx), p[i]? = some a → p[i + 1]? = some b → nearB m1 a b = true from fun p hp i a b h1 h2 => (hbond p hp i a b h1 h2).2)
    have HSUM := hid (show sumLen P = kn by rw [sumLen_flat, hflat, HKL.out])
    have HCNT := hid (show P.length ≤ 1000 by rw [← HKL.out] at hcnt; omega)
    have HPT := hid hpt
    obtain ⟨ta, tc, htv⟩ := OwnR.slice hpt.o
    rw [List.length_map, hpt.len] at htv
    have htl : (P.length = 0 ∧ True) ∨ ∃ g, ta = some ⟨g, 0, none⟩ ∧ g < wp.heap.size := by
      rcases Nat.eq_zero_or_pos P.length with h0 | h0
      · exact .inl ⟨h0, trivial⟩
      · right
        obtain ⟨v, hv⟩ : ∃ v, vs[0]? = some v := ⟨_, List.getElem?_eq_getElem (by rw [hpt.len]; exact h0)⟩
        have h9 := hpt.o
        rw [htv] at h9
        obtain ⟨g, hg, hc⟩ := h9.at hv
        exact ⟨g, hg, block_lt_of_cell hc⟩
    obtain ⟨tn, htn⟩ : ∃ tn, tn = P.length := ⟨_, rfl⟩
    rw [← htn] at htv htl
    have HTN := hid htn
    subst htv
    have HVT := hid (show ∀ W, Below wp.heap.size wp W → Calls Try.prog 43 #[.agg #[.slice ta tn tc], .agg #[.int .i64 m0, .int .i64 m1, .int .i64 m2, .int .i64 m3]] W fun e w' => e = .returned (.bool true) ∧ Below W.heap.size W w' from fun W hb => by
      rcases htl with ⟨h0, _⟩ | ⟨g, hg, hgl⟩
      · have h9 := xTrack_none ta tc m0 m1 m2 m3 W
        rw [hr] at h9
        rw [h0]
        exact h9
      · subst hg
        have h9 := xTrack_at g 0 tn tc _ _ _ _ m0 m1 m2 m3 W (Nat.lt_of_lt_of_le hgl hb.size) (by have h1 := HCNT.out; omega) (fun p => by
          show (P[p]!).length ≤ _
          by_cases hp : p < P.length
          · rw [getElem!_pos P p hp]
            have h1 := sumLen_take (List.getElem?_eq_getElem hp)
            have h2 := sumLen_le P (p + 1)
            have h3 := HSUM.out
            omega
          · rw [getElem!_neg P p hp]; exact Nat.zero_le _) (HPT.out.grow hb).trackAt
        rw [htn, HTB.out] at h9
        rw [htn]
        exact h9)
    clear hflat hfull hbond hcnt hokP hpt htn htl
    go_upto_region 33 with fail
    refine gen_world (fun w0 hw0 => ?_)
    have hBp0 : Below wp.heap.size wp w0 := by rw [hw0]; (repeat' (first | (with_reducible exact Below.refl _ _) | (with_reducible assumption) | (with_reducible refine Below.alloc ?_ ?_ _) | (with_reducible refine Below.drew ?_) | (with_reducible refine below_drewN ?_ _) | (with_reducible refine Below.setCell ?_ ?_ _) | (with_reducible refine below_setRow ?_ ?_ _) | go_size))
    have HT26 := hid (show w0.heap[wp.heap.size]? = some (.cells #[.slice ta tn tc] 64) by rw [hw0]; exact heap_alloc_at _ _ _ rfl)
    have HM0 := hid (heap_still hBp0 HMp.out)
    have HB0 := hid hBp0
    clear hw0 hBp0 hbp
    have ct : w0.cell? ⟨wp.heap.size, 0, none⟩ = some (.slice ta tn tc) := (cell_row (j := 0) HT26.out).trans rfl
    have cm0 : w0.cell? ⟨gm, 0, none⟩ = some (.int .i64 m0) := (cell_row (j := 0) HM0.out).trans rfl
    have cm1 : w0.cell? ⟨gm, 1, none⟩ = some (.int .i64 m1) := (cell_row (j := 1) HM0.out).trans rfl
    have cm2 : w0.cell? ⟨gm, 2, none⟩ = some (.int .i64 m2) := (cell_row (j := 2) HM0.out).trans rfl
    have cm3 : w0.cell? ⟨gm, 3, none⟩ = some (.int .i64 m3) := (cell_row (j := 3) HM0.out).trans rfl
    go_wp2_with fail
    refine (HVT.out _ HB0.out).mono ?_
    rintro r w6 ⟨rfl, hb6⟩
    have HB6 := hid (HB0.out.trans (hb6.mono HB0.out.size))
    have HM6 := hid (heap_still hb6 HM0.out)
    have HT6 := hid (heap_still hb6 HT26.out)
    have HPT6 := hid (HPT.out.grow HB6.out)
    have HB7 := hid (HBp.out.trans (HB6.out.mono HBp.out.size))
    clear hb6 ct cm0 cm1 cm2 cm3 HVT HTB HM0 HT26 HB0
    go_upto_if 187 with fail
    refine wp_cond_false rfl (wp_skip ?_)
    dsimp only [Exit.then]
    go_step
    exact order_parts _ _ _ _ _ _ _ _ _ _ _ _ _ _ _ _ _ _ _ _ _ _ _ _ _ _ _ _ _ _ _ _ _ _ _ _ _ _ _ _ _ _ _ _ _ _ _ _ _ _ _ _ _ _ _ _ _ _ _ _ _ _ _ _ _ _ _ _ _ _ _ _ _ _ _ _ _ _ _ _ _ _ _ _ _ _ _ _ _ _ _ _ _ _ _ _ _ _ _ _ _ _ _ _ _ _ _ _ _ _ _ _ _ _ _ _ _ _ _ _ _ _ _ _ _ _ _ _ _ _ _ _ _ _ _ _ _ _ _ _ _ _ _ _ _ _ _ _ _ _ _ _ _ _ _ _ _ _ _ _ _ _ _ _ _ _ _ _ _ _ _ _ _ _ _ _ _ _ _ _ _ _ _ _ _ _ _ _ _ _ _ _ _ _ _ _ _ _ _ _ _ _ _ _ _ _ _ _ _ _ _ _ _ _ _ _ _ _ _ _ _ _ _ _ _ _ w6 gm wp.heap.size T kn kc ka _ vs P m0 m1 m2 m3 _ _ (by kernel_rfl) HM6.out HT6.out HPT6.out hr HSUM.out hkn HCNT.out HOKP.out HBND.out (hid (fun u0 u1 u2 u3 u4 u5 u7 u8 u9 u10 u11 u12 u13 u14 u15 u16 u17 u18 u19 u20 u21 u22 u23 u24 u25 u26 u27 u28 u29 u30 u31 u32 u33 u34 u35 u36 u37 u38 u39 u40 u41 u42 u43 u44 u45 u46 u47 u48 u49 u50 u51 u52 u53 u54 u55 u56 u57 u58 u59 u60 u61 u62 u63 u64 u65 u66 u67 u68 u69 u70 u71 u72 u73 u74 u75 u76 u77 u78 u79 u80 u81 u82 u83 u84 u85 u86 u87 u88 u89 u90 u91 u92 u93 u94 u95 u96 u97 u98 u99 u100 u101 u102 u103 u104 u105 u106 u107 u108 u109 u110 u111 u112 u113 u114 u115 u116 u117 u118 u119 u120 u121 u122 u123 u124 u125 u126 u127 u128 u129 u130 u131 u132 u133 u134 u135 u136 u137 u138 u139 u140 u141 u142 u143 u144 u145 u146 u147 u148 u149 u150 u151 u152 u153 u154 u155 u156 u157 u158 u159 u160 u161 u162 u163 u164 u165 u166 u167 u168 u169 u170 u171 u172 u173 u174 u175 u176 u177 u178 u179 u180 u181 u182 u183 u184 u185 u186 u187 u188 u189 u190 u191 u192 u193 u194 u195 u196 u197 u198 u199 u200 u201 u202 u203 u204 u205 u206 u207 u208 u209 u210 u211 u212 u213 u214 u215 u216 u217 u218 u219 u220 u221 u222 u223 u224 u225 u226 u227 u228 W5 hb => HQ.out u0 u1 u2 u3 u4 u5 u7 u8 u9 u10 u11 u12 u13 u14 u15 u16 u17 u18 u19 u20 u21 u22 u23 u24 u25 u26 u27 u28 u29 u30 u31 u32 u33 u34 u35 u36 u37 u38 u39 u40 u41 u42 u43 u44 u45 u46 u47 u48 u49 u50 u51 u52 u53 u54 u55 u56 u57 u58 u59 u60 u61 u62 u63 u64 u65 u66 u67 u68 u69 u70 u71 u72 u73 u74 u75 u76 u77 u78 u79 u80 u81 u82 u83 u84 u85 u86 u87 u88 u89 u90 u91 u92 u93 u94 u95 u96 u97 u98 u99 u100 u101 u102 u103 u104 u105 u106 u107 u108 u109 u110 u111 u112 u113 u114 u115 u116 u117 u118 u119 u120 u121 u122 u123 u124 u125 u126 u127 u128 u129 u130 u131 u132 u133 u134 u135 u136 u137 u138 u139 u140 u141 u142 u143 u144 u145 u146 u147 u148 u149 u150 u151 u152 u153 u154 u155 u156 u157 u158 u159 u160 u161 u162 u163 u164 u165 u166 u167 u168 u169 u170 u171 u172 u173 u174 u175 u176 u177 u178 u179 u180 u181 u182 u183 u184 u185 u186 u187 u188 u189 u190 u191 u192 u193 u194 u195 u196 u197 u198 u199 u200 u201 u202 u203 u204 u205 u206 u207 u208 u209 u210 u211 u212 u213 u214 u215 u216 u217 u218 u219 u220 u221 u222 u223 u224 u225 u226 u227 u228 W5 (HB7.out.trans (hb.mono HB7.out.size))))
  | false =>
    have hjj := hj rfl
    have hZ : Z = [] := by have h9 := HP2.out; rw [hjj.2] at h9; exact h9.eq_nil
    obtain ⟨ia, ic, hiv⟩ : ∃ a c, iv2 = .slice a 0 c := by
      rcases HI2.out with ⟨a, c, h, _⟩ | ⟨b, c, h, _⟩
      · exact ⟨a, c, h⟩
      · rw [hZ] at h; exact ⟨_, c, h⟩
    have HSF := hid (sameFx_any (.slice ka kn kc) kv2 K w1 (by rw [← HKL.out]; omega) (HK.out.still HBw1.out) (OwnF.fxV (by have h9 := HK2.out; rw [hjj.1] at h9; exact h9)))
    clear HI2
    subst hiv
    clear hjj hZ hj
    go_wp2_with fail
    refine HSF.out.mono ?_
    rintro r w2 ⟨rfl, hb2⟩
    have HBw2 := hid (HBw1.out.trans (hb2.mono HBw1.out.size))
    have HMw2 := hid (heap_still hb2 HMw1.out)
    clear hb2 HSF
    have cm0 : w2.cell? ⟨gm, 0, none⟩ = some (.int .i64 m0) := (cell_row (j := 0) HMw2.out).trans rfl
    have cm1 : w2.cell? ⟨gm, 1, none⟩ = some (.int .i64 m1) := (cell_row (j := 1) HMw2.out).trans rfl
    have cm2 : w2.cell? ⟨gm, 2, none⟩ = some (.int .i64 m2) := (cell_row (j := 2) HMw2.out).trans rfl
    have cm3 : w2.cell? ⟨gm, 3, none⟩ = some (.int .i64 m3) := (cell_row (j := 3) HMw2.out).trans rfl
    have HPP := hid (xParts_ok (.slice ka kn kc) K m0 m1 m2 m3 w2 (HK.out.still HBw2.out) (by rw [← HKL.out]; exact hkn) hr HOK.out (asc_of_up HUP.out))
    go_wp2_with fail
    refine HPP.out.mono ?_
    rintro r wp ⟨⟨tv, vs, T, rfl, hpt, hT⟩, hbp⟩
    clear HPP cm0 cm1 cm2 cm3
    have HBp := hid (HBw2.out.trans (hbp.mono HBw2.out.size))
    have HMp := hid (heap_still hbp HMw2.out)
    have hflat := parts_flat (t := Fx.t) (near := nearB m1) (gap := m0) (K := K) K.length (Nat.le_refl _)
    rw [List.take_length] at hflat
    have hfull := parts_full (t := Fx.t) (near := nearB m1) (gap := m0) (K := K) K.length
    have hbond := parts_bond (t := Fx.t) (near := nearB m1) (gap := m0) (K := K) K.length
    have hcnt := parts_count (t := Fx.t) (near := nearB m1) (gap := m0) (K := K) K.length
    generalize partsG Fx.t (nearB m1) m0 K K.length = P at *
    have hokP : ∀ p ∈ P, ∀ x ∈ p, x.ok = true := fun p hp x hx => HOK.out x (by rw [← hflat]; exact List.mem_flatten.2 ⟨p, hp, hx⟩)
    have HTB := hid (track_parts (P := P) hr hfull hokP (by rw [hflat]; exact HUP.out) (fun p hp i a b h1 h2 => (hbond p hp i a b h1 h2).1))
    have HOKP := hid hokP
    have HBND := hid (show ∀ p ∈ P, ∀ (i : Nat) (a b : Fx), p[i]? = some a → p[i + 1]? = some b → nearB m1 a b = true from fun p hp i a b h1 h2 => (hbond p hp i a b h1 h2).2)
    have HSUM := hid (show sumLen P = kn by rw [sumLen_flat, hflat, HKL.out])
    have HCNT := hid (show P.length ≤ 1000 by rw [← HKL.out] at hcnt; omega)
    have HPT := hid hpt
    obtain ⟨ta, tc, htv⟩ := OwnR.slice hpt.o
    rw [List.length_map, hpt.len] at htv
    have htl : (P.length = 0 ∧ True) ∨ ∃ g, ta = some ⟨g, 0, none⟩ ∧ g < wp.heap.size := by
      rcases Nat.eq_zero_or_pos P.length with h0 | h0
      · exact .inl ⟨h0, trivial⟩
      · right
        obtain ⟨v, hv⟩ : ∃ v, vs[0]? = some v := ⟨_, List.getElem?_eq_getElem (by rw [hpt.len]; exact h0)⟩
        have h9 := hpt.o
        rw [htv] at h9
        obtain ⟨g, hg, hc⟩ := h9.at hv
        exact ⟨g, hg, block_lt_of_cell hc⟩
    obtain ⟨tn, htn⟩ : ∃ tn, tn = P.length := ⟨_, rfl⟩
    rw [← htn] at htv htl
    have HTN := hid htn
    subst htv
    have HVT := hid (show ∀ W, Below wp.heap.size wp W → Calls Try.prog 43 #[.agg #[.slice ta tn tc], .agg #[.int .i64 m0, .int .i64 m1, .int .i64 m2, .int .i64 m3]] W fun e w' => e = .returned (.bool true) ∧ Below W.heap.size W w' from fun W hb => by
      rcases htl with ⟨h0, _⟩ | ⟨g, hg, hgl⟩
      · have h9 := xTrack_none ta tc m0 m1 m2 m3 W
        rw [hr] at h9
        rw [h0]
        exact h9
      · subst hg
        have h9 := xTrack_at g 0 tn tc _ _ _ _ m0 m1 m2 m3 W (Nat.lt_of_lt_of_le hgl hb.size) (by have h1 := HCNT.out; omega) (fun p => by
          show (P[p]!).length ≤ _
          by_cases hp : p < P.length
          · rw [getElem!_pos P p hp]
            have h1 := sumLen_take (List.getElem?_eq_getElem hp)
            have h2 := sumLen_le P (p + 1)
            have h3 := HSUM.out
            omega
          · rw [getElem!_neg P p hp]; exact Nat.zero_le _) (HPT.out.grow hb).trackAt
        rw [htn, HTB.out] at h9
        rw [htn]
        exact h9)
    clear hflat hfull hbond hcnt hokP hpt htn htl
    go_upto_region 33 with fail
    refine gen_world (fun w0 hw0 => ?_)
    have hBp0 : Below wp.heap.size wp w0 := by rw [hw0]; (repeat' (first | (with_reducible exact Below.refl _ _) | (with_reducible assumption) | (with_reducible refine Below.alloc ?_ ?_ _) | (with_reducible refine Below.drew ?_) | (with_reducible refine below_drewN ?_ _) | (with_reducible refine Below.setCell ?_ ?_ _) | (with_reducible refine below_setRow ?_ ?_ _) | go_size))
    have HT26 := hid (show w0.heap[wp.heap.size]? = some (.cells #[.slice ta tn tc] 64) by rw [hw0]; exact heap_alloc_at _ _ _ rfl)
    have HM0 := hid (heap_still hBp0 HMp.out)
    have HB0 := hid hBp0
    clear hw0 hBp0 hbp
    have ct : w0.cell? ⟨wp.heap.size, 0, none⟩ = some (.slice ta tn tc) := (cell_row (j := 0) HT26.out).trans rfl
    have cm0 : w0.cell? ⟨gm, 0, none⟩ = some (.int .i64 m0) := (cell_row (j := 0) HM0.out).trans rfl
    have cm1 : w0.cell? ⟨gm, 1, none⟩ = some (.int .i64 m1) := (cell_row (j := 1) HM0.out).trans rfl
    have cm2 : w0.cell? ⟨gm, 2, none⟩ = some (.int .i64 m2) := (cell_row (j := 2) HM0.out).trans rfl
    have cm3 : w0.cell? ⟨gm, 3, none⟩ = some (.int .i64 m3) := (cell_row (j := 3) HM0.out).trans rfl
    go_wp2_with fail
    refine (HVT.out _ HB0.out).mono ?_
    rintro r w6 ⟨rfl, hb6⟩
    have HB6 := hid (HB0.out.trans (hb6.mono HB0.out.size))
    have HM6 := hid (heap_still hb6 HM0.out)
    have HT6 := hid (heap_still hb6 HT26.out)
    have HPT6 := hid (HPT.out.grow HB6.out)
    have HB7 := hid (HBp.out.trans (HB6.out.mono HBp.out.size))
    clear hb6 ct cm0 cm1 cm2 cm3 HVT HTB HM0 HT26 HB0
    go_upto_if 187 with fail
    refine wp_cond_false rfl (wp_skip ?_)
    dsimp only [Exit.then]
    go_step
    exact order_parts _ _ _ _ _ _ _ _ _ _ _ _ _ _ _ _ _ _ _ _ _ _ _ _ _ _ _ _ _ _ _ _ _ _ _ _ _ _ _ _ _ _ _ _ _ _ _ _ _ _ _ _ _ _ _ _ _ _ _ _ _ _ _ _ _ _ _ _ _ _ _ _ _ _ _ _ _ _ _ _ _ _ _ _ _ _ _ _ _ _ _ _ _ _ _ _ _ _ _ _ _ _ _ _ _ _ _ _ _ _ _ _ _ _ _ _ _ _ _ _ _ _ _ _ _ _ _ _ _ _ _ _ _ _ _ _ _ _ _ _ _ _ _ _ _ _ _ _ _ _ _ _ _ _ _ _ _ _ _ _ _ _ _ _ _ _ _ _ _ _ _ _ _ _ _ _ _ _ _ _ _ _ _ _ _ _ _ _ _ _ _ _ _ _ _ _ _ _ _ _ _ _ _ _ _ _ _ _ _ _ _ _ _ _ _ _ _ _ _ _ _ _ _ _ _ _ w6 gm wp.heap.size T kn kc ka _ vs P m0 m1 m2 m3 _ _ (by kernel_rfl) HM6.out HT6.out HPT6.out hr HSUM.out hkn HCNT.out HOKP.out HBND.out (hid (fun u0 u1 u2 u3 u4 u5 u7 u8 u9 u10 u11 u12 u13 u14 u15 u16 u17 u18 u19 u20 u21 u22 u23 u24 u25 u26 u27 u28 u29 u30 u31 u32 u33 u34 u35 u36 u37 u38 u39 u40 u41 u42 u43 u44 u45 u46 u47 u48 u49 u50 u51 u52 u53 u54 u55 u56 u57 u58 u59 u60 u61 u62 u63 u64 u65 u66 u67 u68 u69 u70 u71 u72 u73 u74 u75 u76 u77 u78 u79 u80 u81 u82 u83 u84 u85 u86 u87 u88 u89 u90 u91 u92 u93 u94 u95 u96 u97 u98 u99 u100 u101 u102 u103 u104 u105 u106 u107 u108 u109 u110 u111 u112 u113 u114 u115 u116 u117 u118 u119 u120 u121 u122 u123 u124 u125 u126 u127 u128 u129 u130 u131 u132 u133 u134 u135 u136 u137 u138 u139 u140 u141 u142 u143 u144 u145 u146 u147 u148 u149 u150 u151 u152 u153 u154 u155 u156 u157 u158 u159 u160 u161 u162 u163 u164 u165 u166 u167 u168 u169 u170 u171 u172 u173 u174 u175 u176 u177 u178 u179 u180 u181 u182 u183 u184 u185 u186 u187 u188 u189 u190 u191 u192 u193 u194 u195 u196 u197 u198 u199 u200 u201 u202 u203 u204 u205 u206 u207 u208 u209 u210 u211 u212 u213 u214 u215 u216 u217 u218 u219 u220 u221 u222 u223 u224 u225 u226 u227 u228 W5 hb => HQ.out u0 u1 u2 u3 u4 u5 u7 u8 u9 u10 u11 u12 u13 u14 u15 u16 u17 u18 u19 u20 u21 u22 u23 u24 u25 u26 u27 u28 u29 u30 u31 u32 u33 u34 u35 u36 u37 u38 u39 u40 u41 u42 u43 u44 u45 u46 u47 u48 u49 u50 u51 u52 u53 u54 u55 u56 u57 u58 u59 u60 u61 u62 u63 u64 u65 u66 u67 u68 u69 u70 u71 u72 u73 u74 u75 u76 u77 u78 u79 u80 u81 u82 u83 u84 u85 u86 u87 u88 u89 u90 u91 u92 u93 u94 u95 u96 u97 u98 u99 u100 u101 u102 u103 u104 u105 u106 u107 u108 u109 u110 u111 u112 u113 u114 u115 u116 u117 u118 u119 u120 u121 u122 u123 u124 u125 u126 u127 u128 u129 u130 u131 u132 u133 u134 u135 u136 u137 u138 u139 u140 u141 u142 u143 u144 u145 u146 u147 u148 u149 u150 u151 u152 u153 u154 u155 u156 u157 u158 u159 u160 u161 u162 u163 u164 u165 u166 u167 u168 u169 u170 u171 u172 u173 u174 u175 u176 u177 u178 u179 u180 u181 u182 u183 u184 u185 u186 u187 u188 u189 u190 u191 u192 u193 u194 u195 u196 u197 u198 u199 u200 u201 u202 u203 u204 u205 u206 u207 u208 u209 u210 u211 u212 u213 u214 u215 u216 u217 u218 u219 u220 u221 u222 u223 u224 u225 u226 u227 u228 W5 (HB7.out.trans (hb.mono HB7.out.size))))
end Go.Proofs.Yteoikaedpgianaa
