/- TrackOrder (19), its end: the parts of what is kept. (Printed by wip/gen_orda.py.) -/
import Derived.Test.YteoikaedpgianaaQFxS
import Derived.Test.YteoikaedpgianaaQLift
import Derived.Test.YteoikaedpgianaaQProd
namespace Go.Proofs.Yteoikaedpgianaa
open Go.RowKit Go.Sort Go.Lib Go.Shelf Go.Proofs

/-- the number of the region that a piece of code begins with -/
def headR : Code → Option Nat
  | .region id _ _ => some id
  | .seq a _ => headR a
  | _ => none
/-- from a region on, to the end of the sequence that it begins -/
def findS (n : Nat) : Code → Option Code
  | .seq a b => if headR a = some n then some (.seq a b) else match findS n a with | some c => some c | none => findS n b
  | .cond _ a b => match findS n a with | some c => some c | none => findS n b
  | .block _ a => findS n a
  | .loop a => findS n a
  | .scope a => findS n a
  | _ => none
def sumLen : List (List Fx) → Nat
  | [] => 0
  | p :: P => p.length + sumLen P
theorem sumLen_flat (P : List (List Fx)) : sumLen P = P.flatten.length := by
  induction P with
  | nil => rfl
  | cons p P ih => rw [sumLen, ih, List.flatten_cons, List.length_append]
theorem sumLen_snoc (P : List (List Fx)) (p : List Fx) : sumLen (P ++ [p]) = sumLen P + p.length := by
  rw [sumLen_flat, sumLen_flat]; simp
theorem sumLen_take {P : List (List Fx)} {i : Nat} {p : List Fx} (h : P[i]? = some p) : sumLen (P.take (i + 1)) = sumLen (P.take i) + p.length := by
  obtain ⟨hi, rfl⟩ := List.getElem?_eq_some_iff.1 h
  rw [List.take_succ_eq_append_getElem hi, sumLen_snoc]
theorem sumLen_le (P : List (List Fx)) (i : Nat) : sumLen (P.take i) ≤ sumLen P := by
  have h : sumLen P = sumLen (P.take i) + sumLen (P.drop i) := by
    rw [sumLen_flat, sumLen_flat, sumLen_flat, ← List.length_append, ← List.flatten_append, List.take_append_drop]
  omega
theorem rnearL {p q : Fx} {m0 m1 m2 m3 : Int} (hp : p.ok = true) (hq : q.ok = true) (hr : rulesB m0 m1 m2 m3 = true) (hn : nearB m1 p q = true) (W : World) :
    Calls Try.prog 48 #[.agg #[.int .i64 p.t, .int .i64 p.x, .int .i64 p.y, .int .i64 p.z, .int .i64 p.e, .int .i64 p.a, .int .i64 p.b, .int .i64 p.c, .int .i64 p.d, .int .i64 p.g], .agg #[.int .i64 q.t, .int .i64 q.x, .int .i64 q.y, .int .i64 q.z, .int .i64 q.e, .int .i64 q.a, .int .i64 q.b, .int .i64 q.c, .int .i64 q.d, .int .i64 q.g], .agg #[.int .i64 m0, .int .i64 m1, .int .i64 m2, .int .i64 m3]] W fun r w' => r = .returned (.tuple #[.bool true, .int .i64 0]) ∧ Below W.heap.size W w' := by
  have h := rNear_any p.t p.x p.y p.z p.e p.a p.b p.c p.d p.g q.t q.x q.y q.z q.e q.a q.b q.c q.d q.g m0 m1 m2 m3 W
  have e : nearR p.t p.x p.y p.z p.e p.a p.b p.c p.d p.g q.t q.x q.y q.z q.e q.a q.b q.c q.d q.g m0 m1 m2 m3 = .tuple #[.bool true, .int .i64 0] := by
    unfold nearR
    have hp' : fixB p.t p.x p.y p.z p.e p.a p.b p.c p.d p.g = true := hp
    have hq' : fixB q.t q.x q.y q.z q.e q.a q.b q.c q.d q.g = true := hq
    have hn' : (decide (apartV p.x q.x ≤ mostV p.e q.e m1 p.t q.t) && decide (apartV p.y q.y ≤ mostV p.e q.e m1 p.t q.t) && decide (apartV p.z q.z ≤ mostV p.e q.e m1 p.t q.t)) = true := hn
    rw [if_pos ⟨hr, hp', hq'⟩, if_neg (by rw [hr]; decide), if_pos ⟨hp', hq'⟩, hn']
  rw [e] at h
  exact h
theorem OwnS.at {W : World} {B n c : Nat} {a : Option Addr} {vs : List Value} (h : OwnS W B (.slice a n c) vs) {i : Nat} {v : Value} (hv : vs[i]? = some v) : ∃ g, a = some ⟨g, 0, none⟩ ∧ W.cell? ⟨g, i, none⟩ = some v := by
  have hl := (List.getElem?_eq_some_iff.1 hv).1
  obtain ⟨g, cap, C, e, _, hC, hr, _⟩ := OwnR.rows h (by rw [List.length_map]; omega)
  injection e with e1
  have hc := hr i [v] (by rw [List.getElem?_map, hv]; rfl) 0 (by decide)
  rw [Nat.zero_add, Nat.mul_one, Nat.add_zero] at hc
  exact ⟨g, e1, hc.trans rfl⟩
theorem OwnS.len {W : World} {B n c : Nat} {a : Option Addr} {vs : List Value} (h : OwnS W B (.slice a n c) vs) : n = vs.length := by
  obtain ⟨a', c', e⟩ := OwnR.slice h
  injection e with _ e _
  rw [e, List.length_map]
set_option maxRecDepth 100000 in
set_option maxHeartbeats 3200000 in
/-- the parts: each fix is near the one ahead of it, and they are as many as were kept -/
theorem order_parts (s0 s1 s2 s3 s4 s6 s7 s8 s9 s10 s11 s12 s13 s15 s16 s17 s18 s19 s20 s21 s22 s23 s24 s25 s27 s28 s29 s30 s31 s32 s33 s34 s35 s36 s37 s38 s39 s40 s41 s42 s43 s44 s45 s46 s47 s48 s49 s50 s51 s52 s53 s54 s55 s56 s57 s58 s59 s60 s61 s62 s63 s64 s65 s66 s67 s68 s69 s70 s71 s72 s73 s74 s75 s76 s77 s78 s79 s80 s81 s82 s83 s84 s85 s86 s87 s88 s89 s90 s91 s92 s93 s94 s95 s96 s97 s98 s99 s100 s101 s102 s103 s104 s105 s106 s107 s108 s109 s110 s111 s112 s113 s114 s115 s116 s117 s118 s119 s120 s121 s122 s123 s124 s125 s126 s127 s128 s129 s130 s131 s132 s133 s134 s135 s136 s137 s138 s139 s140 s141 s142 s143 s144 s145 s146 s147 s148 s149 s150 s151 s152 s153 s154 s155 s156 s157 s158 s159 s160 s161 s162 s163 s164 s165 s166 s167 s168 s169 s170 s171 s172 s173 s174 s175 s176 s177 s178 s179 s180 s181 s182 s183 s184 s185 s186 s187 s188 s189 s190 s191 s192 s193 s194 s195 s196 s197 s198 s199 s200 s201 s202 s203 s204 s205 s206 s207 s208 s209 s210 s211 s212 s213 s214 s215 s216 s217 s218 s219 s220 s221 s222 s223 s224 s225 s226 s227 s228 : Value) (w : World) (gm gt T kn kc : Nat) (ka : Option Addr) (tv : Value) (vs : List Value) (P : List (List Fx)) (m0 m1 m2 m3 : Int) (Q : Exit → Act → World → Prop) (R : Code) (hR : Try.f19.body.bind (findS 35) = some R) (hm5 : w.heap[gm]? = some (.cells #[.int .i64 m0, .int .i64 m1, .int .i64 m2, .int .i64 m3] 61)) (ht26 : w.heap[gt]? = some (.cells #[tv] 64)) (hpv : PtV w T tv vs P) (hr : rulesB m0 m1 m2 m3 = true) (hsum : sumLen P = kn) (hkn : kn ≤ 1000) (hpn : P.length ≤ 1000)
    (hok : ∀ p ∈ P, ∀ x ∈ p, x.ok = true) (hbond : ∀ p ∈ P, ∀ (i : Nat) (a b : Fx), p[i]? = some a → p[i + 1]? = some b → nearB m1 a b = true)
    (HQ : Hid (∀ (u0 u1 u2 u3 u4 u5 u7 u8 u9 u10 u11 u12 u13 u14 u15 u16 u17 u18 u19 u20 u21 u22 u23 u24 u25 u26 u27 u28 u29 u30 u31 u32 u33 u34 u35 u36 u37 u38 u39 u40 u41 u42 u43 u44 u45 u46 u47 u48 u49 u50 u51 u52 u53 u54 u55 u56 u57 u58 u59 u60 u61 u62 u63 u64 u65 u66 u67 u68 u69 u70 u71 u72 u73 u74 u75 u76 u77 u78 u79 u80 u81 u82 u83 u84 u85 u86 u87 u88 u89 u90 u91 u92 u93 u94 u95 u96 u97 u98 u99 u100 u101 u102 u103 u104 u105 u106 u107 u108 u109 u110 u111 u112 u113 u114 u115 u116 u117 u118 u119 u120 u121 u122 u123 u124 u125 u126 u127 u128 u129 u130 u131 u132 u133 u134 u135 u136 u137 u138 u139 u140 u141 u142 u143 u144 u145 u146 u147 u148 u149 u150 u151 u152 u153 u154 u155 u156 u157 u158 u159 u160 u161 u162 u163 u164 u165 u166 u167 u168 u169 u170 u171 u172 u173 u174 u175 u176 u177 u178 u179 u180 u181 u182 u183 u184 u185 u186 u187 u188 u189 u190 u191 u192 u193 u194 u195 u196 u197 u198 u199 u200 u201 u202 u203 u204 u205 u206 u207 u208 u209 u210 u211 u212 u213 u214 u215 u216 u217 u218 u219 u220 u221 u222 u223 u224 u225 u226 u227 u228 : Value) (W5 : World), Below w.heap.size w W5 → Q Exit.ret ({ tmps := List.toArray (List.cons (u0) (List.cons (u1) (List.cons (u2) (List.cons (u3) (List.cons (u4) (List.cons (u5) (List.cons (.bool true) (List.cons (u7) (List.cons (u8) (List.cons (u9) (List.cons (u10) (List.cons (u11) (List.cons (u12) (List.cons (u13) (List.cons (u14) (List.cons (u15) (List.cons (u16) (List.cons (u17) (List.cons (u18) (List.cons (u19) (List.cons (u20) (List.cons (u21) (List.cons (u22) (List.cons (u23) (List.cons (u24) (List.cons (u25) (List.cons (u26) (List.cons (u27) (List.cons (u28) (List.cons (u29) (List.cons (u30) (List.cons (u31) (List.cons (u32) (List.cons (u33) (List.cons (u34) (List.cons (u35) (List.cons (u36) (List.cons (u37) (List.cons (u38) (List.cons (u39) (List.cons (u40) (List.cons (u41) (List.cons (u42) (List.cons (u43) (List.cons (u44) (List.cons (u45) (List.cons (u46) (List.cons (u47) (List.cons (u48) (List.cons (u49) (List.cons (u50) (List.cons (u51) (List.cons (u52) (List.cons (u53) (List.cons (u54) (List.cons (u55) (List.cons (u56) (List.cons (u57) (List.cons (u58) (List.cons (u59) (List.cons (u60) (List.cons (u61) (List.cons (u62) (List.cons (u63) (List.cons (u64) (List.cons (u65) (List.cons (u66) (List.cons (u67) (List.cons (u68) (List.cons (u69) (List.cons (u70) (List.cons (u71) (List.cons (u72) (List.cons (u73) (List.cons (u74) (List.cons (u75) (List.cons (u76) (List.cons (u77) (List.cons (u78) (List.cons (u79) (List.cons (u80) (List.cons (u81) (List.cons (u82) (List.cons (u83) (List.cons (u84) (List.cons (u85) (List.cons (u86) (List.cons (u87) (List.cons (u88) (List.cons (u89) (List.cons (u90) (List.cons (u91) (List.cons (u92) (List.cons (u93) (List.cons (u94) (List.cons (u95) (List.cons (u96) (List.cons (u97) (List.cons (u98) (List.cons (u99) (List.cons (u100) (List.cons (u101) (List.cons (u102) (List.cons (u103) (List.cons (u104) (List.cons (u105) (List.cons (u106) (List.cons (u107) (List.cons (u108) (List.cons (u109) (List.cons (u110) (List.cons (u111) (List.cons (u112) (List.cons (u113) (List.cons (u114) (List.cons (u115) (List.cons (u116) (List.cons (u117) (List.cons (u118) (List.cons (u119) (List.cons (u120) (List.cons (u121) (List.cons (u122) (List.cons (u123) (List.cons (u124) (List.cons (u125) (List.cons (u126) (List.cons (u127) (List.cons (u128) (List.cons (u129) (List.cons (u130) (List.cons (u131) (List.cons (u132) (List.cons (u133) (List.cons (u134) (List.cons (u135) (List.cons (u136) (List.cons (u137) (List.cons (u138) (List.cons (u139) (List.cons (u140) (List.cons (u141) (List.cons (u142) (List.cons (u143) (List.cons (u144) (List.cons (u145) (List.cons (u146) (List.cons (u147) (List.cons (u148) (List.cons (u149) (List.cons (u150) (List.cons (u151) (List.cons (u152) (List.cons (u153) (List.cons (u154) (List.cons (u155) (List.cons (u156) (List.cons (u157) (List.cons (u158) (List.cons (u159) (List.cons (u160) (List.cons (u161) (List.cons (u162) (List.cons (u163) (List.cons (u164) (List.cons (u165) (List.cons (u166) (List.cons (u167) (List.cons (u168) (List.cons (u169) (List.cons (u170) (List.cons (u171) (List.cons (u172) (List.cons (u173) (List.cons (u174) (List.cons (u175) (List.cons (u176) (List.cons (u177) (List.cons (u178) (List.cons (u179) (List.cons (u180) (List.cons (u181) (List.cons (u182) (List.cons (u183) (List.cons (u184) (List.cons (u185) (List.cons (u186) (List.cons (u187) (List.cons (u188) (List.cons (u189) (List.cons (u190) (List.cons (u191) (List.cons (u192) (List.cons (u193) (List.cons (u194) (List.cons (u195) (List.cons (u196) (List.cons (u197) (List.cons (u198) (List.cons (u199) (List.cons (u200) (List.cons (u201) (List.cons (u202) (List.cons (u203) (List.cons (u204) (List.cons (u205) (List.cons (u206) (List.cons (u207) (List.cons (u208) (List.cons (u209) (List.cons (u210) (List.cons (u211) (List.cons (u212) (List.cons (u213) (List.cons (u214) (List.cons (u215) (List.cons (u216) (List.cons (u217) (List.cons (u218) (List.cons (u219) (List.cons (u220) (List.cons (u221) (List.cons (u222) (List.cons (u223) (List.cons (u224) (List.cons (u225) (List.cons (u226) (List.cons (u227) (List.cons (u228) List.nil))))))))))))))))))))))))))))))))))))))))))))))))))))))))))))))))))))))))))))))))))))))))))))))))))))))))))))))))))))))))))))))))))))))))))))))))))))))))))))))))))))))))))))))))))))))))))))))))))))))))))))))))))))))))))))))))))))), defers := [] } : Act) W5)) :
    Code.wp Try.prog R Q ({ tmps := List.toArray (List.cons (s0) (List.cons (s1) (List.cons (s2) (List.cons (s3) (List.cons (s4) (List.cons (.pointer (some ⟨gm, 0, none⟩)) (List.cons (s6) (List.cons (s7) (List.cons (s8) (List.cons (s9) (List.cons (s10) (List.cons (s11) (List.cons (s12) (List.cons (s13) (List.cons (.slice ka kn kc) (List.cons (s15) (List.cons (s16) (List.cons (s17) (List.cons (s18) (List.cons (s19) (List.cons (s20) (List.cons (s21) (List.cons (s22) (List.cons (s23) (List.cons (s24) (List.cons (s25) (List.cons (.pointer (some ⟨gt, 0, none⟩)) (List.cons (s27) (List.cons (s28) (List.cons (s29) (List.cons (s30) (List.cons (s31) (List.cons (s32) (List.cons (s33) (List.cons (s34) (List.cons (s35) (List.cons (s36) (List.cons (s37) (List.cons (s38) (List.cons (s39) (List.cons (s40) (List.cons (s41) (List.cons (s42) (List.cons (s43) (List.cons (s44) (List.cons (s45) (List.cons (s46) (List.cons (s47) (List.cons (s48) (List.cons (s49) (List.cons (s50) (List.cons (s51) (List.cons (s52) (List.cons (s53) (List.cons (s54) (List.cons (s55) (List.cons (s56) (List.cons (s57) (List.cons (s58) (List.cons (s59) (List.cons (s60) (List.cons (s61) (List.cons (s62) (List.cons (s63) (List.cons (s64) (List.cons (s65) (List.cons (s66) (List.cons (s67) (List.cons (s68) (List.cons (s69) (List.cons (s70) (List.cons (s71) (List.cons (s72) (List.cons (s73) (List.cons (s74) (List.cons (s75) (List.cons (s76) (List.cons (s77) (List.cons (s78) (List.cons (s79) (List.cons (s80) (List.cons (s81) (List.cons (s82) (List.cons (s83) (List.cons (s84) (List.cons (s85) (List.cons (s86) (List.cons (s87) (List.cons (s88) (List.cons (s89) (List.cons (s90) (List.cons (s91) (List.cons (s92) (List.cons (s93) (List.cons (s94) (List.cons (s95) (List.cons (s96) (List.cons (s97) (List.cons (s98) (List.cons (s99) (List.cons (s100) (List.cons (s101) (List.cons (s102) (List.cons (s103) (List.cons (s104) (List.cons (s105) (List.cons (s106) (List.cons (s107) (List.cons (s108) (List.cons (s109) (List.cons (s110) (List.cons (s111) (List.cons (s112) (List.cons (s113) (List.cons (s114) (List.cons (s115) (List.cons (s116) (List.cons (s117) (List.cons (s118) (List.cons (s119) (List.cons (s120) (List.cons (s121) (List.cons (s122) (List.cons (s123) (List.cons (s124) (List.cons (s125) (List.cons (s126) (List.cons (s127) (List.cons (s128) (List.cons (s129) (List.cons (s130) (List.cons (s131) (List.cons (s132) (List.cons (s133) (List.cons (s134) (List.cons (s135) (List.cons (s136) (List.cons (s137) (List.cons (s138) (List.cons (s139) (List.cons (s140) (List.cons (s141) (List.cons (s142) (List.cons (s143) (List.cons (s144) (List.cons (s145) (List.cons (s146) (List.cons (s147) (List.cons (s148) (List.cons (s149) (List.cons (s150) (List.cons (s151) (List.cons (s152) (List.cons (s153) (List.cons (s154) (List.cons (s155) (List.cons (s156) (List.cons (s157) (List.cons (s158) (List.cons (s159) (List.cons (s160) (List.cons (s161) (List.cons (s162) (List.cons (s163) (List.cons (s164) (List.cons (s165) (List.cons (s166) (List.cons (s167) (List.cons (s168) (List.cons (s169) (List.cons (s170) (List.cons (s171) (List.cons (s172) (List.cons (s173) (List.cons (s174) (List.cons (s175) (List.cons (s176) (List.cons (s177) (List.cons (s178) (List.cons (s179) (List.cons (s180) (List.cons (s181) (List.cons (s182) (List.cons (s183) (List.cons (s184) (List.cons (s185) (List.cons (s186) (List.cons (s187) (List.cons (s188) (List.cons (s189) (List.cons (s190) (List.cons (s191) (List.cons (s192) (List.cons (s193) (List.cons (s194) (List.cons (s195) (List.cons (s196) (List.cons (s197) (List.cons (s198) (List.cons (s199) (List.cons (s200) (List.cons (s201) (List.cons (s202) (List.cons (s203) (List.cons (s204) (List.cons (s205) (List.cons (s206) (List.cons (s207) (List.cons (s208) (List.cons (s209) (List.cons (s210) (List.cons (s211) (List.cons (s212) (List.cons (s213) (List.cons (s214) (List.cons (s215) (List.cons (s216) (List.cons (s217) (List.cons (s218) (List.cons (s219) (List.cons (s220) (List.cons (s221) (List.cons (s222) (List.cons (s223) (List.cons (s224) (List.cons (s225) (List.cons (s226) (List.cons (s227) (List.cons (s228) List.nil))))))))))))))))))))))))))))))))))))))))))))))))))))))))))))))))))))))))))))))))))))))))))))))))))))))))))))))))))))))))))))))))))))))))))))))))))))))))))))))))))))))))))))))))))))))))))))))))))))))))))))))))))))))))))))))))))))), defers := [] } : Act) w := by
  simp [findS, headR, Try.f19] at hR
  subst hR
  have HM := hid hm5
  have HT := hid ht26
  have HP := hid hpv
  have HOK := hid hok
  have HBD := hid hbond
  have HSUM := hid hsum
  obtain ⟨ta, tc, htv⟩ := OwnR.slice hpv.o
  rw [List.length_map, hpv.len] at htv
  obtain ⟨tn, htn⟩ : ∃ tn, tn = P.length := ⟨_, rfl⟩
  rw [← htn] at htv hpn
  subst htv
  have HTN := hid htn
  have c26 : w.cell? ⟨gt, 0, none⟩ = some (.slice ta tn tc) := (cell_row (j := 0) ht26).trans rfl
  clear hm5 ht26 hpv hok hbond hsum htn
  go_wp2_with fail
  clear c26
  go_loopw [28, 191] (fun sv iv W => ∃ i : Nat, i ≤ tn ∧ iv = .int .i64 (i : Int) ∧ sv = .int .i64 ((sumLen (P.take i) : Nat) : Int) ∧ Below w.heap.size w W) (fun _ iv _ => tn - (intOf iv).toNat)
  case atStart => exact ⟨0, by omega, rfl, rfl, Below.refl _ _⟩
  case round =>
    obtain ⟨i, hi, rfl, rfl, hB⟩ := hrel
    have HB := hid hB
    clear hB
    by_cases hlt : i < tn
    · have e3 : decide ((i : Int) < (tn : Int)) = true := decide_eq_true (by omega)
      obtain ⟨p, hp⟩ : ∃ p, P[i]? = some p := ⟨_, List.getElem?_eq_getElem (by rw [← HTN.out]; exact hlt)⟩
      obtain ⟨v, hv⟩ : ∃ v, vs[i]? = some v := ⟨_, List.getElem?_eq_getElem (by rw [HP.out.len, ← HTN.out]; exact hlt)⟩
      obtain ⟨g, hta, hcv⟩ := OwnS.at HP.out.o hv
      subst hta
      have ho := HP.out.f i v p hv hp
      obtain ⟨pa, pc, hpv⟩ := OwnR.slice ho
      rw [List.length_map] at hpv
      obtain ⟨pn, hpn2⟩ : ∃ pn, pn = p.length := ⟨_, rfl⟩
      rw [← hpn2] at hpv
      subst hpv
      have HPN := hid hpn2
      have HO := hid ho
      have hgl : g < w.heap.size := block_lt_of_cell hcv
      have hcw : wr.cell? ⟨g, i, none⟩ = some (.slice pa pn pc) := by rw [HB.out.cell hgl]; exact hcv
      obtain ⟨sm, hsm⟩ : ∃ sm, sm = sumLen (P.take i) := ⟨_, rfl⟩
      have hsb : sm + pn ≤ 1000 := by have h1 := sumLen_take hp; have h2 := sumLen_le P (i + 1); rw [HSUM.out, h1, ← hsm, ← hpn2] at h2; omega
      have HSM := hid (show sumLen (P.take (i + 1)) = sm + pn by rw [sumLen_take hp, ← hsm, ← hpn2])
      rw [← hsm]
      have HPM := hid (List.mem_of_getElem? hp)
      clear hp hv hcv hpn2 ho hsm
      go_wp2_with fail
      clear hcw
      go_loopw [31] (fun jv W => ∃ j : Nat, 1 ≤ j ∧ (j ≤ pn ∨ j = 1) ∧ jv = .int .i64 (j : Int) ∧ Below w.heap.size w W) (fun jv _ => pn - (intOf jv).toNat)
      case atStart => exact ⟨1, by omega, .inr rfl, rfl, HB.out⟩
      case round =>
        obtain ⟨j, hj1, hj, rfl, hB2⟩ := hrel
        have HB2 := hid hB2
        clear hB2
        by_cases hjl : j < pn
        · have e4 : decide ((j : Int) < (pn : Int)) = true := decide_eq_true (by omega)
          have e5 : decide ((0 : Int) < (j : Int)) = true := decide_eq_true (by omega)
          have hj0 : 0 < j := by omega
          obtain ⟨y, hy⟩ : ∃ y, p[j - 1]? = some y := ⟨_, List.getElem?_eq_getElem (by rw [← HPN.out]; omega)⟩
          obtain ⟨x, hx⟩ : ∃ x, p[j]? = some x := ⟨_, List.getElem?_eq_getElem (by rw [← HPN.out]; omega)⟩
          obtain ⟨b, hpa, hrow, hbl⟩ := own_at HO.out hy
          subst hpa
          have hrw := hrow.still HB2.out hbl
          have hcy := row_of hrw hy ((j - 1) * 10) rfl
          have hcx := row_of hrw hx (j * 10) rfl
          have HNQ := hid (show ∀ W, Calls Try.prog 48 #[.agg #[.int .i64 y.t, .int .i64 y.x, .int .i64 y.y, .int .i64 y.z, .int .i64 y.e, .int .i64 y.a, .int .i64 y.b, .int .i64 y.c, .int .i64 y.d, .int .i64 y.g], .agg #[.int .i64 x.t, .int .i64 x.x, .int .i64 x.y, .int .i64 x.z, .int .i64 x.e, .int .i64 x.a, .int .i64 x.b, .int .i64 x.c, .int .i64 x.d, .int .i64 x.g], .agg #[.int .i64 m0, .int .i64 m1, .int .i64 m2, .int .i64 m3]] W fun r w' => r = .returned (.tuple #[.bool true, .int .i64 0]) ∧ Below W.heap.size W w' from fun W => rnearL (HOK.out p HPM.out y (List.mem_of_getElem? hy)) (HOK.out p HPM.out x (List.mem_of_getElem? hx)) hr (HBD.out p HPM.out (j - 1) y x hy (by rw [show j - 1 + 1 = j by omega]; exact hx)) W)
          have HMW := heap_still HB2.out HM.out
          have cm0 := fun d os => cell_regrown (w := wr) (a := ⟨gm, 0, none⟩) (v := .int .i64 m0) ((cell_row (j := 0) HMW).trans rfl) d os
          have cm1 := fun d os => cell_regrown (w := wr) (a := ⟨gm, 1, none⟩) (v := .int .i64 m1) ((cell_row (j := 1) HMW).trans rfl) d os
          have cm2 := fun d os => cell_regrown (w := wr) (a := ⟨gm, 2, none⟩) (v := .int .i64 m2) ((cell_row (j := 2) HMW).trans rfl) d os
          have cm3 := fun d os => cell_regrown (w := wr) (a := ⟨gm, 3, none⟩) (v := .int .i64 m3) ((cell_row (j := 3) HMW).trans rfl) d os
          have p0 := fun d os => cell_regrown (w := wr) (a := ⟨b, (j - 1) * 10, none⟩) (v := .int .i64 y.t) (hcy 0 (by decide)) d os
          have p1 := fun d os => cell_regrown (w := wr) (a := ⟨b, (j - 1) * 10 + 1, none⟩) (v := .int .i64 y.x) (hcy 1 (by decide)) d os
          have p2 := fun d os => cell_regrown (w := wr) (a := ⟨b, (j - 1) * 10 + 2, none⟩) (v := .int .i64 y.y) (hcy 2 (by decide)) d os
          have p3 := fun d os => cell_regrown (w := wr) (a := ⟨b, (j - 1) * 10 + 3, none⟩) (v := .int .i64 y.z) (hcy 3 (by decide)) d os
          have p4 := fun d os => cell_regrown (w := wr) (a := ⟨b, (j - 1) * 10 + 4, none⟩) (v := .int .i64 y.e) (hcy 4 (by decide)) d os
          have p5 := fun d os => cell_regrown (w := wr) (a := ⟨b, (j - 1) * 10 + 5, none⟩) (v := .int .i64 y.a) (hcy 5 (by decide)) d os
          have p6 := fun d os => cell_regrown (w := wr) (a := ⟨b, (j - 1) * 10 + 6, none⟩) (v := .int .i64 y.b) (hcy 6 (by decide)) d os
          have p7 := fun d os => cell_regrown (w := wr) (a := ⟨b, (j - 1) * 10 + 7, none⟩) (v := .int .i64 y.c) (hcy 7 (by decide)) d os
          have p8 := fun d os => cell_regrown (w := wr) (a := ⟨b, (j - 1) * 10 + 8, none⟩) (v := .int .i64 y.d) (hcy 8 (by decide)) d os
          have p9 := fun d os => cell_regrown (w := wr) (a := ⟨b, (j - 1) * 10 + 9, none⟩) (v := .int .i64 y.g) (hcy 9 (by decide)) d os
          have q0 := fun d os => cell_regrown (w := wr) (a := ⟨b, j * 10, none⟩) (v := .int .i64 x.t) (hcx 0 (by decide)) d os
          have q1 := fun d os => cell_regrown (w := wr) (a := ⟨b, j * 10 + 1, none⟩) (v := .int .i64 x.x) (hcx 1 (by decide)) d os
          have q2 := fun d os => cell_regrown (w := wr) (a := ⟨b, j * 10 + 2, none⟩) (v := .int .i64 x.y) (hcx 2 (by decide)) d os
          have q3 := fun d os => cell_regrown (w := wr) (a := ⟨b, j * 10 + 3, none⟩) (v := .int .i64 x.z) (hcx 3 (by decide)) d os
          have q4 := fun d os => cell_regrown (w := wr) (a := ⟨b, j * 10 + 4, none⟩) (v := .int .i64 x.e) (hcx 4 (by decide)) d os
          have q5 := fun d os => cell_regrown (w := wr) (a := ⟨b, j * 10 + 5, none⟩) (v := .int .i64 x.a) (hcx 5 (by decide)) d os
          have q6 := fun d os => cell_regrown (w := wr) (a := ⟨b, j * 10 + 6, none⟩) (v := .int .i64 x.b) (hcx 6 (by decide)) d os
          have q7 := fun d os => cell_regrown (w := wr) (a := ⟨b, j * 10 + 7, none⟩) (v := .int .i64 x.c) (hcx 7 (by decide)) d os
          have q8 := fun d os => cell_regrown (w := wr) (a := ⟨b, j * 10 + 8, none⟩) (v := .int .i64 x.d) (hcx 8 (by decide)) d os
          have q9 := fun d os => cell_regrown (w := wr) (a := ⟨b, j * 10 + 9, none⟩) (v := .int .i64 x.g) (hcx 9 (by decide)) d os
          clear hy hx hrow hrw hcy hcx HMW
          go_wp2_with fail
          refine wp_region_quiet_below (by kernel_rfl) (by kernel_rfl) ?_
          repeat (first | go_big_quiet_step ((go_at_call 48; with_reducible exact Calls.regrown_of (HNQ.out _))) | quiet_step ((go_at_call 48; with_reducible exact Calls.regrown_of (HNQ.out _))))
          refine wpQuiet_nil ?_
          intro _ hw'
          obtain ⟨⟨dqV, osV⟩, hw2⟩ := hw'
          subst hw2
          have HQV := hid (below_regrown wr dqV osV)
          generalize Sort.grow (redrawn wr dqV) osV = V at HQV ⊢
          have hsV := HQV.out.size
          go_wp2_with fail
          exact ⟨⟨j + 1, by omega, .inl (by omega), by go_num, HB2.out.trans (HQV.out.mono HB2.out.size)⟩, by simp [intOf]; omega⟩
        · have e4 : decide ((j : Int) < (pn : Int)) = false := decide_eq_false (by omega)
          go_wp2_with fail
          exact ⟨⟨i + 1, by omega, by go_num, by rw [HSM.out]; go_num, HB2.out⟩, by simp [intOf]; omega⟩
    · have e3 : decide ((i : Int) < (tn : Int)) = false := decide_eq_false (by omega)
      have hit : P.take i = P := List.take_of_length_le (by rw [← HTN.out]; omega)
      have hsm : sumLen (P.take i) = kn := by rw [hit, HSUM.out]
      rw [hsm]
      clear hsm hit
      go_wp2_with fail
      refine (awake_any _).mono ?_
      rintro r w3 ⟨rfl, hb3⟩
      have HB3 := hid (HB.out.trans (hb3.mono HB.out.size))
      clear hb3
      go_wp2_with fail
      exact HQ.out _ _ _ _ _ _ _ _ _ _ _ _ _ _ _ _ _ _ _ _ _ _ _ _ _ _ _ _ _ _ _ _ _ _ _ _ _ _ _ _ _ _ _ _ _ _ _ _ _ _ _ _ _ _ _ _ _ _ _ _ _ _ _ _ _ _ _ _ _ _ _ _ _ _ _ _ _ _ _ _ _ _ _ _ _ _ _ _ _ _ _ _ _ _ _ _ _ _ _ _ _ _ _ _ _ _ _ _ _ _ _ _ _ _ _ _ _ _ _ _ _ _ _ _ _ _ _ _ _ _ _ _ _ _ _ _ _ _ _ _ _ _ _ _ _ _ _ _ _ _ _ _ _ _ _ _ _ _ _ _ _ _ _ _ _ _ _ _ _ _ _ _ _ _ _ _ _ _ _ _ _ _ _ _ _ _ _ _ _ _ _ _ _ _ _ _ _ _ _ _ _ _ _ _ _ _ _ _ _ _ _ _ _ _ _ _ _ _ _ _ _ _ _ _ _ _ _ _ _ HB3.out
end Go.Proofs.Yteoikaedpgianaa
