/- Commit (30) behind the log's copy: the store, and what it leaves. -/
import Derived.Test.YtcclpdfmmdonpaaGreatXArcG
namespace Go.Proofs.YtcclpdfmmdonpaaGreat
open Go.RowKit Go.WideShapes Go.ChangeAt Go.Maps Go.Sort
theorem store_any (B g gd N : Nat) (a : Ac) (d : Dk) (s : Stp) (bv sv pv bv' sv' av rv : Value) (sl : Bool) (Bs : Nat) (w : World) (h : ArcV w B g gd a bv sv pv) (hk : DkV w B gd d) (hH : Holds N d a) (hN : N <= 40)
    (hlp : OwnP w Bs bv' a.lg.base) (hls : OwnS w Bs sv' (a.lg.steps ++ [s])) (hsp : OwnP w Bs av s.add) (hsi : OwnI w Bs rv s.rem) (hs : StpOk s) (hB : B <= w.heap.size) (x : Int × Dk) (hx : x = a.cmtD s d) :
    Calls Tryz.prog 61 #[.pointer (some ⟨g, 0, none⟩), .agg #[.int .i64 a.lg.age, .int .i64 a.lg.cap, .int .i64 a.lg.first, bv', sv', .bool sl, .bool a.torn], .agg #[av, rv]] w fun r w' => r = .returned (.int .i64 x.1) /\ DkV w' B gd x.2 /\ ArcV w' B g gd (a.done x.1 a.into) bv sv pv /\ Chg (MA B) w w' := by
  cases hf : a.frs with
  | true => exact store_frs B g gd N a d s bv sv pv bv' sv' av rv sl Bs w h hk hH hN hlp hls hs hB x hx hf
  | false => exact store_put B g gd N a d s bv sv pv bv' sv' av rv sl Bs w h hk hH hN hsp hsi hs hB x hx hf
theorem Chg.typed {M M' : Nat -> Obj -> Prop} {W W' : World} (h : Chg M W W') (hM : ∀ k o, W.heap[k]? = some o -> M k o -> M' k o) : Chg M' W W' :=
  ⟨h.os, h.tape, h.output, h.size, fun k o hk hm => h.block k o hk (fun e => hm (hM k o hk e))⟩
theorem Chg.past {M : Nat -> Obj -> Prop} {W W' W'' : World} (h : Chg M W W') (h2 : Below W.heap.size W' W'') : Chg M W W'' :=
  ⟨h2.os.trans h.os, h2.tape.trans h.tape, h2.output.trans h.output, Nat.le_trans h.size h2.size, fun k o hk hm => by rw [h2.block k (Array.getElem?_eq_some_iff.1 hk).1]; exact h.block k o hk hm⟩
def MC (B : Nat) (pv : Value) (k : Nat) (o : Obj) : Prop := MA B k o ∨ (B <= k /\ pv.ownBlock = some k)
def EndPost (B g gd : Nat) (a : Ac) (d : Dk) (s : Stp) (bv sv pv : Value) (L : List Pt) (w : World) (r : Ending) (w' : World) : Prop :=
  Chg (MC B pv) w w' /\ DkV w' B gd (a.cmtD s d).2 /\
    (((a.cmtD s d).1 = 0 /\ r = .returned (.tuple #[.int .i64 (a.lg.first + a.pts.length), .int .i64 0]) /\ ∃ bv' sv' pv', ArcV w' B g gd (a.cmt s L) bv' sv' pv') ∨
     ((a.cmtD s d).1 ≠ 0 /\ r = .returned (.tuple #[.int .i64 0, .int .i64 (a.cmtD s d).1]) /\ ArcV w' B g gd { a with dead := true } bv sv pv))
set_option maxRecDepth 100000 in
set_option maxHeartbeats 3200000 in
theorem commit_end {s1 s2 s3 s4 s5 s9 s12 s13 s14 s15 s16 s17 s18 s19 s20 s21 s22 s23 s24 s25 s26 s27 s28 s29 s30 s31 s32 s33 s34 s35 s36 s37 s38 s39 s40 s41 s42 s43 s44 s45 s46 s47 s48 s49 s50 s51 s52 s53 s54 s55 s56 s57 s58 s59 s60 s61 s62 s63 s64 s65 s66 s67 s68 s69 s70 s71 s72 s73 s74 s75 s76 s77 s78 s79 s80 s81 s82 s83 s84 s85 s86 s87 s88 s89 s90 s91 s92 s93 s94 s95 s96 s97 s98 s99 s100 s101 s102 s103 s104 s105 s106 : Value} (B g gd N sb lb : Nat) (a : Ac) (d : Dk) (s : Stp) (bv sv tv pv qv xv yv : Value) (P L : List Pt) (w W : World) (post : Ending -> World -> Prop) (C D : Code) (hC : Tryz.f30.body.bind (findS 14) = some (.seq C D)) (K : Act -> World -> Prop)
    (hA : ArcV w B g gd a bv sv pv) (hK : DkV w B gd d) (hH : Holds N d a) (hN : N <= 38) (hB : B <= w.heap.size) (hs : StpOk s) (hp : a.pts[a.lg.steps.length]? = some P) (hm : MergeRes P s.add s.rem 0 L)
    (hb : Below w.heap.size w W) (hl : W.heap[lb]? = some (.cells #[.int .i64 a.lg.age, .int .i64 a.lg.cap, .int .i64 a.lg.first, bv, tv, .bool a.lg.sealed, .bool a.torn] 71)) (hsc : W.heap[sb]? = some (.cells #[xv, yv] 119)) (hx : OwnP W w.heap.size xv s.add) (hy : OwnI W w.heap.size yv s.rem) (hq : OwnP W w.heap.size qv L) (hss : OwnS W B tv (a.lg.steps ++ [s])) (hlb : w.heap.size <= lb)
    (HP : ∀ r w', EndPost B g gd a d s bv sv pv L w r w' -> post r w') (hK9 : ∀ a' w', Code.wp Tryz.prog D (bodyPost Tryz.prog Tryz.f30 post) a' w' -> K a' w') :
    Code.wp Tryz.prog C (Exit.then K (bodyPost Tryz.prog Tryz.f30 post)) ({ tmps := List.toArray ((.pointer (some ⟨g, 0, none⟩))::s1::s2::s3::s4::s5::(.int .i64 0)::(.int .i64 0)::qv::s9::(.pointer (some ⟨sb, 0, none⟩))::(.pointer (some ⟨lb, 0, none⟩))::s12::s13::s14::s15::s16::s17::s18::s19::s20::s21::s22::s23::s24::s25::s26::s27::s28::s29::s30::s31::s32::s33::s34::s35::s36::s37::s38::s39::s40::s41::s42::s43::s44::s45::s46::s47::s48::s49::s50::s51::s52::s53::s54::s55::s56::s57::s58::s59::s60::s61::s62::s63::s64::s65::s66::s67::s68::s69::s70::s71::s72::s73::s74::s75::s76::s77::s78::s79::s80::s81::s82::s83::s84::s85::s86::s87::s88::s89::s90::s91::s92::s93::s94::s95::s96::s97::s98::s99::s100::s101::s102::s103::s104::s105::s106::[]), defers := [] } : Act) W := by
  obtain ⟨ba, bc, hbv⟩ := OwnP.slice hA.base; obtain ⟨ta, tc, htv⟩ := hss.slice; obtain ⟨bn, hbn⟩ : ∃ n, n = a.lg.base.length := ⟨_, rfl⟩; obtain ⟨tl, htl⟩ : ∃ n, n = (a.lg.steps ++ [s]).length := ⟨_, rfl⟩; rw [<- hbn] at hbv; rw [<- htl] at htv; subst hbv htv; clear hbn htl; obtain ⟨x, hxx⟩ : ∃ x, x = a.cmtD s d := ⟨_, rfl⟩
  have HST := hid (show ∀ (tn : Bool), tn = a.torn -> Calls Tryz.prog 61 #[.pointer (some ⟨g, 0, none⟩), .agg #[.int .i64 a.lg.age, .int .i64 a.lg.cap, .int .i64 a.lg.first, .slice ba bn bc, .slice ta tl tc, .bool a.lg.sealed, .bool tn], .agg #[xv, yv]] W fun r w' => r = .returned (.int .i64 x.1) /\ DkV w' B gd x.2 /\ ArcV w' B g gd (a.done x.1 a.into) (.slice ba bn bc) sv pv /\ Chg (MA B) W w' from fun tn ht => by
    rw [ht]
    exact store_any B g gd N a d s (.slice ba bn bc) sv pv (.slice ba bn bc) (.slice ta tl tc) xv yv a.lg.sealed B W (h := ⟨by rw [hb.block g hA.lt]; exact hA.hg, hA.hB, OwnP.still hA.base hb, hA.steps.still hb, hA.pts.still hb⟩) (hk := hK.still hb) hH (by omega) (OwnP.still hA.base hb) hss (OwnR.mono hx hB) (OwnR.mono hy hB) hs (Nat.le_trans hB hb.size) x hxx)
  have HA := hid hA; have HH := hid hH; have HBB := hid hB; have HS := hid hs; have HB := hid hb; have HL := hid hl; have HQ := hid hq; have HSS := hid hss; have HLB := hid hlb; have HPO := hid HP; have HPP := hid hp; have HM := hid hm; have HXX := hid hxx; have c10 : W.cell? ⟨g, 10, none⟩ = some (.int .i64 a.file) := (hA.still hb).cell 10; have y0 : W.cell? ⟨lb, 0, none⟩ = some (.int .i64 a.lg.age) := (cell_row (j := 0) hl).trans rfl; have y1 : W.cell? ⟨lb, 1, none⟩ = some (.int .i64 a.lg.cap) := (cell_row (j := 1) hl).trans rfl; have y2 : W.cell? ⟨lb, 2, none⟩ = some (.int .i64 a.lg.first) := (cell_row (j := 2) hl).trans rfl; have y3 : W.cell? ⟨lb, 3, none⟩ = some (.slice ba bn bc) := (cell_row (j := 3) hl).trans rfl; have y4 : W.cell? ⟨lb, 4, none⟩ = some (.slice ta tl tc) := (cell_row (j := 4) hl).trans rfl; have y5 : W.cell? ⟨lb, 5, none⟩ = some (.bool a.lg.sealed) := (cell_row (j := 5) hl).trans rfl; have y6 : W.cell? ⟨lb, 6, none⟩ = some (.bool a.torn) := (cell_row (j := 6) hl).trans rfl; have z0 : W.cell? ⟨sb, 0, none⟩ = some xv := (cell_row (j := 0) hsc).trans rfl; have z1 : W.cell? ⟨sb, 1, none⟩ = some yv := (cell_row (j := 1) hsc).trans rfl; clear hA hK hH hB hs hb hl hsc hx hy hq hss hlb HP hp hm hxx; simp [findS, headR, Tryz.f30] at hC; obtain ⟨rfl, rfl⟩ := hC; obtain ⟨tn, htn⟩ : ∃ t, t = a.torn := ⟨_, rfl⟩; have HTN := hid htn; rw [<- htn] at y6; clear htn; obtain ⟨fb, hfb⟩ : ∃ b, b = decide (a.file < 0) := ⟨_, rfl⟩; have HFB := hid hfb; have d1 := hfb.symm; clear hfb
  cases fb with
  | true =>
    go_wp2_with fail; refine (HST.out tn HTN.out).mono ?_; rintro r w1 ⟨rfl, hk1, ha1, hc1⟩; have HK1 := hid hk1; have HA1 := hid ha1; have HC1 := hid hc1; clear hk1 ha1 hc1 c10 y0 y1 y2 y3 y4 y5 y6 z0 z1 d1 HST; obtain ⟨x1, hx1⟩ : ∃ z, z = x.1 := ⟨_, rfl⟩; have HX1 := hid hx1; rw [<- hx1]; clear hx1; by_cases hz : x1 ≠ 0
    · have d2 : (x1 != 0) = true := by simpa using hz
      have HZ := hid hz; clear hz; go_wp2_with fail; refine HPO.out _ _ ⟨((Chg.of_below HB.out).trans HC1.out).mono (fun k o h => .inl h), by rw [<- HXX.out]; exact HK1.out, .inr ⟨by rw [<- HXX.out, <- HX1.out]; exact HZ.out, by rw [<- HXX.out, <- HX1.out]; rfl, ?_⟩⟩; have h9 := HA1.out; rw [<- HX1.out] at h9; unfold Ac.done at h9; rw [if_neg HZ.out] at h9; exact h9
    · have hz0 : x1 = 0 := by simpa using hz
      have d2 : (x1 != 0) = false := by rw [hz0]; rfl
      clear hz
      have HA2 := hid (show ArcV w1 B g gd { a with file := a.into } (.slice ba bn bc) sv pv by
        have h9 := HA1.out; rw [<- HX1.out] at h9; unfold Ac.done at h9; rw [if_pos hz0] at h9
        exact h9)
      have HZ := hid hz0; clear hz0 HA1; have KL1 := hid (show w1.heap[lb]? = some (.cells #[.int .i64 a.lg.age, .int .i64 a.lg.cap, .int .i64 a.lg.first, .slice ba bn bc, .slice ta tl tc, .bool a.lg.sealed, .bool tn] 71) from HC1.out.block lb _ (by rw [HTN.out]; exact HL.out) (MT.not (by decide))); have HSS1 := hid (HSS.out.chg HC1.out (MA.kept B)); have HQ1 := hid (OwnP.chg HQ.out HC1.out (MA.kept B)); have HLW := hid (show w.heap.size <= w1.heap.size from Nat.le_trans HB.out.size HC1.out.size); have hag : 0 <= a.lg.age /\ a.lg.age <= 40 := by have := HH.out.young; omega
      clear HL HSS HQ; have l0 : w1.cell? ⟨lb, 0, none⟩ = some (.int .i64 a.lg.age) := (cell_row (j := 0) KL1.out).trans rfl
      have HSM := hid (show Small (a.cmt s L) by
        rcases commit_ok HH.out (by omega) HS.out HPP.out HM.out with ⟨_, h9⟩ | ⟨h9, _⟩
        · exact h9.small (by omega)
        · have e8 : x1 = (a.cmtD s d).1 := by rw [<- HXX.out]; exact HX1.out
          have e7 := HZ.out
          omega)
      have HPN := hid (show a.pts.length <= 100 by have h8 := HH.out.runs.len; have h9 := HH.out.few; omega); have HGL := hid (show g ≠ lb from fun e => by have h8 := HA.out.lt; have h9 := HLB.out; omega); have HDK := hid (show DkV w1 B gd (a.cmtD s d).2 by rw [<- HXX.out]; exact HK1.out); have HX0 := hid (show (a.cmtD s d).1 = 0 by rw [<- HXX.out, <- HX1.out]; exact HZ.out); have HDD := hid HH.out.dead; have HC11 := hid (show Chg (MC B pv) w w1 from ((Chg.of_below HB.out).trans HC1.out).mono (fun k o h => .inl h)); clear HX1 HXX HZ HK1 HC1 HB HM HPP HH HA HS; obtain ⟨pa, pc, hpv⟩ := HA2.out.pts.slice; obtain ⟨pn, hpn⟩ : ∃ n, n = a.pts.length := ⟨_, rfl⟩; rw [<- hpn] at hpv; clear hpn; subst hpv; go_upto_region 18 with fail; have hfrs : a.frs = true := by unfold Ac.frs; rw [<- HFB.out, <- HTN.out]; rfl
      have HLG := hid (show a.lgN s = ⟨a.lg.age + 1, a.lg.cap, a.lg.first, a.lg.base, a.lg.steps ++ [s], a.lg.sealed⟩ by unfold Ac.lgN; rw [hfrs]; rfl); have HCM := hid (show a.cmt s L = ⟨a.lgN s, false, a.pts ++ [L], a.c, a.into, a.dead⟩ by unfold Ac.cmt Ac.into; rw [HDD.out]); rw [HCM.out, HLG.out] at HSM; clear hfrs; go_upto_region 20 with (refine pt_store1 rfl 3 (.tmp 86) (.tmp 85) rfl lb 0 _ rfl rfl rfl rfl KL1.out size3 (by show 0 + 1 <= 7; omega) ?_); refine gen_world (fun W2 hW2 => ?_); have KL2 := hid (show W2.heap[lb]? = some (.cells #[.int .i64 (a.lg.age + 1), .int .i64 a.lg.cap, .int .i64 a.lg.first, .slice ba bn bc, .slice ta tl tc, .bool a.lg.sealed, .bool tn] 71) by rw [hW2]; exact setRow_heap _ _ _ _ _ _ KL1.out); have hf2 : Fr (fun k => k = lb) w1 W2 := by rw [hW2]; exact Fr.row
      have HF2 := hid hf2; clear hW2 hf2 l0; go_upto_region 21 with (refine pt_store1 rfl 4 (.tmp 87) (.const (.bool false)) rfl lb 6 _ rfl rfl rfl rfl KL2.out (by kernel_rfl) (by show 6 + 1 <= 7; omega) ?_); refine gen_world (fun W3 hW3 => ?_); have KL3 := hid (show W3.heap[lb]? = some (.cells #[.int .i64 (a.lg.age + 1), .int .i64 a.lg.cap, .int .i64 a.lg.first, .slice ba bn bc, .slice ta tl tc, .bool a.lg.sealed, .bool false] 71) by rw [hW3]; exact setRow_heap _ _ _ _ _ _ KL2.out); have hc3 : Chg (MT [71] w.heap.size) w1 W3 := Chg.of_fr (HF2.out.trans (show Fr (fun k => k = lb) W2 W3 by rw [hW3]; exact Fr.row) (fun k _ h => h)) (fun k o hk ho => by rw [hk, KL1.out] at ho; injection ho with ho; rw [<- ho]; exact MT.yes (by rw [hk]; exact HLB.out) (by simp)); have hK71 : Kept (MT [71] w.heap.size) := fun k C t ht => MT.not (by rcases ht with rfl | rfl | rfl <;> decide)
      have HB3 := hid (show Below w.heap.size w1 W3 from hc3.below (fun k o => MT.ge k o) HLW.out); have HA3 := hid (show ArcV W3 B g gd { a with file := a.into } (.slice ba bn bc) sv (.slice pa pn pc) from ⟨hc3.block g _ HA2.out.hg (MT.not (by decide)), HA2.out.hB, OwnP.chg HA2.out.base hc3 hK71, HA2.out.steps.chg hc3 hK71, HA2.out.pts.chg hc3 hK71 (fun k C _ => MT.not (by decide))⟩); have HQ3 := hid (OwnP.chg HQ1.out hc3 hK71); have HSS3 := hid (HSS1.out.chg hc3 hK71); have HD3 := hid (HDK.out.chg hc3 (fun k C _ => ⟨MT.not (by decide), MT.not (by decide)⟩)); have HC3 := hid (show Chg (MC B (.slice pa pn pc)) w W3 from HC11.out.past HB3.out); clear hW3 hc3 hK71 HF2 KL1 KL2 HA2 HQ1 HSS1 HDK HC11; refine commit_last B w.heap.size g gd lb { a with file := a.into } (a.lgN s) ba ta pa bn bc tl tc pn pc sv qv L W3 post _ _ (by kernel_rfl) _ HA3.out ?_ HGL.out HQ3.out HBB.out ?_ ?_ (Nat.le_trans HBB.out (Nat.le_trans HLW.out HB3.out.size)) HPN.out ?_ ?_ (by assumption)
      · rw [HLG.out]; exact KL3.out
      · rw [HLG.out]; exact HSS3.out
      · rw [HLG.out]
      · rw [HLG.out]; exact HSM.out
      · intro pv' w' ha9 hc9
        have ht9 : Chg (MT [78, 35] B) W3 w' := hc9.typed (fun k o ho h => by
          rcases h with h | h
          · obtain ⟨h1, C9, t9, fr9, e9, h9⟩ := h; exact ⟨h1, C9, t9, fr9, e9, by simp at h9 ⊢; exact .inl h9⟩
          · obtain ⟨E9, _, hE9, _⟩ := HA3.out.pts; obtain ⟨C9, hC9⟩ := own_type hE9 h.2; rw [ho] at hC9; injection hC9 with hC9
            rw [hC9]
            exact MT.yes h.1 (by simp))
        refine HPO.out _ _ ⟨HC3.out.trans (hc9.mono (fun k o h => ?_)), HD3.out.chg ht9 (fun k C hk => ⟨MT.not (by decide), MT.not (by decide)⟩), .inl ⟨HX0.out, ?_, .slice ba bn bc, .slice ta tl tc, pv', ?_⟩⟩
        · rcases h with h | h
          · obtain ⟨h1, C9, t9, fr9, e9, h9⟩ := h; exact .inl ⟨h1, C9, t9, fr9, e9, by simp at h9 ⊢; exact .inr (.inr h9)⟩
          · exact .inr h
        · rw [HLG.out]
        · rw [HCM.out]; exact ha9
  | false =>
    go_wp2_with fail; refine (HST.out tn HTN.out).mono ?_; rintro r w1 ⟨rfl, hk1, ha1, hc1⟩; have HK1 := hid hk1; have HA1 := hid ha1; have HC1 := hid hc1; clear hk1 ha1 hc1 c10 y0 y1 y2 y3 y4 y5 y6 z0 z1 d1 HST; obtain ⟨x1, hx1⟩ : ∃ z, z = x.1 := ⟨_, rfl⟩; have HX1 := hid hx1; rw [<- hx1]; clear hx1; by_cases hz : x1 ≠ 0
    · have d2 : (x1 != 0) = true := by simpa using hz
      have HZ := hid hz; clear hz; go_wp2_with fail; refine HPO.out _ _ ⟨((Chg.of_below HB.out).trans HC1.out).mono (fun k o h => .inl h), by rw [<- HXX.out]; exact HK1.out, .inr ⟨by rw [<- HXX.out, <- HX1.out]; exact HZ.out, by rw [<- HXX.out, <- HX1.out]; rfl, ?_⟩⟩; have h9 := HA1.out; rw [<- HX1.out] at h9; unfold Ac.done at h9; rw [if_neg HZ.out] at h9; exact h9
    · have hz0 : x1 = 0 := by simpa using hz
      have d2 : (x1 != 0) = false := by rw [hz0]; rfl
      clear hz
      have HA2 := hid (show ArcV w1 B g gd { a with file := a.into } (.slice ba bn bc) sv pv by
        have h9 := HA1.out; rw [<- HX1.out] at h9; unfold Ac.done at h9; rw [if_pos hz0] at h9
        exact h9)
      have HZ := hid hz0; clear hz0 HA1; have KL1 := hid (show w1.heap[lb]? = some (.cells #[.int .i64 a.lg.age, .int .i64 a.lg.cap, .int .i64 a.lg.first, .slice ba bn bc, .slice ta tl tc, .bool a.lg.sealed, .bool tn] 71) from HC1.out.block lb _ (by rw [HTN.out]; exact HL.out) (MT.not (by decide))); have HSS1 := hid (HSS.out.chg HC1.out (MA.kept B)); have HQ1 := hid (OwnP.chg HQ.out HC1.out (MA.kept B)); have HLW := hid (show w.heap.size <= w1.heap.size from Nat.le_trans HB.out.size HC1.out.size); have hag : 0 <= a.lg.age /\ a.lg.age <= 40 := by have := HH.out.young; omega
      clear HL HSS HQ; have l0 : w1.cell? ⟨lb, 0, none⟩ = some (.int .i64 a.lg.age) := (cell_row (j := 0) KL1.out).trans rfl
      have HSM := hid (show Small (a.cmt s L) by
        rcases commit_ok HH.out (by omega) HS.out HPP.out HM.out with ⟨_, h9⟩ | ⟨h9, _⟩
        · exact h9.small (by omega)
        · have e8 : x1 = (a.cmtD s d).1 := by rw [<- HXX.out]; exact HX1.out
          have e7 := HZ.out
          omega)
      have HPN := hid (show a.pts.length <= 100 by have h8 := HH.out.runs.len; have h9 := HH.out.few; omega); have HGL := hid (show g ≠ lb from fun e => by have h8 := HA.out.lt; have h9 := HLB.out; omega); have HDK := hid (show DkV w1 B gd (a.cmtD s d).2 by rw [<- HXX.out]; exact HK1.out); have HX0 := hid (show (a.cmtD s d).1 = 0 by rw [<- HXX.out, <- HX1.out]; exact HZ.out); have HDD := hid HH.out.dead; have HC11 := hid (show Chg (MC B pv) w w1 from ((Chg.of_below HB.out).trans HC1.out).mono (fun k o h => .inl h)); clear HX1 HXX HZ HK1 HC1 HB HM HPP HH HA HS; obtain ⟨pa, pc, hpv⟩ := HA2.out.pts.slice; obtain ⟨pn, hpn⟩ : ∃ n, n = a.pts.length := ⟨_, rfl⟩; rw [<- hpn] at hpv; clear hpn; subst hpv
      cases tn with
      | true =>
        go_upto_region 18 with fail; have hfrs : a.frs = true := by unfold Ac.frs; rw [<- HFB.out, <- HTN.out]; rfl
        have HLG := hid (show a.lgN s = ⟨a.lg.age + 1, a.lg.cap, a.lg.first, a.lg.base, a.lg.steps ++ [s], a.lg.sealed⟩ by unfold Ac.lgN; rw [hfrs]; rfl); have HCM := hid (show a.cmt s L = ⟨a.lgN s, false, a.pts ++ [L], a.c, a.into, a.dead⟩ by unfold Ac.cmt Ac.into; rw [HDD.out]); rw [HCM.out, HLG.out] at HSM; clear hfrs; go_upto_region 20 with (refine pt_store1 rfl 3 (.tmp 86) (.tmp 85) rfl lb 0 _ rfl rfl rfl rfl KL1.out size3 (by show 0 + 1 <= 7; omega) ?_); refine gen_world (fun W2 hW2 => ?_); have KL2 := hid (show W2.heap[lb]? = some (.cells #[.int .i64 (a.lg.age + 1), .int .i64 a.lg.cap, .int .i64 a.lg.first, .slice ba bn bc, .slice ta tl tc, .bool a.lg.sealed, .bool true] 71) by rw [hW2]; exact setRow_heap _ _ _ _ _ _ KL1.out); have hf2 : Fr (fun k => k = lb) w1 W2 := by rw [hW2]; exact Fr.row
        have HF2 := hid hf2; clear hW2 hf2 l0; go_upto_region 21 with (refine pt_store1 rfl 4 (.tmp 87) (.const (.bool false)) rfl lb 6 _ rfl rfl rfl rfl KL2.out (by kernel_rfl) (by show 6 + 1 <= 7; omega) ?_); refine gen_world (fun W3 hW3 => ?_); have KL3 := hid (show W3.heap[lb]? = some (.cells #[.int .i64 (a.lg.age + 1), .int .i64 a.lg.cap, .int .i64 a.lg.first, .slice ba bn bc, .slice ta tl tc, .bool a.lg.sealed, .bool false] 71) by rw [hW3]; exact setRow_heap _ _ _ _ _ _ KL2.out); have hc3 : Chg (MT [71] w.heap.size) w1 W3 := Chg.of_fr (HF2.out.trans (show Fr (fun k => k = lb) W2 W3 by rw [hW3]; exact Fr.row) (fun k _ h => h)) (fun k o hk ho => by rw [hk, KL1.out] at ho; injection ho with ho; rw [<- ho]; exact MT.yes (by rw [hk]; exact HLB.out) (by simp)); have hK71 : Kept (MT [71] w.heap.size) := fun k C t ht => MT.not (by rcases ht with rfl | rfl | rfl <;> decide)
        have HB3 := hid (show Below w.heap.size w1 W3 from hc3.below (fun k o => MT.ge k o) HLW.out); have HA3 := hid (show ArcV W3 B g gd { a with file := a.into } (.slice ba bn bc) sv (.slice pa pn pc) from ⟨hc3.block g _ HA2.out.hg (MT.not (by decide)), HA2.out.hB, OwnP.chg HA2.out.base hc3 hK71, HA2.out.steps.chg hc3 hK71, HA2.out.pts.chg hc3 hK71 (fun k C _ => MT.not (by decide))⟩); have HQ3 := hid (OwnP.chg HQ1.out hc3 hK71); have HSS3 := hid (HSS1.out.chg hc3 hK71); have HD3 := hid (HDK.out.chg hc3 (fun k C _ => ⟨MT.not (by decide), MT.not (by decide)⟩)); have HC3 := hid (show Chg (MC B (.slice pa pn pc)) w W3 from HC11.out.past HB3.out); clear hW3 hc3 hK71 HF2 KL1 KL2 HA2 HQ1 HSS1 HDK HC11; refine commit_last B w.heap.size g gd lb { a with file := a.into } (a.lgN s) ba ta pa bn bc tl tc pn pc sv qv L W3 post _ _ (by kernel_rfl) _ HA3.out ?_ HGL.out HQ3.out HBB.out ?_ ?_ (Nat.le_trans HBB.out (Nat.le_trans HLW.out HB3.out.size)) HPN.out ?_ ?_ (by assumption)
        · rw [HLG.out]; exact KL3.out
        · rw [HLG.out]; exact HSS3.out
        · rw [HLG.out]
        · rw [HLG.out]; exact HSM.out
        · intro pv' w' ha9 hc9
          have ht9 : Chg (MT [78, 35] B) W3 w' := hc9.typed (fun k o ho h => by
            rcases h with h | h
            · obtain ⟨h1, C9, t9, fr9, e9, h9⟩ := h; exact ⟨h1, C9, t9, fr9, e9, by simp at h9 ⊢; exact .inl h9⟩
            · obtain ⟨E9, _, hE9, _⟩ := HA3.out.pts; obtain ⟨C9, hC9⟩ := own_type hE9 h.2; rw [ho] at hC9; injection hC9 with hC9
              rw [hC9]
              exact MT.yes h.1 (by simp))
          refine HPO.out _ _ ⟨HC3.out.trans (hc9.mono (fun k o h => ?_)), HD3.out.chg ht9 (fun k C hk => ⟨MT.not (by decide), MT.not (by decide)⟩), .inl ⟨HX0.out, ?_, .slice ba bn bc, .slice ta tl tc, pv', ?_⟩⟩
          · rcases h with h | h
            · obtain ⟨h1, C9, t9, fr9, e9, h9⟩ := h; exact .inl ⟨h1, C9, t9, fr9, e9, by simp at h9 ⊢; exact .inr (.inr h9)⟩
            · exact .inr h
          · rw [HLG.out]
          · rw [HCM.out]; exact ha9
      | false =>
        go_upto_region 18 with fail; have hfrs : a.frs = false := by unfold Ac.frs; rw [<- HFB.out, <- HTN.out]; rfl
        have HLG := hid (show a.lgN s = ⟨a.lg.age, a.lg.cap, a.lg.first, a.lg.base, a.lg.steps ++ [s], a.lg.sealed⟩ by unfold Ac.lgN; rw [hfrs]; rfl); have HCM := hid (show a.cmt s L = ⟨a.lgN s, false, a.pts ++ [L], a.c, a.into, a.dead⟩ by unfold Ac.cmt Ac.into; rw [HDD.out]); rw [HCM.out, HLG.out] at HSM; clear hfrs; go_upto_region 21 with fail; clear l0; have KL3 := hid KL1.out; have HA3 := hid HA2.out; have HQ3 := hid HQ1.out; have HSS3 := hid HSS1.out; have HD3 := hid HDK.out; have HC3 := hid HC11.out; have HB3 := hid (Below.refl w.heap.size w1); clear KL1 HA2 HQ1 HSS1 HDK HC11; refine commit_last B w.heap.size g gd lb { a with file := a.into } (a.lgN s) ba ta pa bn bc tl tc pn pc sv qv L w1 post _ _ (by kernel_rfl) _ HA3.out ?_ HGL.out HQ3.out HBB.out ?_ ?_ (Nat.le_trans HBB.out (Nat.le_trans HLW.out HB3.out.size)) HPN.out ?_ ?_ (by assumption)
        · rw [HLG.out]; exact KL3.out
        · rw [HLG.out]; exact HSS3.out
        · rw [HLG.out]
        · rw [HLG.out]; exact HSM.out
        · intro pv' w' ha9 hc9
          have ht9 : Chg (MT [78, 35] B) w1 w' := hc9.typed (fun k o ho h => by
            rcases h with h | h
            · obtain ⟨h1, C9, t9, fr9, e9, h9⟩ := h; exact ⟨h1, C9, t9, fr9, e9, by simp at h9 ⊢; exact .inl h9⟩
            · obtain ⟨E9, _, hE9, _⟩ := HA3.out.pts; obtain ⟨C9, hC9⟩ := own_type hE9 h.2; rw [ho] at hC9; injection hC9 with hC9
              rw [hC9]
              exact MT.yes h.1 (by simp))
          refine HPO.out _ _ ⟨HC3.out.trans (hc9.mono (fun k o h => ?_)), HD3.out.chg ht9 (fun k C hk => ⟨MT.not (by decide), MT.not (by decide)⟩), .inl ⟨HX0.out, ?_, .slice ba bn bc, .slice ta tl tc, pv', ?_⟩⟩
          · rcases h with h | h
            · obtain ⟨h1, C9, t9, fr9, e9, h9⟩ := h; exact .inl ⟨h1, C9, t9, fr9, e9, by simp at h9 ⊢; exact .inr (.inr h9)⟩
            · exact .inr h
          · rw [HLG.out]
          · rw [HCM.out]; exact ha9
end Go.Proofs.YtcclpdfmmdonpaaGreat
