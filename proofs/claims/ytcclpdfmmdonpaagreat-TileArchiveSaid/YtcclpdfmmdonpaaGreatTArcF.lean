/- Commit (30) behind the log's copy: the store, and what it leaves. -/
import Derived.Test.YtcclpdfmmdonpaaGreatTArcG
namespace Go.Proofs.YtcclpdfmmdonpaaGreat
open Go.RowKit Go.WideShapes Go.ChangeAt Go.Maps Go.Sort
theorem xT (B g gd N:Nat) (a:Ac) (d:Dk) (s:gh) (bv sv pv bv' sv' av rv:Value) (sl:Bool) (Bs:Nat) (w:World) (h:aU w B g gd a bv sv pv) (hk:cT w B gd d) (hH:aS N d a) (hN:N<=40)
 (hlp:aq w Bs bv' a.lg.base) (hls:cF w Bs sv' (a.lg.steps++[s])) (hsp:aq w Bs av s.add) (hsi:aI w Bs rv s.rem) (hs:eJ s) (hB:B<=w.heap.size) (x:Int×Dk) (hx:x=a.cmtD s d):
 Calls Tryz.prog 61 #[.pointer (some ⟨g,0,none⟩),.agg #[.int .i64 a.lg.age,.int .i64 a.lg.cap,.int .i64 a.lg.first,bv',sv',.bool sl,.bool a.torn],.agg #[av,rv]] w fun r w'=>r=.returned (.int .i64 x.1)/\cT w' B gd x.2/\aU w' B g gd (a.done x.1 a.into) bv sv pv/\bU (MA B) w w':=by
 cases hf:a.frs with
 |true=>exact yP B g gd N a d s bv sv pv bv' sv' av rv sl Bs w h hk hH hN hlp hls hs hB x hx hf
 |false=>exact ze B g gd N a d s bv sv pv bv' sv' av rv sl Bs w h hk hH hN hsp hsi hs hB x hx hf
theorem bU.typed {M M':Nat->Obj->Prop} {W W':World} (h:bU M W W') (hM:∀k o,W.heap[k]? =some o->M k o->M' k o):bU M' W W':=
 ⟨h.os,h.tape,h.output,h.size,fun k o hk hm=>h.block k o hk (fun e=>hm (hM k o hk e))⟩
theorem bU.past {M:Nat->Obj->Prop} {W W' W'':World} (h:bU M W W') (h2:Below W.heap.size W' W''):bU M W W'':=
 ⟨h2.os.trans h.os,h2.tape.trans h.tape,h2.output.trans h.output,Nat.le_trans h.size h2.size,fun k o hk hm=>by rw[h2.block k (Array.getElem?_eq_some_iff.1 hk).1];exact h.block k o hk hm⟩
def MC (B:Nat) (pv:Value) (k:Nat) (o:Obj):Prop:=MA B k o∨(B<=k/\pv.ownBlock=some k)
def DB (B g gd:Nat) (a:Ac) (d:Dk) (s:gh) (bv sv pv:Value) (L:List Pt) (w:World) (r:Ending) (w':World):Prop:=
 bU (MC B pv) w w'/\cT w' B gd (a.cmtD s d).2 /\
  (((a.cmtD s d).1 =0/\r=.returned (.tuple #[.int .i64 (a.lg.first+a.pts.length),.int .i64 0])/\∃bv' sv' pv',aU w' B g gd (a.cmt s L) bv' sv' pv')∨
   ((a.cmtD s d).1 ≠0/\r=.returned (.tuple #[.int .i64 0,.int .i64 (a.cmtD s d).1])/\aU w' B g gd {a with dead:=true} bv sv pv))
set_option maxRecDepth 100000 in
set_option maxHeartbeats 3200000 in
theorem wm {s1 s2 s3 s4 s5 s9 s12 s13 s14 s15 s16 s17 s18 s19 s20 s21 s22 s23 s24 s25 s26 s27 s28 s29 s30 s31 s32 s33 s34 s35 s36 s37 s38 s39 s40 s41 s42 s43 s44 s45 s46 s47 s48 s49 s50 s51 s52 s53 s54 s55 s56 s57 s58 s59 s60 s61 s62 s63 s64 s65 s66 s67 s68 s69 s70 s71 s72 s73 s74 s75 s76 s77 s78 s79 s80 s81 s82 s83 s84 s85 s86 s87 s88 s89 s90 s91 s92 s93 s94 s95 s96 s97 s98 s99 s100 s101 s102 s103 s104 s105 s106:Value} (B g gd N sb lb:Nat) (a:Ac) (d:Dk) (s:gh) (bv sv tv pv qv xv yv:Value) (P L:List Pt) (w W:World) (post:Ending->World->Prop) (C D:Code) (hC:Tryz.f30.body.bind (cy 14)=some (.seq C D)) (K:Act->World->Prop)
 (hA:aU w B g gd a bv sv pv) (hK:cT w B gd d) (hH:aS N d a) (hN:N<=38) (hB:B<=w.heap.size) (hs:eJ s) (hp:a.pts[a.lg.steps.length]? =some P) (hm:aM P s.add s.rem 0 L)
 (hb:Below w.heap.size w W) (hl:W.heap[lb]? =some (.cells #[.int .i64 a.lg.age,.int .i64 a.lg.cap,.int .i64 a.lg.first,bv,tv,.bool a.lg.sealed,.bool a.torn] 71)) (hsc:W.heap[sb]? =some (.cells #[xv,yv] 119)) (hx:aq W w.heap.size xv s.add) (hy:aI W w.heap.size yv s.rem) (hq:aq W w.heap.size qv L) (hss:cF W B tv (a.lg.steps++[s])) (hlb:w.heap.size<=lb)
 (HP:∀r w',DB B g gd a d s bv sv pv L w r w'->post r w') (Et:∀a' w',Code.wp Tryz.prog D (bodyPost Tryz.prog Tryz.f30 post) a' w'->K a' w'):
 Code.wp Tryz.prog C (Exit.then K (bodyPost Tryz.prog Tryz.f30 post)) ({tmps:=List.toArray ((.pointer (some ⟨g,0,none⟩))::s1::s2::s3::s4::s5::(.int .i64 0)::(.int .i64 0)::qv::s9::(.pointer (some ⟨sb,0,none⟩))::(.pointer (some ⟨lb,0,none⟩))::s12::s13::s14::s15::s16::s17::s18::s19::s20::s21::s22::s23::s24::s25::s26::s27::s28::s29::s30::s31::s32::s33::s34::s35::s36::s37::s38::s39::s40::s41::s42::s43::s44::s45::s46::s47::s48::s49::s50::s51::s52::s53::s54::s55::s56::s57::s58::s59::s60::s61::s62::s63::s64::s65::s66::s67::s68::s69::s70::s71::s72::s73::s74::s75::s76::s77::s78::s79::s80::s81::s82::s83::s84::s85::s86::s87::s88::s89::s90::s91::s92::s93::s94::s95::s96::s97::s98::s99::s100::s101::s102::s103::s104::s105::s106::[]),defers:=[]} :Act) W:=by
 obtain⟨ba,bc,hbv⟩:=aq.slice hA.base;obtain⟨ta,tc,htv⟩:=hss.slice;obtain⟨bn,hbn⟩:∃n,n=a.lg.base.length:=⟨_,rfl⟩;obtain⟨tl,htl⟩:∃n,n=(a.lg.steps++[s]).length :=⟨_,rfl⟩;rw[<-hbn] at hbv;rw[<-htl] at htv;subst hbv htv;clear hbn htl;obtain⟨x,hxx⟩:∃x,x=a.cmtD s d:=⟨_,rfl⟩
 have HST:=ae (show ∀(tn:Bool),tn=a.torn->Calls Tryz.prog 61 #[.pointer (some ⟨g,0,none⟩),.agg #[.int .i64 a.lg.age,.int .i64 a.lg.cap,.int .i64 a.lg.first,.slice ba bn bc,.slice ta tl tc,.bool a.lg.sealed,.bool tn],.agg #[xv,yv]] W fun r w'=>r=.returned (.int .i64 x.1)/\cT w' B gd x.2/\aU w' B g gd (a.done x.1 a.into) (.slice ba bn bc) sv pv/\bU (MA B) W w' from fun tn ht=>by
  rw[ht]
  exact xT B g gd N a d s (.slice ba bn bc) sv pv (.slice ba bn bc) (.slice ta tl tc) xv yv a.lg.sealed B W (h:=⟨by rw[hb.block g hA.lt];exact hA.hg,hA.hB,aq.still hA.base hb,hA.steps.still hb,hA.pts.still hb⟩) (hk:=hK.still hb) hH (by omega) (aq.still hA.base hb) hss (al.mono hx hB) (al.mono hy hB) hs (Nat.le_trans hB hb.size) x hxx)
 have HA:=ae hA;have HH:=ae hH;have cX:=ae hB;have HS:=ae hs;have HB:=ae hb;have HL:=ae hl;have HQ:=ae hq;have sx:=ae hss;have sJ:=ae hlb;have iU:=ae HP;have An:=ae hp;have HM:=ae hm;have xb:=ae hxx;have c10:W.cell? ⟨g,10,none⟩=some (.int .i64 a.file):=(hA.still hb).cell 10;have y0:W.cell? ⟨lb,0,none⟩=some (.int .i64 a.lg.age):=(af (j:=0) hl).trans rfl;have y1:W.cell? ⟨lb,1,none⟩=some (.int .i64 a.lg.cap):=(af (j:=1) hl).trans rfl;have y2:W.cell? ⟨lb,2,none⟩=some (.int .i64 a.lg.first):=(af (j:=2) hl).trans rfl;have y3:W.cell? ⟨lb,3,none⟩=some (.slice ba bn bc):=(af (j:=3) hl).trans rfl;have y4:W.cell? ⟨lb,4,none⟩=some (.slice ta tl tc):=(af (j:=4) hl).trans rfl;have y5:W.cell? ⟨lb,5,none⟩=some (.bool a.lg.sealed):=(af (j:=5) hl).trans rfl;have y6:W.cell? ⟨lb,6,none⟩=some (.bool a.torn):=(af (j:=6) hl).trans rfl;have z0:W.cell? ⟨sb,0,none⟩=some xv:=(af (j:=0) hsc).trans rfl;have z1:W.cell? ⟨sb,1,none⟩=some yv:=(af (j:=1) hsc).trans rfl;clear hA hK hH hB hs hb hl hsc hx hy hq hss hlb HP hp hm hxx;simp[cy,eV,Tryz.f30] at hC;obtain⟨rfl,rfl⟩:=hC;obtain⟨tn,htn⟩:∃t,t=a.torn:=⟨_,rfl⟩;have rB:=ae htn;rw[<-htn] at y6;clear htn;obtain⟨fb,hfb⟩:∃b,b=decide (a.file<0):=⟨_,rfl⟩;have Nc:=ae hfb;have d1:=hfb.symm;clear hfb
 cases fb with
 |true=>
  go_wp2_with fail;refine(HST.out tn rB.out).mono ?_;rintro r w1 ⟨rfl,hk1,ha1,hc1⟩;have lT:=ae hk1;have HA1:=ae ha1;have gj:=ae hc1;clear hk1 ha1 hc1 c10 y0 y1 y2 y3 y4 y5 y6 z0 z1 d1 HST;obtain⟨x1,hx1⟩:∃z,z=x.1:=⟨_,rfl⟩;have il:=ae hx1;rw[<-hx1];clear hx1;by_cases hz:x1≠0
  ·have d2:(x1 != 0)=true:=by simpa using hz
   have HZ:=ae hz;clear hz;go_wp2_with fail;refine iU.out _ _ ⟨((bU.of_below HB.out).trans gj.out).mono (fun k o h=>.inl h),by rw[<-xb.out];exact lT.out,.inr ⟨by rw[<-xb.out,<-il.out];exact HZ.out,by rw[<-xb.out,<-il.out];rfl,?_⟩⟩;have h9:=HA1.out;rw[<-il.out] at h9;unfold Ac.done at h9;rw[if_neg HZ.out] at h9;exact h9
  ·have hz0:x1=0:=by simpa using hz
   have d2:(x1 != 0)=false:=by rw[hz0];rfl
   clear hz
   have HA2:=ae (show aU w1 B g gd {a with file:=a.into} (.slice ba bn bc) sv pv by
    have h9:=HA1.out;rw[<-il.out] at h9;unfold Ac.done at h9;rw[if_pos hz0] at h9
    exact h9)
   have HZ:=ae hz0;clear hz0 HA1;have qS:=ae (show w1.heap[lb]? =some (.cells #[.int .i64 a.lg.age,.int .i64 a.lg.cap,.int .i64 a.lg.first,.slice ba bn bc,.slice ta tl tc,.bool a.lg.sealed,.bool tn] 71) from gj.out.block lb _ (by rw[rB.out];exact HL.out) (MT.not (by decide)));have pz:=ae (sx.out.chg gj.out (MA.kept B));have qK:=ae (aq.chg HQ.out gj.out (MA.kept B));have Ch:=ae (show w.heap.size<=w1.heap.size from Nat.le_trans HB.out.size gj.out.size);have hag:0<=a.lg.age/\a.lg.age<=40:=by have:=HH.out.young;omega
   clear HL sx HQ;have l0:w1.cell? ⟨lb,0,none⟩=some (.int .i64 a.lg.age):=(af (j:=0) qS.out).trans rfl
   have mX:=ae (show eW (a.cmt s L) by
    rcases lI HH.out (by omega) HS.out An.out HM.out with⟨_,h9⟩ | ⟨h9,_⟩
    ·exact h9.small (by omega)
    ·have e8:x1=(a.cmtD s d).1 :=by rw[<-xb.out];exact il.out
     have e7:=HZ.out
     omega)
   have CT:=ae (show a.pts.length<=100 by have h8:=HH.out.runs.len;have h9:=HH.out.few;omega);have If:=ae (show g≠lb from fun e=>by have h8:=HA.out.lt;have h9:=sJ.out;omega);have HDK:=ae (show cT w1 B gd (a.cmtD s d).2 by rw[<-xb.out];exact lT.out);have HX0:=ae (show(a.cmtD s d).1 =0 by rw[<-xb.out,<-il.out];exact HZ.out);have GG:=ae HH.out.dead;have rk:=ae (show bU (MC B pv) w w1 from((bU.of_below HB.out).trans gj.out).mono (fun k o h=>.inl h));clear il xb HZ lT gj HB HM An HH HA HS;obtain⟨pa,pc,hpv⟩:=HA2.out.pts.slice;obtain⟨pn,hpn⟩:∃n,n=a.pts.length:=⟨_,rfl⟩;rw[<-hpn] at hpv;clear hpn;subst hpv;go_upto_region 18 with fail;have hfrs:a.frs=true:=by unfold Ac.frs;rw[<-Nc.out,<-rB.out];rfl
   have nC:=ae (show a.lgN s=⟨a.lg.age+1,a.lg.cap,a.lg.first,a.lg.base,a.lg.steps++[s],a.lg.sealed⟩ by unfold Ac.lgN;rw[hfrs];rfl);have HCM:=ae (show a.cmt s L=⟨a.lgN s,false,a.pts++[L],a.c,a.into,a.dead⟩ by unfold Ac.cmt Ac.into;rw[GG.out]);rw[HCM.out,nC.out] at mX;clear hfrs;go_upto_region 20 with(refine bC rfl 3 (.tmp 86) (.tmp 85) rfl lb 0 _ rfl rfl rfl rfl qS.out ml (by show 0+1<=7;omega) ?_);refine au (fun W2 hW2=>?_);have Dy:=ae (show W2.heap[lb]? =some (.cells #[.int .i64 (a.lg.age+1),.int .i64 a.lg.cap,.int .i64 a.lg.first,.slice ba bn bc,.slice ta tl tc,.bool a.lg.sealed,.bool tn] 71) by rw[hW2];exact setRow_heap _ _ _ _ _ _ qS.out);have hf2:Fr (fun k=>k=lb) w1 W2:=by rw[hW2];exact Fr.row
   have qU:=ae hf2;clear hW2 hf2 l0;go_upto_region 21 with(refine bC rfl 4 (.tmp 87) (.const (.bool false)) rfl lb 6 _ rfl rfl rfl rfl Dy.out (by kernel_rfl) (by show 6+1<=7;omega) ?_);refine au (fun W3 hW3=>?_);have Jr:=ae (show W3.heap[lb]? =some (.cells #[.int .i64 (a.lg.age+1),.int .i64 a.lg.cap,.int .i64 a.lg.first,.slice ba bn bc,.slice ta tl tc,.bool a.lg.sealed,.bool false] 71) by rw[hW3];exact setRow_heap _ _ _ _ _ _ Dy.out);have hc3:bU (MT [71] w.heap.size) w1 W3:=bU.of_fr (qU.out.trans (show Fr (fun k=>k=lb) W2 W3 by rw[hW3];exact Fr.row) (fun k _ h=>h)) (fun k o hk ho=>by rw[hk,qS.out] at ho;injection ho with ho;rw[<-ho];exact MT.yes (by rw[hk];exact sJ.out) (by simp));have iH:iq (MT [71] w.heap.size):=fun k C t ht=>MT.not (by rcases ht with rfl|rfl|rfl<;>decide)
   have HB3:=ae (show Below w.heap.size w1 W3 from hc3.below (fun k o=>MT.ge k o) Ch.out);have gA:=ae (show aU W3 B g gd {a with file:=a.into} (.slice ba bn bc) sv (.slice pa pn pc) from⟨hc3.block g _ HA2.out.hg (MT.not (by decide)),HA2.out.hB,aq.chg HA2.out.base hc3 iH,HA2.out.steps.chg hc3 iH,HA2.out.pts.chg hc3 iH (fun k C _=>MT.not (by decide))⟩);have JR:=ae (aq.chg qK.out hc3 iH);have Bt:=ae (pz.out.chg hc3 iH);have HD3:=ae (HDK.out.chg hc3 (fun k C _=>⟨MT.not (by decide),MT.not (by decide)⟩));have qb:=ae (show bU (MC B (.slice pa pn pc)) w W3 from rk.out.past HB3.out);clear hW3 hc3 iH qU qS Dy HA2 qK pz HDK rk;refine jf B w.heap.size g gd lb {a with file:=a.into} (a.lgN s) ba ta pa bn bc tl tc pn pc sv qv L W3 post _ _ (by kernel_rfl) _ gA.out ?_ If.out JR.out cX.out ?_ ?_ (Nat.le_trans cX.out (Nat.le_trans Ch.out HB3.out.size)) CT.out ?_ ?_ (by assumption)
   ·rw[nC.out];exact Jr.out
   ·rw[nC.out];exact Bt.out
   ·rw[nC.out]
   ·rw[nC.out];exact mX.out
   ·intro pv' w' j5 gH
    have JA:bU (MT [78,35] B) W3 w':=gH.typed (fun k o ho h=>by
     rcases h with h|h
     ·obtain⟨h1,C9,t9,fr9,e9,h9⟩:=h;exact⟨h1,C9,t9,fr9,e9,by simp at h9⊢;exact .inl h9⟩
     ·obtain⟨E9,_,Gq,_⟩:=gA.out.pts;obtain⟨C9,eh⟩:=bo Gq h.2;rw[ho] at eh;injection eh with eh
      rw[eh]
      exact MT.yes h.1 (by simp))
    refine iU.out _ _ ⟨qb.out.trans (gH.mono (fun k o h=>?_)),HD3.out.chg JA (fun k C hk=>⟨MT.not (by decide),MT.not (by decide)⟩),.inl ⟨HX0.out,?_,.slice ba bn bc,.slice ta tl tc,pv',?_⟩⟩
    ·rcases h with h|h
     ·obtain⟨h1,C9,t9,fr9,e9,h9⟩:=h;exact .inl ⟨h1,C9,t9,fr9,e9,by simp at h9⊢;exact .inr (.inr h9)⟩
     ·exact .inr h
    ·rw[nC.out]
    ·rw[HCM.out];exact j5
 |false=>
  go_wp2_with fail;refine(HST.out tn rB.out).mono ?_;rintro r w1 ⟨rfl,hk1,ha1,hc1⟩;have lT:=ae hk1;have HA1:=ae ha1;have gj:=ae hc1;clear hk1 ha1 hc1 c10 y0 y1 y2 y3 y4 y5 y6 z0 z1 d1 HST;obtain⟨x1,hx1⟩:∃z,z=x.1:=⟨_,rfl⟩;have il:=ae hx1;rw[<-hx1];clear hx1;by_cases hz:x1≠0
  ·have d2:(x1 != 0)=true:=by simpa using hz
   have HZ:=ae hz;clear hz;go_wp2_with fail;refine iU.out _ _ ⟨((bU.of_below HB.out).trans gj.out).mono (fun k o h=>.inl h),by rw[<-xb.out];exact lT.out,.inr ⟨by rw[<-xb.out,<-il.out];exact HZ.out,by rw[<-xb.out,<-il.out];rfl,?_⟩⟩;have h9:=HA1.out;rw[<-il.out] at h9;unfold Ac.done at h9;rw[if_neg HZ.out] at h9;exact h9
  ·have hz0:x1=0:=by simpa using hz
   have d2:(x1 != 0)=false:=by rw[hz0];rfl
   clear hz
   have HA2:=ae (show aU w1 B g gd {a with file:=a.into} (.slice ba bn bc) sv pv by
    have h9:=HA1.out;rw[<-il.out] at h9;unfold Ac.done at h9;rw[if_pos hz0] at h9
    exact h9)
   have HZ:=ae hz0;clear hz0 HA1;have qS:=ae (show w1.heap[lb]? =some (.cells #[.int .i64 a.lg.age,.int .i64 a.lg.cap,.int .i64 a.lg.first,.slice ba bn bc,.slice ta tl tc,.bool a.lg.sealed,.bool tn] 71) from gj.out.block lb _ (by rw[rB.out];exact HL.out) (MT.not (by decide)));have pz:=ae (sx.out.chg gj.out (MA.kept B));have qK:=ae (aq.chg HQ.out gj.out (MA.kept B));have Ch:=ae (show w.heap.size<=w1.heap.size from Nat.le_trans HB.out.size gj.out.size);have hag:0<=a.lg.age/\a.lg.age<=40:=by have:=HH.out.young;omega
   clear HL sx HQ;have l0:w1.cell? ⟨lb,0,none⟩=some (.int .i64 a.lg.age):=(af (j:=0) qS.out).trans rfl
   have mX:=ae (show eW (a.cmt s L) by
    rcases lI HH.out (by omega) HS.out An.out HM.out with⟨_,h9⟩ | ⟨h9,_⟩
    ·exact h9.small (by omega)
    ·have e8:x1=(a.cmtD s d).1 :=by rw[<-xb.out];exact il.out
     have e7:=HZ.out
     omega)
   have CT:=ae (show a.pts.length<=100 by have h8:=HH.out.runs.len;have h9:=HH.out.few;omega);have If:=ae (show g≠lb from fun e=>by have h8:=HA.out.lt;have h9:=sJ.out;omega);have HDK:=ae (show cT w1 B gd (a.cmtD s d).2 by rw[<-xb.out];exact lT.out);have HX0:=ae (show(a.cmtD s d).1 =0 by rw[<-xb.out,<-il.out];exact HZ.out);have GG:=ae HH.out.dead;have rk:=ae (show bU (MC B pv) w w1 from((bU.of_below HB.out).trans gj.out).mono (fun k o h=>.inl h));clear il xb HZ lT gj HB HM An HH HA HS;obtain⟨pa,pc,hpv⟩:=HA2.out.pts.slice;obtain⟨pn,hpn⟩:∃n,n=a.pts.length:=⟨_,rfl⟩;rw[<-hpn] at hpv;clear hpn;subst hpv
   cases tn with
   |true=>
    go_upto_region 18 with fail;have hfrs:a.frs=true:=by unfold Ac.frs;rw[<-Nc.out,<-rB.out];rfl
    have nC:=ae (show a.lgN s=⟨a.lg.age+1,a.lg.cap,a.lg.first,a.lg.base,a.lg.steps++[s],a.lg.sealed⟩ by unfold Ac.lgN;rw[hfrs];rfl);have HCM:=ae (show a.cmt s L=⟨a.lgN s,false,a.pts++[L],a.c,a.into,a.dead⟩ by unfold Ac.cmt Ac.into;rw[GG.out]);rw[HCM.out,nC.out] at mX;clear hfrs;go_upto_region 20 with(refine bC rfl 3 (.tmp 86) (.tmp 85) rfl lb 0 _ rfl rfl rfl rfl qS.out ml (by show 0+1<=7;omega) ?_);refine au (fun W2 hW2=>?_);have Dy:=ae (show W2.heap[lb]? =some (.cells #[.int .i64 (a.lg.age+1),.int .i64 a.lg.cap,.int .i64 a.lg.first,.slice ba bn bc,.slice ta tl tc,.bool a.lg.sealed,.bool true] 71) by rw[hW2];exact setRow_heap _ _ _ _ _ _ qS.out);have hf2:Fr (fun k=>k=lb) w1 W2:=by rw[hW2];exact Fr.row
    have qU:=ae hf2;clear hW2 hf2 l0;go_upto_region 21 with(refine bC rfl 4 (.tmp 87) (.const (.bool false)) rfl lb 6 _ rfl rfl rfl rfl Dy.out (by kernel_rfl) (by show 6+1<=7;omega) ?_);refine au (fun W3 hW3=>?_);have Jr:=ae (show W3.heap[lb]? =some (.cells #[.int .i64 (a.lg.age+1),.int .i64 a.lg.cap,.int .i64 a.lg.first,.slice ba bn bc,.slice ta tl tc,.bool a.lg.sealed,.bool false] 71) by rw[hW3];exact setRow_heap _ _ _ _ _ _ Dy.out);have hc3:bU (MT [71] w.heap.size) w1 W3:=bU.of_fr (qU.out.trans (show Fr (fun k=>k=lb) W2 W3 by rw[hW3];exact Fr.row) (fun k _ h=>h)) (fun k o hk ho=>by rw[hk,qS.out] at ho;injection ho with ho;rw[<-ho];exact MT.yes (by rw[hk];exact sJ.out) (by simp));have iH:iq (MT [71] w.heap.size):=fun k C t ht=>MT.not (by rcases ht with rfl|rfl|rfl<;>decide)
    have HB3:=ae (show Below w.heap.size w1 W3 from hc3.below (fun k o=>MT.ge k o) Ch.out);have gA:=ae (show aU W3 B g gd {a with file:=a.into} (.slice ba bn bc) sv (.slice pa pn pc) from⟨hc3.block g _ HA2.out.hg (MT.not (by decide)),HA2.out.hB,aq.chg HA2.out.base hc3 iH,HA2.out.steps.chg hc3 iH,HA2.out.pts.chg hc3 iH (fun k C _=>MT.not (by decide))⟩);have JR:=ae (aq.chg qK.out hc3 iH);have Bt:=ae (pz.out.chg hc3 iH);have HD3:=ae (HDK.out.chg hc3 (fun k C _=>⟨MT.not (by decide),MT.not (by decide)⟩));have qb:=ae (show bU (MC B (.slice pa pn pc)) w W3 from rk.out.past HB3.out);clear hW3 hc3 iH qU qS Dy HA2 qK pz HDK rk;refine jf B w.heap.size g gd lb {a with file:=a.into} (a.lgN s) ba ta pa bn bc tl tc pn pc sv qv L W3 post _ _ (by kernel_rfl) _ gA.out ?_ If.out JR.out cX.out ?_ ?_ (Nat.le_trans cX.out (Nat.le_trans Ch.out HB3.out.size)) CT.out ?_ ?_ (by assumption)
    ·rw[nC.out];exact Jr.out
    ·rw[nC.out];exact Bt.out
    ·rw[nC.out]
    ·rw[nC.out];exact mX.out
    ·intro pv' w' j5 gH
     have JA:bU (MT [78,35] B) W3 w':=gH.typed (fun k o ho h=>by
      rcases h with h|h
      ·obtain⟨h1,C9,t9,fr9,e9,h9⟩:=h;exact⟨h1,C9,t9,fr9,e9,by simp at h9⊢;exact .inl h9⟩
      ·obtain⟨E9,_,Gq,_⟩:=gA.out.pts;obtain⟨C9,eh⟩:=bo Gq h.2;rw[ho] at eh;injection eh with eh
       rw[eh]
       exact MT.yes h.1 (by simp))
     refine iU.out _ _ ⟨qb.out.trans (gH.mono (fun k o h=>?_)),HD3.out.chg JA (fun k C hk=>⟨MT.not (by decide),MT.not (by decide)⟩),.inl ⟨HX0.out,?_,.slice ba bn bc,.slice ta tl tc,pv',?_⟩⟩
     ·rcases h with h|h
      ·obtain⟨h1,C9,t9,fr9,e9,h9⟩:=h;exact .inl ⟨h1,C9,t9,fr9,e9,by simp at h9⊢;exact .inr (.inr h9)⟩
      ·exact .inr h
     ·rw[nC.out]
     ·rw[HCM.out];exact j5
   |false=>
    go_upto_region 18 with fail;have hfrs:a.frs=false:=by unfold Ac.frs;rw[<-Nc.out,<-rB.out];rfl
    have nC:=ae (show a.lgN s=⟨a.lg.age,a.lg.cap,a.lg.first,a.lg.base,a.lg.steps++[s],a.lg.sealed⟩ by unfold Ac.lgN;rw[hfrs];rfl);have HCM:=ae (show a.cmt s L=⟨a.lgN s,false,a.pts++[L],a.c,a.into,a.dead⟩ by unfold Ac.cmt Ac.into;rw[GG.out]);rw[HCM.out,nC.out] at mX;clear hfrs;go_upto_region 21 with fail;clear l0;have Jr:=ae qS.out;have gA:=ae HA2.out;have JR:=ae qK.out;have Bt:=ae pz.out;have HD3:=ae HDK.out;have qb:=ae rk.out;have HB3:=ae (Below.refl w.heap.size w1);clear qS HA2 qK pz HDK rk;refine jf B w.heap.size g gd lb {a with file:=a.into} (a.lgN s) ba ta pa bn bc tl tc pn pc sv qv L w1 post _ _ (by kernel_rfl) _ gA.out ?_ If.out JR.out cX.out ?_ ?_ (Nat.le_trans cX.out (Nat.le_trans Ch.out HB3.out.size)) CT.out ?_ ?_ (by assumption)
    ·rw[nC.out];exact Jr.out
    ·rw[nC.out];exact Bt.out
    ·rw[nC.out]
    ·rw[nC.out];exact mX.out
    ·intro pv' w' j5 gH
     have JA:bU (MT [78,35] B) w1 w':=gH.typed (fun k o ho h=>by
      rcases h with h|h
      ·obtain⟨h1,C9,t9,fr9,e9,h9⟩:=h;exact⟨h1,C9,t9,fr9,e9,by simp at h9⊢;exact .inl h9⟩
      ·obtain⟨E9,_,Gq,_⟩:=gA.out.pts;obtain⟨C9,eh⟩:=bo Gq h.2;rw[ho] at eh;injection eh with eh
       rw[eh]
       exact MT.yes h.1 (by simp))
     refine iU.out _ _ ⟨qb.out.trans (gH.mono (fun k o h=>?_)),HD3.out.chg JA (fun k C hk=>⟨MT.not (by decide),MT.not (by decide)⟩),.inl ⟨HX0.out,?_,.slice ba bn bc,.slice ta tl tc,pv',?_⟩⟩
     ·rcases h with h|h
      ·obtain⟨h1,C9,t9,fr9,e9,h9⟩:=h;exact .inl ⟨h1,C9,t9,fr9,e9,by simp at h9⊢;exact .inr (.inr h9)⟩
      ·exact .inr h
     ·rw[nC.out]
     ·rw[HCM.out];exact j5
end Go.Proofs.YtcclpdfmmdonpaaGreat
