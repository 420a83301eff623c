/- TileArchive: what an archive has after every script of calls. -/
import Derived.Test.YtcclpdfmmdonpaaGreatTStpH
namespace Go.Proofs.YtcclpdfmmdonpaaGreat
set_option maxHeartbeats 3200000
set_option maxRecDepth 100000
open Go.RowKit Go.WideShapes Go.ChangeAt Go.Maps Go.Sort
structure Sp where
 kd:Int
 v:Int
 u:Int
 av:Value
 rw:Value
 A:List Pt
 R:List Int
 k0:Int
 k1:Int
def Sp.row (p:Sp):List Value:=[.int .i64 p.kd,.int .i64 p.v,.int .i64 p.u,p.av,p.rw,.int .i64 p.k0,.int .i64 p.k1]
structure DH (W:World) (p:Sp):Prop where
 add:cj W p.av p.A
 add0:ip p.av
 addn:p.A.length<=maxLen
 rem:fi W p.rw p.R
 rem0:ip p.rw
 remn:p.R.length<=maxLen
 wf:∀z∈p.R,(Lit.int .i64 z).wf =true
 v2:p.v<=9223372036854775807
 u2:p.u<=9223372036854775807
theorem EE (kd v u k0 k1:Int) (aa ra:Option Addr) (an ac rn rc:Nat) (w:World) (ha:an<=maxLen) (hr:rn<=maxLen):
 Calls Tryz.prog 16 #[.agg #[.int .i64 kd,.int .i64 v,.int .i64 u,.slice aa an ac,.slice ra rn rc,.int .i64 k0,.int .i64 k1]] w fun r w'=>r=.returned (.bool (decide (12<an) || decide (12<rn)))/\Below w.heap.size w w':=by
 obtain⟨x,hx0⟩:∃x,x=decide ((12:Int)<(an:Int)):=⟨_,rfl⟩;obtain⟨y,hy0⟩:∃y,y=decide ((12:Int)<(rn:Int)):=⟨_,rfl⟩;have e1:decide (12<an)=x:=by rw[hx0];exact decide_eq_decide.2 (by omega)
 have e2:decide (12<rn)=y:=by rw[hy0];exact decide_eq_decide.2 (by omega)
 rw[e1,e2];clear e1 e2;have hx:=hx0.symm;have hy:=hy0.symm;clear hx0 hy0;have ha2:(an:Int)<=9223372036854775807:=by unfold maxLen at ha;omega
 have hr2:(rn:Int)<=9223372036854775807:=by unfold maxLen at hr;omega
 clear ha hr
 cases x<;>cases y
 all_goals
  go_enter Tryz.func16,Tryz.ntmps16;go_upto_region 1 with fail;refine au (fun W1 hW1=>?_);have KB:=ae (show W1.heap[w.heap.size]? =some (.cells #[.int .i64 kd,.int .i64 v,.int .i64 u,.slice aa an ac,.slice ra rn rc,.int .i64 k0,.int .i64 k1] 54) by rw[hW1];exact(by repeat' (first| (refine ai _ _ _ ?_;(first|rfl| (simp;done) | (simp;omega))) | (refine am _ _ _ _ ?_))));have HB1:=ae (show Below w.heap.size w W1 by rw[hW1];(focus ((repeat' (first| (with_reducible first|exact Below.refl _ _|assumption|refine Below.alloc ?_ ?_ _|refine Below.drew ?_ |refine below_drewN ?_ _|refine Below.setCell ?_ ?_ _|refine below_setRow ?_ ?_ _) |go_size));done)));clear hW1;have b3:W1.cell? ⟨w.heap.size,3,none⟩=some (.slice aa an ac):=(af (j:=3) KB.out).trans rfl;have b4:W1.cell? ⟨w.heap.size,4,none⟩=some (.slice ra rn rc):=(af (j:=4) KB.out).trans rfl;go_wp2_with fail;go_ret;exact⟨rfl,HB1.out⟩
def IY (w:World) (gd bb n:Nat) (c:Int) (iv av:Value) (W:World):Prop:=
 ∃(i g:Nat) (a:Ac) (d:Dk) (bv sv pv vv rv:Value),i<=n/\iv=.int .i64 (i:Int)/\av=.pointer (some ⟨g,0,none⟩)/\pf W w.heap.size g gd bb (2*i) a d bv sv pv vv rv/\a.c=c/\d.lf=0/\Below w.heap.size w W
theorem tQ (c:Int) (a:Option Addr) (cap:Nat) (L:List Sp) (w:World) (hcw: -9223372036854775808<=c/\c<=9223372036854775807)
 (hel:∀i p,L[i]? =some p->(∃b off,a=some ⟨b,off,none⟩/\b<w.heap.size/\∀j,j<7->w.cell? ⟨b,off+i*7+j,none⟩=p.row[j]?)/\DH w p):
 Calls Tryz.prog 4 #[.int .i64 c,.slice a L.length cap] w fun r w'=>r=.returned (.bool true)/\Below w.heap.size w w':=by
 have jB:=ae hel;clear hel;by_cases hbig:12<L.length
 ·have d0:decide ((12:Int)<(L.length:Int))=true:=decide_eq_true (by omega);generalize L.length=n at*;go_enter Tryz.func4,Tryz.ntmps4;go_wp2_with fail;refine(gW _).mono ?_;rintro r w1 ⟨rfl,hb⟩;go_wp2_with fail;go_ret;exact⟨rfl,hb⟩
 have d0:decide ((12:Int)<(L.length:Int))=false:=decide_eq_false (by omega);obtain⟨n,hn⟩:∃n,n=L.length:=⟨_,rfl⟩;rw[<-hn] at d0 hbig⊢;have js:=ae hn;clear hn;have LI:n<=12:=by omega
 clear hbig;by_cases hout:c<1∨64<c
 ·have HO:=ae hout;clear jB;obtain⟨x,hx⟩:∃x,x=decide (c<1):=⟨_,rfl⟩;have HX:=ae hx;have d1:=hx.symm;clear hout hx
  cases x
  all_goals
   have d2:decide (64<c)= !(decide (c<1)):=by
    have h1:=HO.out;by_cases h2:c<1
    ·rw[decide_eq_true h2,decide_eq_false (by omega)];rfl
    ·rw[decide_eq_false h2,decide_eq_true (by omega)];rfl
   rw[<-HX.out] at d2;simp only[Bool.not_true,Bool.not_false] at d2;go_enter Tryz.func4,Tryz.ntmps4;go_wp2_with fail;refine(xq _).mono ?_;rintro r w1 ⟨rfl,hd,hb⟩;have HD1:=ae hd;have HB1:=ae hb;clear hd hb;go_wp2_with fail;refine(AU _ _ _ c w1 HD1.out HO.out).mono ?_;rintro r w2 ⟨rfl,hb2⟩;have HB2:=ae (HB1.out.trans (hb2.mono HB1.out.size));clear hb2;go_wp2_with fail;refine(gW _).mono ?_;rintro r w3 ⟨rfl,hb3⟩;go_wp2_with fail;go_ret;exact⟨rfl,HB2.out.trans (hb3.mono HB2.out.size)⟩
 have hin:1<=c/\c<=64:=by omega
 have d1:decide (c<1)=false:=decide_eq_false (by omega);have d2:decide (64<c)=false:=decide_eq_false (by omega);clear hout hcw;go_enter Tryz.func4,Tryz.ntmps4;go_wp2_with fail;refine(xq _).mono ?_;rintro r w1 ⟨rfl,hd,hb⟩;have HD1:=ae hd;have HB1:=ae hb;clear hd hb;go_wp2_with fail;refine(wZ _ _ 0 Dk.new (Ac.empty c) c w1 HD1.out (yW hin.1 hin.2) (by omega) rfl).mono ?_;rintro r w2 ⟨⟨ga,bv,sv,pv,a0,rfl,ha2,It,hp2,hf2,hc2⟩,hb2⟩;have HA2:=ae ha2;have ut:=ae It;have DL:=ae hp2;have qU:=ae hf2;have eS:=ae hc2;have HD2:=ae (HD1.out.still hb2);have HB2:=ae (HB1.out.trans (hb2.mono HB1.out.size));have HW1:=ae HB1.out.size;clear ha2 It hp2 hf2 hc2 hb2 HD1 HB1;go_wp2_with fail;refine(Cq c w2).mono ?_;rintro r w3 ⟨⟨vv,rv,rfl,hv3,hr3⟩,hb3⟩;have Ly:=ae hv3;have HR3:=ae hr3;obtain⟨va,vc,hvv⟩:=al.slice hv3;obtain⟨vn,hvn⟩:∃z,z=((aT 0 1).map bB).length :=⟨_,rfl⟩;rw[<-hvn] at hvv;subst hvv;clear hvn;obtain⟨ra,rc,hrv⟩:=hr3.slice;obtain⟨rn,hrn⟩:∃z,z=([[]]:List (List Pt)).length :=⟨_,rfl⟩;rw[<-hrn] at hrv;subst hrv;clear hrn;have HB3:=ae (HB2.out.trans (hb3.mono HB2.out.size));have gA:=ae (HA2.out.still hb3);have HD3:=ae (HD2.out.still hb3);have MK:=ae hb3.size;clear hv3 hr3 hb3 HD2;unfold eI;go_upto_region 8 with(refine aR rfl 33 (.tmp 8) (.tmp 41) rfl rfl rfl rfl dE rfl rfl rfl ?_);refine au (fun W4 xz=>?_);have sk:=ae (show W4.heap[w3.heap.size]? =some (.cells #[.int .i64 c,.slice va vn vc,.slice ra rn rc] 33) by rw[xz];exact(by repeat' (first| (refine ai _ _ _ ?_;(first|rfl| (simp;done) | (simp;omega))) | (refine am _ _ _ _ ?_))));have i5:=ae (show Below w3.heap.size w3 W4 by rw[xz];(focus ((repeat' (first| (with_reducible first|exact Below.refl _ _|assumption|refine Below.alloc ?_ ?_ _|refine Below.drew ?_ |refine below_drewN ?_ _|refine Below.setCell ?_ ?_ _|refine below_setRow ?_ ?_ _) |go_size));done)));clear xz
 have HST:=ae (show pf W4 w.heap.size ga w.heap.size w3.heap.size 0 a0 Dk.new bv sv pv (.slice va vn vc) (.slice ra rn rc) from by
  have hw1:=HW1.out;have hw2:=HB2.out.size;have hw3:=HB3.out.size;refine⟨(gA.out.still i5.out).mono hw1,HD3.out.still i5.out,ut.out,?_,hw3,?_,?_,?_,Nat.le_trans hw3 i5.out.size⟩
  ·show W4.heap[w3.heap.size]? =some (.cells #[.int .i64 a0.c,_,_] 33);rw[eS.out];exact sk.out
  ·rw[qU.out,DL.out];exact al.mono (al.grow Ly.out i5.out) hw2
  ·rw[DL.out];exact(HR3.out.still i5.out).mono hw2
  ·intro k hk hk2;obtain⟨E9,_,h9,_⟩:=HR3.out;have h1:=al.ownBlock h9 k hk;obtain⟨E8,_,h8,_⟩:=HA2.out.pts;obtain⟨C8,h7⟩:=bo h8 hk2;have:=(Array.getElem?_eq_some_iff.1 h7).1
   omega)
 have OC:=ae (show a0.c=c from eS.out);have bm:=ae (HB3.out.trans (i5.out.mono HB3.out.size));clear HA2 ut DL qU eS HW1 Ly HR3 HB3 gA HD3 MK i5 HB2;obtain⟨bb,hbb⟩:∃z,z=w3.heap.size:=⟨_,rfl⟩;rw[<-hbb] at sk HST⊢;clear hbb;have b0:W4.cell? ⟨bb,0,none⟩=some (.int .i64 c):=(af (j:=0) sk.out).trans rfl;have b1:W4.cell? ⟨bb,1,none⟩=some (.slice va vn vc):=(af (j:=1) sk.out).trans rfl;have b2:W4.cell? ⟨bb,2,none⟩=some (.slice ra rn rc):=(af (j:=2) sk.out).trans rfl;go_wp2_with fail;refine(pZ _ _ ga w.heap.size a0 bv sv pv _ _ c W4 HST.out.arc (HST.out.small (by omega)) HST.out.vs HST.out.ps (by have:=HST.out.pos;omega)).mono ?_;rintro r w5 ⟨rfl,hb5⟩;have xr:=ae (HST.out.still hb5);have dQ:=ae (bm.out.trans (hb5.mono bm.out.size));clear hb5 b0 b1 b2 HST sk bm;go_wp2_with fail
 go_loopw [56,6] (IY w w.heap.size bb n c) (fun iv _ _=>n-(intOf iv).toNat)
 case atStart=>exact⟨0,ga,a0,Dk.new,bv,sv,pv,_,_,by omega,rfl,rfl,xr.out,OC.out,rfl,dQ.out⟩
 case round=>
  obtain⟨i,g,a1,d1',bv1,sv1,pv1,vv1,rv1,hi,rfl,rfl,hS,hac,hlf,hB⟩:=hrel;have HS:=ae hS;have GR:=ae hac;have wk:=ae hlf;have HB:=ae hB;clear hS hac hlf hB xr dQ OC;by_cases hlt:i<n
  ·have e3:decide ((i:Int)<(n:Int))=true:=decide_eq_true (by omega);obtain⟨p,hp⟩:∃p,L[i]? =some p:=⟨L[i]'(by rw[<-js.out];exact hlt),List.getElem?_eq_getElem _⟩;obtain⟨⟨b,off,rfl,hb,hcell⟩,hok⟩:=jB.out i p hp;clear hp;obtain⟨kd,v,u,av,rw,A,R,k0,k1⟩:=p;have fz:=ae hok;obtain⟨aa,ac,hav,_⟩:=hok.add;obtain⟨ra1,rc1,hrw,_⟩:=hok.rem;simp only at hav hrw;obtain⟨an,han⟩:∃z,z=A.length:=⟨_,rfl⟩;obtain⟨rn1,hrn⟩:∃z,z=R.length:=⟨_,rfl⟩;rw[<-han] at hav;rw[<-hrn] at hrw;subst hav hrw;have Dp:=ae han;have C3:=ae hrn;have ham:an<=maxLen:=by rw[han];exact hok.addn
   have hrm:rn1<=maxLen:=by rw[hrn];exact hok.remn
   have x0:wr.cell? ⟨b,off+i*7,none⟩=some (.int .i64 kd):=by rw[HB.out.cell hb];exact hcell 0 (by omega)
   have x1:wr.cell? ⟨b,off+i*7+1,none⟩=some (.int .i64 v):=by rw[HB.out.cell hb];exact hcell 1 (by omega)
   have x2:wr.cell? ⟨b,off+i*7+2,none⟩=some (.int .i64 u):=by rw[HB.out.cell hb];exact hcell 2 (by omega)
   have x3:wr.cell? ⟨b,off+i*7+3,none⟩=some (.slice aa an ac):=by rw[HB.out.cell hb];exact hcell 3 (by omega)
   have x4:wr.cell? ⟨b,off+i*7+4,none⟩=some (.slice ra1 rn1 rc1):=by rw[HB.out.cell hb];exact hcell 4 (by omega)
   have x5:wr.cell? ⟨b,off+i*7+5,none⟩=some (.int .i64 k0):=by rw[HB.out.cell hb];exact hcell 5 (by omega)
   have x6:wr.cell? ⟨b,off+i*7+6,none⟩=some (.int .i64 k1):=by rw[HB.out.cell hb];exact hcell 6 (by omega)
   clear hcell hok han hrn;go_upto_region 13 with(refine aR rfl 54 (.tmp 10) (.tmp 59) rfl rfl rfl rfl size54 rfl rfl rfl ?_);refine au (fun W1 hW1=>?_);have KW:=ae (show W1.heap[wr.heap.size]? =some (.cells #[.int .i64 kd,.int .i64 v,.int .i64 u,.slice aa an ac,.slice ra1 rn1 rc1,.int .i64 k0,.int .i64 k1] 54) by rw[hW1];exact(by repeat' (first| (refine ai _ _ _ ?_;(first|rfl| (simp;done) | (simp;omega))) | (refine am _ _ _ _ ?_))));have aA:=ae (show Below wr.heap.size wr W1 by rw[hW1];(focus ((repeat' (first| (with_reducible first|exact Below.refl _ _|assumption|refine Below.alloc ?_ ?_ _|refine Below.drew ?_ |refine below_drewN ?_ _|refine Below.setCell ?_ ?_ _|refine below_setRow ?_ ?_ _) |go_size));done)));clear hW1 x0 x1 x2 x3 x4 x5 x6;have y0:W1.cell? ⟨wr.heap.size,0,none⟩=some (.int .i64 kd):=(af (j:=0) KW.out).trans rfl;have y1:W1.cell? ⟨wr.heap.size,1,none⟩=some (.int .i64 v):=(af (j:=1) KW.out).trans rfl;have y2:W1.cell? ⟨wr.heap.size,2,none⟩=some (.int .i64 u):=(af (j:=2) KW.out).trans rfl;have y3:W1.cell? ⟨wr.heap.size,3,none⟩=some (.slice aa an ac):=(af (j:=3) KW.out).trans rfl;have y4:W1.cell? ⟨wr.heap.size,4,none⟩=some (.slice ra1 rn1 rc1):=(af (j:=4) KW.out).trans rfl;have y5:W1.cell? ⟨wr.heap.size,5,none⟩=some (.int .i64 k0):=(af (j:=5) KW.out).trans rfl;have y6:W1.cell? ⟨wr.heap.size,6,none⟩=some (.int .i64 k1):=(af (j:=6) KW.out).trans rfl;go_wp2_with fail;refine(EE kd v u k0 k1 aa ra1 an ac rn1 rc1 W1 ham hrm).mono ?_;rintro r w2 ⟨rfl,hb2⟩;have HA2:=ae (aA.out.trans (hb2.mono aA.out.size));have Gu:=ae (aj hb2 KW.out);have HB2:=ae (HB.out.trans (HA2.out.mono HB.out.size));clear hb2 y0 y1 y2 y3 y4 y5 y6 KW aA;obtain⟨t,ht⟩:∃t,t=(decide (12<an) || decide (12<rn1)):=⟨_,rfl⟩;have HT:=ae ht;rw[<-ht];clear ht
   cases t
   ·have h12:=HT.out.symm;simp only[Bool.or_eq_false_iff,decide_eq_false_iff_not] at h12;obtain⟨Qr,PX⟩:=h12;have y0:w2.cell? ⟨wr.heap.size,0,none⟩=some (.int .i64 kd):=(af (j:=0) Gu.out).trans rfl;have y1:w2.cell? ⟨wr.heap.size,1,none⟩=some (.int .i64 v):=(af (j:=1) Gu.out).trans rfl;have y2:w2.cell? ⟨wr.heap.size,2,none⟩=some (.int .i64 u):=(af (j:=2) Gu.out).trans rfl;have y3:w2.cell? ⟨wr.heap.size,3,none⟩=some (.slice aa an ac):=(af (j:=3) Gu.out).trans rfl;have y4:w2.cell? ⟨wr.heap.size,4,none⟩=some (.slice ra1 rn1 rc1):=(af (j:=4) Gu.out).trans rfl;have y5:w2.cell? ⟨wr.heap.size,5,none⟩=some (.int .i64 k0):=(af (j:=5) Gu.out).trans rfl;have y6:w2.cell? ⟨wr.heap.size,6,none⟩=some (.int .i64 k1):=(af (j:=6) Gu.out).trans rfl;go_wp2_with fail;clear y0 y1 y2 y3 y4 y5 y6;have HS2:=ae (HS.out.still HA2.out);refine(sw w.heap.size g w.heap.size bb (2*i) a1 d1' bv1 sv1 pv1 vv1 rv1 _ _ kd v u k0 k1 A R w2 HS2.out (by omega) wk.out (fun W1 hb=>fz.out.add.below (HB2.out.trans hb)) fz.out.add0 (fun W1 hb=>fz.out.rem.still (HB2.out.trans hb)) fz.out.rem0 (by have:=Dp.out;omega) (by have:=C3.out;omega) fz.out.wf fz.out.v2 fz.out.u2).mono ?_;rintro r w3 ⟨⟨g',a',d',bv',sv',pv',vv',rv',rfl,hs3,hc3,hl3⟩,hb3⟩;have MK:=ae hs3;have qb:=ae (hc3.trans GR.out);have De:=ae hl3;have HB3:=ae (HB2.out.trans hb3);clear hs3 hc3 hl3 hb3;go_wp2_with fail;exact⟨⟨i+1,g',a',d',bv',sv',pv',vv',rv',by omega,by go_num,rfl,MK.out,qb.out,De.out,HB3.out⟩,by simp[intOf];omega⟩
   ·go_wp2_with fail;refine(gW _).mono ?_;rintro r w9 ⟨rfl,pd⟩;go_wp2_with fail;go_ret;exact⟨rfl,HB2.out.trans (pd.mono HB2.out.size)⟩
  ·have e3:decide ((i:Int)<(n:Int))=false:=decide_eq_false (by omega);have IT:=ae HS.out.hol;have hpos:=HS.out.pos;have hlow:=IT.out.low;have hfew:=IT.out.few;obtain⟨m,hm⟩:∃m,a1.pts.length=m+1:=⟨a1.lg.steps.length,hpos⟩;obtain⟨P,hP⟩:∃P,a1.pts[m]? =some P:=⟨_,List.getElem?_eq_getElem (by omega)⟩;have qY:=ae (fun W (hb:Below wr.heap.size wr W)=>jx w.heap.size c a1.lg.first vv1 rv1 a1.pts P m W (HS.out.still hb).vs (HS.out.still hb).ps hm (by omega) hP);obtain⟨va,vc,hvv⟩:=al.slice HS.out.vs;obtain⟨vn,hvn⟩:∃z,z=((aT a1.lg.first a1.pts.length).map bB).length :=⟨_,rfl⟩;rw[<-hvn] at hvv;subst hvv;clear hvn;obtain⟨ra,rc,hrv⟩:=HS.out.ps.slice;obtain⟨rn,hrn⟩:∃z,z=a1.pts.length:=⟨_,rfl⟩;rw[<-hrn] at hrv;subst hrv;clear hrn;have b0:wr.cell? ⟨bb,0,none⟩=some (.int .i64 c):=by rw[af (j:=0) HS.out.bx,<-GR.out];rfl
   have b1:wr.cell? ⟨bb,1,none⟩=some (.slice va vn vc):=(af (j:=1) HS.out.bx).trans rfl;have b2:wr.cell? ⟨bb,2,none⟩=some (.slice ra rn rc):=(af (j:=2) HS.out.bx).trans rfl
   have M3:=ae (show a1.file= -1->a1.lg.first+(m:Int)=0 from fun hf=>by
    obtain⟨R,t,R',t',_,_,_,_,h5⟩:=IT.out.files
    rcases h5 with⟨_,_,_,q1,q2,q3,q4,q5⟩ | ⟨q,_⟩ | ⟨q,_⟩
    ·rw[q4] at hpos;simp at hpos;omega
    ·rw[hf] at q;exact absurd q (by decide)
    ·rw[hf] at q;exact absurd q (by decide))
   have HM:=ae hm;clear hP hm hpos;unfold eI at qY;go_wp2_with fail;refine(qY.out wr (Below.refl _ _)).mono ?_;rintro r w2 ⟨⟨x,rfl,_⟩,hb2⟩;have HB2:=ae (HB.out.trans (hb2.mono HB.out.size));have vF:=ae (HS.out.still hb2);clear hb2 b0 b1 b2 qY;go_wp2_with fail;refine(AN w.heap.size w.heap.size d1' w2 vF.out.dk (IT.out.dk (by omega))).mono ?_;rintro r w3 ⟨⟨g2,rfl,hk3⟩,hb3⟩;have zR:=ae hk3;have HB3:=ae (HB2.out.trans (hb3.mono HB2.out.size));clear hk3 hb3 vF;have hmd:c.tmod 64=if c=64 then 0 else c:=by
    split
    ·rename_i h;subst h;decide
    ·exact Int.tmod_eq_of_lt (by omega) (by omega)
   obtain⟨cz,hcz⟩:∃z,z=c.tmod 64:=⟨_,rfl⟩;have hcz2:0<=cz/\cz<=63/\cz+1≠c:=by rw[hcz,hmd];split<;>omega
   have NW:=ae hcz2;have Rs:c.tmod 64=cz:=hcz.symm;clear hmd hcz;go_wp2_with fail;refine(BR g2 w2.heap.size (2*i) d1' a1 (cz+1) w3 zR.out IT.out (by omega) (by rw[GR.out];exact NW.out.2.2) (by have:=NW.out;omega)).mono ?_;rintro r w4 ⟨hor,hb4⟩;have bm:=ae (HB3.out.trans (hb4.mono HB3.out.size));clear hb4
   rcases hor with⟨hf,ga2,rfl⟩ | ⟨_,rfl⟩
   ·have hz:=M3.out hf;have e4:decide (0<a1.lg.first+(m:Int))=false:=decide_eq_false (by omega);clear hf hz;go_wp2_with fail;refine(gW _).mono ?_;rintro r w9 ⟨rfl,pd⟩;go_wp2_with fail;go_ret;exact⟨rfl,bm.out.trans (pd.mono bm.out.size)⟩
   ·obtain⟨t,ht⟩:∃t,t=decide (0<a1.lg.first+(m:Int)):=⟨_,rfl⟩;have e4:=ht.symm;clear ht
    cases t
    all_goals
     go_wp2_with fail;refine(gW _).mono ?_;rintro r w9 ⟨rfl,pd⟩;go_wp2_with fail;go_ret;exact⟨rfl,bm.out.trans (pd.mono bm.out.size)⟩
end Go.Proofs.YtcclpdfmmdonpaaGreat
