/- Commit (30): refused points, and refused updates. -/
import Derived.Test.YtcclpdfmmdonpaaGreatTArcE
namespace Go.Proofs.YtcclpdfmmdonpaaGreat
set_option maxRecDepth 100000
open Go.RowKit Go.WideShapes Go.ChangeAt Go.Maps Go.Sort
def ow (W:World) (B:Nat) (P A:List Pt) (R:List Int) (v:Value):Prop:=∃q e L,v=.tuple #[q,.int .i64 e]/\aq W B q L/\aM P A R e L
theorem ow.stb (B:Nat) (P A:List Pt) (R:List Int):yA (fun W v=>ow W B P A R v):=fun _ _ _ hB ⟨q,e,L,h1,h2,h3⟩=>⟨q,e,L,h1,aq.still h2 hB,h3⟩
def qT (W:World) (B:Nat) (P A:List Pt) (R:List Int) (v:Value):Prop:=∃e L,aq W B v L/\aM P A R e L
theorem qT.stb (B:Nat) (P A:List Pt) (R:List Int):yA (fun W v=>qT W B P A R v):=fun _ _ _ hB ⟨e,L,h2,h3⟩=>⟨e,L,aq.still h2 hB,h3⟩
theorem fi.rws {W:World} {v:Value} {l:List Int} (h:fi W v l) (hn:ip v):kM W v 1 (l.map bB):=by
 obtain⟨a,cap,rfl,h⟩:=h
 cases a with
 |none=>
  rcases h with rfl| ⟨b,off,e,_⟩
  ·left;have:=hn cap rfl;subst this;exact⟨rfl,rfl⟩
  ·cases e
 |some ad=>
  right;refine⟨ad,cap,by rw[List.length_map],?_⟩
  rcases h with rfl| ⟨b,off,e,hb,hc⟩
  ·exact .inl rfl
  ·injection e with e
   subst e;refine .inr ⟨b,off,rfl,hb,fun i r hr j hj=>?_⟩;rw[List.getElem?_map] at hr
   cases hz:l[i]? with
   |none=>rw[hz] at hr;cases hr
   |some z=>
    rw[hz] at hr;injection hr with hr
    subst hr;obtain rfl:j=0:=by omega
    simpa[bB] using hc i z hz
theorem vp (B g gd:Nat) (a:Ac) (bv sv pv av rv:Value) (A:List Pt) (w:World) (h:aU w B g gd a bv sv pv) (hd:a.dead=false) (ha:cj w av A) (hn:A.length<=maxLen) (hg:bQ A=false):
 Calls Tryz.prog 30 #[.pointer (some ⟨g,0,none⟩),av,rv] w fun r w'=>r=.returned (.tuple #[.int .i64 0,.int .i64 70])/\Below w.heap.size w w':=by
 have HN:=ae (dw B g gd a bv sv pv w h);have H:=ae h;have HA:=ae ha;have HG:=ae hg;have HD:=ae hd;clear h ha hg hd;go_enter Tryz.func30,Tryz.ntmps30;go_wp2_with fail;refine HN.out.mono ?_;rintro r w1 ⟨rfl,hb1⟩;have HB1:=ae hb1;have c11:w1.cell? ⟨g,11,none⟩=some (.bool false):=by rw[(H.out.still hb1).cell 11,<-HD.out];rfl
 clear hb1;go_wp2_with fail;refine(qf av A w1 (cj.still HA.out HB1.out) hn).mono ?_;rintro r w2 ⟨rfl,hb2⟩;have HB2:=ae (HB1.out.trans (hb2.mono HB1.out.size));clear hb2;rw[HG.out];go_wp2_with fail;go_ret2;exact⟨rfl,HB2.out⟩
set_option maxHeartbeats 3200000 in
theorem tw (B g gd N:Nat) (a:Ac) (d:Dk) (bv sv pv av rv:Value) (P A:List Pt) (R:List Int) (w:World) (h:aU w B g gd a bv sv pv) (hk:cT w B gd d) (hH:aS N d a) (hN:N<=38) (hB:B<=w.heap.size) (ha:cj w av A) (hr:fi w rv R) (hrn:ip rv) (hg:bQ A=true) (l5:A.length<=12) (lC:R.length<=12)
 (IX:∀z∈R,(Lit.int .i64 z).wf =true) (hp:a.pts[a.lg.steps.length]? =some P):
 Calls Tryz.prog 30 #[.pointer (some ⟨g,0,none⟩),av,rv] w fun r w'=>xj B g gd a d bv sv pv P A R w r w':=by
 have HN:=ae (dw B g gd a bv sv pv w h);have hln:=hH.runs.len;have yM:=hH.runs.ok hH.ok.base hH.ok.steps P (List.mem_of_getElem? hp);obtain⟨i,hi⟩:∃i,i=a.lg.steps.length:=⟨_,rfl⟩;obtain⟨pn,hpn⟩:∃n,n=a.pts.length:=⟨_,rfl⟩;have Rw:i<=38:=by have:=hH.few;omega
 rw[<-hi] at hp hln;obtain⟨pb,pc,x,hpv,hx,hxo⟩:=h.pts.at hp;rw[<-hpn] at hpv hln;subst hpv;have iQ:=ae hln;have HX:=ae hx;have RI:=ae hxo;have sS:=ae (fun W (hb:Below w.heap.size w W)=>mo x av rv P A R W (aq.ptsV (aq.still hxo hb)) (ha.still hb) (hr.still hb) yM.good hg (by unfold maxLen;omega) IX);have HG:=ae (fun W (hb:Below w.heap.size w W)=>qf av A W (ha.still hb) (by unfold maxLen;omega));have KQ:=ae hg;have HA:=ae h;have HK:=ae hk;have HH:=ae hH;have qZ:=ae ha;have xB:=ae hr;have C3:=ae hrn;have cX:=ae hB;have HP:=ae hp;have iU:=ae yM;have HI:=ae hi;have CT:=ae hpn;clear h hk hH ha hr hrn hB hg IX hp hx hxo yM hi hpn hln;go_enter Tryz.func30,Tryz.ntmps30;go_wp2_with fail;refine HN.out.mono ?_;rintro r w1 ⟨rfl,hb1⟩;have HB1:=ae hb1;have c11:w1.cell? ⟨g,11,none⟩=some (.bool false):=by rw[(HA.out.still hb1).cell 11,<-HH.out.dead];rfl
 clear hb1;go_wp2_with fail;refine(HG.out w1 HB1.out).mono ?_;rintro r w2 ⟨rfl,hb2⟩;have HB2:=ae (HB1.out.trans (hb2.mono HB1.out.size));clear hb2 HN HG HB1 c11;rw[KQ.out];go_upto_region 7 with fail;refine au (fun W2 hW2=>?_);have uM:=ae (show Below w.heap.size w W2 by rw[hW2];exact HB2.out);clear hW2 HB2;refine bf (fun A0 hA=>?_);refine aJ (by kernel_rfl) (by kernel_rfl) [some 24,some 25,some 26,some 27,some 28,some 29,some 30,some 31,some 32,some 33,some 34,some 35,some 36,some 37,some 38,some 39,some 40,some 23,some 41,some 42,some 8,some 9] rfl (by decide) 21 (by decide) (by kernel_rfl) (by kernel_rfl)
  [aw (.pointer (some ⟨g,0,none⟩)),aw (.pointer (some ⟨g,0,none⟩)),aw (.pointer (some ⟨g,0,none⟩)),aw (.pointer (some ⟨g,7,none⟩)),aw (.slice (some ⟨pb,0,none⟩) pn pc),aw (.pointer (some ⟨g,0,none⟩)),aw (.pointer (some ⟨g,0,none⟩)),aw (.pointer (some ⟨g,0,none⟩)),aw (.pointer (some ⟨g,7,none⟩)),aw (.slice (some ⟨pb,0,none⟩) pn pc),aw (.int .i64 (pn:Int)),aw (.int .i64 (i:Int)),aw (.pointer (some ⟨pb,i,none⟩)),aw (x),aw (av),aw (rv),fun W v=>ow W w.heap.size P A R v,fun W v=>ow W w.heap.size P A R v,fun W v=>qT W w.heap.size P A R v,fun _ v=>∃e,v=.int .i64 e/\e=bA P A R,fun W v=>qT W w.heap.size P A R v]
  ⟨aw.stb _,aw.stb _,aw.stb _,aw.stb _,aw.stb _,aw.stb _,aw.stb _,aw.stb _,aw.stb _,aw.stb _,aw.stb _,aw.stb _,aw.stb _,aw.stb _,aw.stb _,aw.stb _,ow.stb _ _ _ _,ow.stb _ _ _ _,qT.stb _ _ _ _,fun _ _ _ _ h=>h,qT.stb _ _ _ _,trivial⟩ ?hsD7 ?htD7
 case hsD7=>
  refine⟨?_,?_,?_,?_,?_,?_,?_,?_,?_,?_,?_,?_,?_,?_,?_,?_,?_,?_,?_,?_,?_,trivial⟩
  ·intro K us W ak hB hd;have hK:=ae ak;clear ak;have aA:=ae hB;clear hd;simp only[ah];rw[hA];go_frame;go_wp2_with fail;exact hK.out _ _ _ (by rw[hA];simp only[ah];kernel_rfl) (Below.refl _ _) rfl
  ·intro K us W ak hB hd;have hK:=ae ak;clear ak;have aA:=ae hB;have e0:us 0=_:=hd ⟨0,Ground.data⟩ (by simp) rfl;clear hd;simp only[ah];rw[hA,e0];go_frame;go_wp2_with fail;exact hK.out _ _ _ (by rw[hA];simp only[ah];rw[e0];kernel_rfl) (Below.refl _ _) rfl
  ·intro K us W ak hB hd;have hK:=ae ak;clear ak;have aA:=ae hB;have e1:us 1=_:=hd ⟨1,Ground.data⟩ (by simp) rfl;clear hd;simp only[ah];rw[hA,e1];go_frame;go_wp2_with fail;exact hK.out _ _ _ (by rw[hA];simp only[ah];rw[e1];kernel_rfl) (Below.refl _ _) rfl
  ·intro K us W ak hB hd;have hK:=ae ak;clear ak;have aA:=ae hB;have e2:us 2=_:=hd ⟨2,Ground.data⟩ (by simp) rfl;clear hd;simp only[ah];rw[hA,e2];go_frame;go_wp2_with fail;exact hK.out _ _ _ (by rw[hA];simp only[ah];rw[e2];kernel_rfl) (Below.refl _ _) rfl
  ·intro K us W ak hB hd;have hK:=ae ak;clear ak;have aA:=ae hB;have e3:us 3=_:=hd ⟨3,Ground.data⟩ (by simp) rfl;clear hd;have c7:W.cell? ⟨g,7,none⟩=some (.slice (some ⟨pb,0,none⟩) pn pc):=by rw[(HA.out.still (uM.out.trans (hB.mono uM.out.size))).cell 7];rfl
   simp only[ah];rw[hA,e3];go_frame;go_wp2_with fail;exact hK.out _ _ _ (by rw[hA];simp only[ah];rw[e3];kernel_rfl) (Below.refl _ _) rfl
  ·intro K us W ak hB hd;have hK:=ae ak;clear ak;have aA:=ae hB;clear hd;simp only[ah];rw[hA];go_frame;go_wp2_with fail;exact hK.out _ _ _ (by rw[hA];simp only[ah];kernel_rfl) (Below.refl _ _) rfl
  ·intro K us W ak hB hd;have hK:=ae ak;clear ak;have aA:=ae hB;have e5:us 5=_:=hd ⟨5,Ground.data⟩ (by simp) rfl;clear hd;simp only[ah];rw[hA,e5];go_frame;go_wp2_with fail;exact hK.out _ _ _ (by rw[hA];simp only[ah];rw[e5];kernel_rfl) (Below.refl _ _) rfl
  ·intro K us W ak hB hd;have hK:=ae ak;clear ak;have aA:=ae hB;have e6:us 6=_:=hd ⟨6,Ground.data⟩ (by simp) rfl;clear hd;simp only[ah];rw[hA,e6];go_frame;go_wp2_with fail;exact hK.out _ _ _ (by rw[hA];simp only[ah];rw[e6];kernel_rfl) (Below.refl _ _) rfl
  ·intro K us W ak hB hd;have hK:=ae ak;clear ak;have aA:=ae hB;have e7:us 7=_:=hd ⟨7,Ground.data⟩ (by simp) rfl;clear hd;simp only[ah];rw[hA,e7];go_frame;go_wp2_with fail;exact hK.out _ _ _ (by rw[hA];simp only[ah];rw[e7];kernel_rfl) (Below.refl _ _) rfl
  ·intro K us W ak hB hd;have hK:=ae ak;clear ak;have aA:=ae hB;have e8:us 8=_:=hd ⟨8,Ground.data⟩ (by simp) rfl;clear hd;have c7:W.cell? ⟨g,7,none⟩=some (.slice (some ⟨pb,0,none⟩) pn pc):=by rw[(HA.out.still (uM.out.trans (hB.mono uM.out.size))).cell 7];rfl
   simp only[ah];rw[hA,e8];go_frame;go_wp2_with fail;exact hK.out _ _ _ (by rw[hA];simp only[ah];rw[e8];kernel_rfl) (Below.refl _ _) rfl
  ·intro K us W ak hB hd;have hK:=ae ak;clear ak;have aA:=ae hB;have e9:us 9=_:=hd ⟨9,Ground.data⟩ (by simp) rfl;clear hd;simp only[ah];rw[hA,e9];go_frame;go_wp2_with fail;exact hK.out _ _ _ (by rw[hA];simp only[ah];rw[e9];kernel_rfl) (Below.refl _ _) rfl
  ·intro K us W ak hB hd;have hK:=ae ak;clear ak;have aA:=ae hB;have e10:us 10=_:=hd ⟨10,Ground.data⟩ (by simp) rfl;clear hd;have hpi:(pn:Int)-1=(i:Int):=by have:=iQ.out;omega
   simp only[ah];rw[hA,e10];go_frame;go_wp2_with fail;exact hK.out _ _ _ (by rw[hA];simp only[ah];rw[e10];kernel_rfl) (Below.refl _ _) rfl
  ·intro K us W ak hB hd;have hK:=ae ak;clear ak;have aA:=ae hB;have e4:us 4=_:=hd ⟨4,Ground.data⟩ (by simp) rfl;have e11:us 11=_:=hd ⟨11,Ground.data⟩ (by simp) rfl;clear hd;have hip:i<pn:=by have:=iQ.out;omega
   simp only[ah];rw[hA,e4,e11];go_frame;go_wp2_with fail;exact hK.out _ _ _ (by rw[hA];simp only[ah];rw[e4,e11];kernel_rfl) (Below.refl _ _) rfl
  ·intro K us W ak hB hd;have hK:=ae ak;clear ak;have aA:=ae hB;have e12:us 12=_:=hd ⟨12,Ground.data⟩ (by simp) rfl;clear hd;have cx:W.cell? ⟨pb,i,none⟩=some x:=by rw[(uM.out.trans (hB.mono uM.out.size)).cell (block_lt_of_cell HX.out)];exact HX.out
   simp only[ah];rw[hA,e12];go_frame;go_wp2_with fail;exact hK.out _ _ _ (by rw[hA];simp only[ah];rw[e12];kernel_rfl) (Below.refl _ _) rfl
  iterate 2 (·intro K us W ak hB hd;have hK:=ae ak;clear ak;have aA:=ae hB;clear hd;simp only[ah];rw[hA];go_frame;go_wp2_with fail;exact hK.out _ _ _ (by rw[hA];simp only[ah];kernel_rfl) (Below.refl _ _) rfl)
  ·intro K us W ak hB hd;have hK:=ae ak;clear ak;have aA:=ae hB;have e13:us 13=_:=hd ⟨13,Ground.data⟩ (by simp) rfl;have e14:us 14=_:=hd ⟨14,Ground.data⟩ (by simp) rfl;have e15:us 15=_:=hd ⟨15,Ground.data⟩ (by simp) rfl;clear hd;simp only[ah];rw[hA,e13,e14,e15];go_frame;go_wp2_with fail;refine(sS.out W (uM.out.trans (hB.mono uM.out.size))).mono ?_;rintro r w5 ⟨⟨q,e,L,rfl,hq,hm⟩,hb5⟩;go_wp2_with fail;exact hK.out _ _ _ (by rw[hA];simp only[ah];rw[e13,e14,e15];kernel_rfl) hb5 ⟨q,e,L,rfl,al.mono hq (uM.out.trans (hB.mono uM.out.size)).size,hm⟩
  ·intro K us W ak hB hd;have hK:=ae ak;clear ak;have aA:=ae hB;have p16:(fun W v=>ow W w.heap.size P A R v) W (us 16):=hd ⟨16,Ground.data⟩ (by simp) rfl;obtain⟨q,e,L,e16,hq,hm⟩:=p16;clear hd;simp only[ah];rw[hA,e16];go_frame;go_wp2_with fail;exact hK.out _ _ _ (by rw[hA];simp only[ah];rw[e16];kernel_rfl) (Below.refl _ _) ⟨q,e,L,rfl,hq,hm⟩
  ·intro K us W ak hB hd;have hK:=ae ak;clear ak;have aA:=ae hB;have p17:(fun W v=>ow W w.heap.size P A R v) W (us 17):=hd ⟨17,Ground.data⟩ (by simp) rfl;obtain⟨q,e,L,e17,hq,hm⟩:=p17;clear hd;simp only[ah];rw[hA,e17];go_frame;go_wp2_with fail;exact hK.out _ _ _ (by rw[hA];simp only[ah];rw[e17];kernel_rfl) (Below.refl _ _) ⟨e,L,hq,hm⟩
  ·intro K us W ak hB hd;have hK:=ae ak;clear ak;have aA:=ae hB;have p17:(fun W v=>ow W w.heap.size P A R v) W (us 17):=hd ⟨17,Ground.data⟩ (by simp) rfl;obtain⟨q,e,L,e17,hq,hm⟩:=p17;clear hd;simp only[ah];rw[hA,e17];go_frame;go_wp2_with fail;exact hK.out _ _ _ (by rw[hA];simp only[ah];rw[e17];kernel_rfl) (Below.refl _ _) ⟨e,rfl,hm.err⟩
  ·intro K us W ak hB hd;have hK:=ae ak;clear ak;have aA:=ae hB;have p18:(fun W v=>qT W w.heap.size P A R v) W (us 18):=hd ⟨18,Ground.data⟩ (by simp) rfl;obtain⟨v18,e18⟩:∃v,us 18=v:=⟨_,rfl⟩;rw[e18] at p18;clear hd;simp only[ah];rw[hA,e18];go_frame;go_wp2_with fail;exact hK.out _ _ _ (by rw[hA];simp only[ah];rw[e18];kernel_rfl) (Below.refl _ _) p18
 case htD7=>
  intro us W3 cH hp;have e0:us 0=_:=hp 0 (by decide);have e1:us 1=_:=hp 1 (by decide);have e2:us 2=_:=hp 2 (by decide);have e3:us 3=_:=hp 3 (by decide);have e4:us 4=_:=hp 4 (by decide);have e5:us 5=_:=hp 5 (by decide);have e6:us 6=_:=hp 6 (by decide);have e7:us 7=_:=hp 7 (by decide);have e8:us 8=_:=hp 8 (by decide);have e9:us 9=_:=hp 9 (by decide);have e10:us 10=_:=hp 10 (by decide);have e11:us 11=_:=hp 11 (by decide);have e12:us 12=_:=hp 12 (by decide);have e13:us 13=_:=hp 13 (by decide);have e14:us 14=_:=hp 14 (by decide);have e15:us 15=_:=hp 15 (by decide);have p16:(fun W v=>ow W w.heap.size P A R v) W3 (us 16):=hp 16 (by decide);have p17:(fun W v=>ow W w.heap.size P A R v) W3 (us 17):=hp 17 (by decide);have p18:(fun W v=>qT W w.heap.size P A R v) W3 (us 18):=hp 18 (by decide);have p19:(fun _ v=>∃e,v=.int .i64 e/\e=bA P A R) W3 (us 19):=hp 19 (by decide);have p20:(fun W v=>qT W w.heap.size P A R v) W3 (us 20):=hp 20 (by decide);clear hp;obtain⟨e,L,ho,hm⟩:=p20;obtain⟨z9,e19,Nn⟩:=p19;have hee:z9=e:=Nn.trans hm.err.symm;subst hee;have HO:=ae ho;have HM:=ae hm;have Ir:=ae Nn;clear ho hm Nn p16 p17 p18;obtain⟨v16,e16⟩:∃v,us 16=v:=⟨_,rfl⟩;obtain⟨v17,e17⟩:∃v,us 17=v:=⟨_,rfl⟩;obtain⟨v18,e18⟩:∃v,us 18=v:=⟨_,rfl⟩;obtain⟨v20,e20⟩:∃v,us 20=v:=⟨_,rfl⟩;have Q8:=ae (show aq W3 w.heap.size v20 L by rw[<-e20];exact HO.out);clear HO;have HB3:=ae (uM.out.trans (cH.mono uM.out.size));clear cH uM;refine aD rfl ?_;intro K ak;have hK:=ae ak;clear ak;simp only[ah];rw[hA,e0,e1,e2,e3,e4,e5,e6,e7,e8,e9,e10,e11,e12,e13,e14,e15,e16,e17,e18,e19,e20];go_frame;go_wp2_with fail;refine hK.out (.int .i64 z9) _ _ (by rw[hA];simp only[ah];rw[e0,e1,e2,e3,e4,e5,e6,e7,e8,e9,e10,e11,e12,e13,e14,e15,e16,e17,e18,e19,e20];kernel_rfl) ?_;clear hK hA e0 e1 e2 e3 e4 e5 e6 e7 e8 e9 e10 e11 e12 e13 e14 e15 e16 e17 e18 e19 e20;refine bP rfl ?_;by_cases hz:z9≠0
  ·have d2:(z9 != 0)=true:=by simpa using hz
   have HZ:=ae hz;clear hz;go_wp2_with fail;go_ret2;exact .inl ⟨z9,HZ.out,Ir.out.symm,rfl,HB3.out⟩
  ·have hz0:z9=0:=by simpa using hz
   have d2:(z9 != 0)=false:=by rw[hz0];rfl
   clear hz;go_upto_region 10 with fail;subst hz0;exact rS B g gd N a d bv sv (.slice (some ⟨pb,0,none⟩) pn pc) av rv v20 P A L R w W3 _ _ _ (by kernel_rfl) _ HA.out HK.out HH.out hN cX.out qZ.out (xB.out.rws C3.out) KQ.out l5 lC (by rw[<-HI.out];exact HP.out) HM.out HB3.out Q8.out (fun r w' h=>h) (by assumption)
end Go.Proofs.YtcclpdfmmdonpaaGreat
