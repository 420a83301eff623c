/- Texts of the seat Yteanlcefdoigcaa, turned to this one by wip/port.py: RChg DetLaw. -/
import Derived.Test.YtcclpdfmmdonpaaGreatTRtl
import Derived.Test.YtcclpdfmmdonpaaGreatTChg
namespace Go.Proofs.YtcclpdfmmdonpaaGreat
open Go.ChangeShapes Go.WideShapes Go.RowKit Go.Maps Go.Sort
theorem tX {r:Ky->Ky->Prop} {L:List Ky} (h:fM r L L.length):L.Pairwise (fun x y=>¬r y x):=by
 rw[List.pairwise_iff_getElem];intro i j hi hj hij;exact h i j _ _ hij hj (List.getElem?_eq_getElem hi) (List.getElem?_eq_getElem hj)
theorem pq {α:Type} [DecidableEq α] {K:List α} {k:Nat} {x y:α} (h:K[k]? =some y):decide (x∈K.take (k+1))=(decide (x∈K.take k) || decide (y=x)):=by
 rw[aH h,Bool.eq_iff_iff,Bool.or_eq_true,decide_eq_true_eq,decide_eq_true_eq,decide_eq_true_eq,List.mem_append,List.mem_singleton];constructor
 ·rintro (g|g)
  ·exact Or.inl g
  ·exact Or.inr g.symm
 ·rintro (g|g)
  ·exact Or.inl g
  ·exact Or.inr g.symm
instance:Inhabited Ky:=⟨⟨0,0,0,0⟩⟩
def FS (w:World) (A B:List Te) (i j:Nat) (ov:Value) (W:World):Prop:=
 ∃(K:List Ky) (o:Value),o=ov/\eM (A.map Te.tl) (B.map Te.tl) i j K/\K.length<=i+j/\bW W w.heap.size ov K/\Below w.heap.size w W
def JD (w:World) (S:List Ky) (i:Nat) (v kv:Value) (W:World):Prop:=
 ∃(k:Nat) (L:List Ky),k<=i/\kv=.int .i64 (k:Int)/\L.Perm S/\jL Ky.lt L i k/\bW W w.heap.size v L/\Below w.heap.size w W
def JY (w:World) (S:List Ky) (n:Nat) (v iv:Value) (W:World):Prop:=
 ∃(i:Nat) (L:List Ky),i<=n/\iv=.int .i64 (i:Int)/\L.Perm S/\fM Ky.lt L i/\bW W w.heap.size v L/\Below w.heap.size w W
set_option maxRecDepth 100000 in
set_option maxHeartbeats 6400000 in
theorem q9 (va vb:Value) (A B:List Te) (w:World) (ha:cQ w va A) (hb:cQ w vb B) (hA:(A.map Te.tl).Pairwise (fun a b=>a.key.lt b.key))
 (hla:A.length<=1000000) (hlb:B.length<=1000000) (hpa:∀e∈A,e.pts.length<=maxLen) (hpb:∀e∈B,e.pts.length<=maxLen):
 Calls Tryz.prog 74 #[va,vb] w fun r w'=>(∃v K,r=.returned v/\bW w' w.heap.size v K/\jg (A.map Te.tl) (B.map Te.tl) K)/\Below w.heap.size w w':=by
 have HA:=ae ha;have HB:=ae hb;have Mx:=ae hA;have DK:=ae hpa;have MN:=ae hpb;obtain⟨⟨aa,ca,rfl,hra⟩,hpva⟩:=ha;obtain⟨⟨ab,cb,rfl,hrb⟩,hpvb⟩:=hb;obtain⟨n,hn⟩:∃n,n=A.length:=⟨_,rfl⟩;obtain⟨m0,hm0⟩:∃m0,m0=B.length:=⟨_,rfl⟩;rw[<-hn] at hla HA⊢;rw[<-hm0] at hlb HB⊢;have HN:=ae hn;have Fd:=ae hm0;have gg:=ae hra;have sW:=ae hrb;have Ml:=ae hpva;have MS:=ae hpvb;clear hn hm0 hra hrb hpva hpvb hA hpa hpb;obtain⟨i0,hi,hz0,hz1,hz2⟩:=aF CS;have HI:=ae hi;have HZ0:=ae hz0;have HZ1:=ae hz1;have HZ2:=ae hz2;clear hi hz0 hz1 hz2;go_enter Tryz.func74,Tryz.ntmps74;go_wp2_with fail
 go_loopw [5,17] (fun ov iv W=>∃i:Nat,i<=n/\iv=.int .i64 (i:Int)/\FS w A B i 0 ov W) (fun _ iv _=>n-(intOf iv).toNat)
 case atStart=>exact⟨0,by omega,rfl,[],_,rfl,eM.start _ _,by simp,bW.nil _ _,Below.refl _ _⟩
 case round=>
  obtain⟨i,hi,rfl,K,ov,rfl,href,hkl,hov,hB⟩:=hrel;have qB:=ae href;have eT:=ae hkl;have fF:=ae (show K.length<=2000000 by omega);have dK:=ae hov;have bm:=ae hB;have fT:=hB.size;clear href hkl hov hB;by_cases hlt:i<n
  ·have d1:decide ((i:Int)<(n:Int))=true:=decide_eq_true (by omega);obtain⟨e,he⟩:∃e,A[i]? =some e:=⟨_,List.getElem?_eq_getElem (by rw[<-HN.out];exact hlt)⟩;have uw:=ae (show(A.map Te.tl)[i]? =some e.tl by rw[List.getElem?_map,he];rfl);obtain⟨b,off,hva,hbw,hrows⟩:=gg.out.resolve_left (fun h=>by rw[h] at he;simp at he);have hpe:=Ml.out e (List.mem_of_getElem? he);have hcs:∀y,y<5->wr.cell? ⟨b,off+i*5+y,none⟩=e.row[y]? :=fun y hy=>by
    rw[bm.out.cell hbw,hrows i e.row (by rw[List.getElem?_map,he];rfl) y hy]
   clear he hrows hbw;obtain⟨⟨k0,k1,k2,k3⟩,ev,P⟩:=e;have yq:=ae hpe;obtain⟨ea,ec,hev,_⟩:=hpe;obtain rfl:ev=.slice ea P.length ec:=hev;obtain⟨m,hm⟩:∃m,m=P.length:=⟨_,rfl⟩;simp only[Te.row,Ky.row,<-hm] at hcs yq;clear hm;subst hva;have a0:wr.cell? ⟨b,off+i*5,none⟩=some (.int .i64 k0):=hcs 0 (by decide);have a1:wr.cell? ⟨b,off+i*5+1,none⟩=some (.int .i64 k1):=hcs 1 (by decide);have a2:wr.cell? ⟨b,off+i*5+2,none⟩=some (.int .i64 k2):=hcs 2 (by decide);have a3:wr.cell? ⟨b,off+i*5+3,none⟩=some (.int .i64 k3):=hcs 3 (by decide);have a4:wr.cell? ⟨b,off+i*5+4,none⟩=some (.slice ea m ec):=hcs 4 (by decide);clear hcs;go_upto_region 5 with fail;refine au (fun W5 gx=>?_);have sN:=ae (show W5.heap[wr.heap.size]? =some (.cells #[.int .i64 k0,.int .i64 k1,.int .i64 k2,.int .i64 k3,.slice ea m ec] 101) by rw[gx];exact ai _ _ _ rfl);have hb5:Below wr.heap.size wr W5:=by rw[gx];exact(Below.refl _ _).alloc (Nat.le_refl _) _
   have fq:=ae (bm.out.trans (hb5.mono fT));have pG:=ae (show bW W5 w.heap.size ov K from al.grow' dK.out hb5);have ib:=ae (yq.out.still fq.out);clear gx hb5 a0 a1 a2 a3 a4 dK;obtain⟨g,hg⟩:∃g,g=wr.heap.size:=⟨_,rfl⟩;rw[<-hg] at sN⊢;clear hg;have t0:W5.cell? ⟨g,0,none⟩=some (.int .i64 k0):=(af (j:=0) sN.out).trans rfl;have t1:W5.cell? ⟨g,1,none⟩=some (.int .i64 k1):=(af (j:=1) sN.out).trans rfl;have t2:W5.cell? ⟨g,2,none⟩=some (.int .i64 k2):=(af (j:=2) sN.out).trans rfl;have t3:W5.cell? ⟨g,3,none⟩=some (.int .i64 k3):=(af (j:=3) sN.out).trans rfl;have t4:W5.cell? ⟨g,4,none⟩=some (.slice ea m ec):=(af (j:=4) sN.out).trans rfl;obtain⟨bl,hbl⟩:∃bl,bl=decide ((⟨⟨k0,k1,k2,k3⟩,P⟩:Tl)∉B.map Te.tl):=⟨_,rfl⟩;have Kb:=ae (show Calls Tryz.prog 97 #[.slice ab m0 cb,.agg #[.int .i64 k0,.int .i64 k1,.int .i64 k2,.int .i64 k3,.slice ea m ec]] W5 fun r w'=>r=.returned (.bool bl)/\Below W5.heap.size W5 w' from hbl▸qq _ _ B ⟨k0,k1,k2,k3⟩ P W5 (HB.out.still fq.out) ib.out (by rw[<-Fd.out];exact hlb) MN.out);have vy:=ae (fun h:bl=true=>of_decide_eq_true (show decide ((⟨⟨k0,k1,k2,k3⟩,P⟩:Tl)∉B.map Te.tl)=true from hbl▸h));have uV:=ae (fun h:bl=false=>Decidable.not_not.1 (of_decide_eq_false (show decide ((⟨⟨k0,k1,k2,k3⟩,P⟩:Tl)∉B.map Te.tl)=false from hbl▸h)));clear hbl;go_wp2_with fail;refine Kb.out.mono ?_;rintro r w7 ⟨rfl,gS⟩;have ux:=ae (aj gS sN.out);have cU:=ae (fq.out.trans (gS.mono fq.out.size));have lw:=ae (show bW w7 w.heap.size ov K from al.grow' pG.out gS);clear gS t0 t1 t2 t3 t4 Kb
   cases bl
   ·have eC:=ae (qB.out.left_no uw.out (uV.out rfl));clear vy uV;go_wp2_with fail;exact⟨⟨i+1,by omega,by go_num,K,_,rfl,eC.out,by have:=eT.out;omega,lw.out,cU.out⟩,by simp[intOf];omega⟩
   ·have eC:=ae (qB.out.left_yes Mx.out uw.out (vy.out rfl));clear vy uV;have t0:w7.cell? ⟨g,0,none⟩=some (.int .i64 k0):=(af (j:=0) ux.out).trans rfl;have t1:w7.cell? ⟨g,1,none⟩=some (.int .i64 k1):=(af (j:=1) ux.out).trans rfl;have t2:w7.cell? ⟨g,2,none⟩=some (.int .i64 k2):=(af (j:=2) ux.out).trans rfl;have t3:w7.cell? ⟨g,3,none⟩=some (.int .i64 k3):=(af (j:=3) ux.out).trans rfl;have kP:=ae (aB.one (ai w7 _ _ rfl):aB (w7.alloc (.cells #[.int .i64 k0,.int .i64 k1,.int .i64 k2,.int .i64 k3] 99)) w7.heap.size 0 4 [[.int .i64 k0,.int .i64 k1,.int .i64 k2,.int .i64 k3]]);have eK:=ae (al.grow' lw.out ((Below.refl _ _).alloc (Nat.le_refl _) _):al (w7.alloc (.cells #[.int .i64 k0,.int .i64 k1,.int .i64 k2,.int .i64 k3] 99)) w.heap.size 99 4 ov (K.map Ky.row));have bR:=ae (cU.out.alloc cU.out.size _:Below w.heap.size w (w7.alloc (.cells #[.int .i64 k0,.int .i64 k1,.int .i64 k2,.int .i64 k3] 99)));have ez:=ae (show(K.map Ky.row).length +1<=maxLen by rw[List.length_map];have:=fF.out;unfold maxLen;omega);have HL2:=ae (show((K.map Ky.row).length +1)*32<=140737488355328 by rw[List.length_map];have:=fF.out;omega)
    go_wp2_with (first
     | (at_builtin
        refine ar rfl (.tmp 24) (.tmp 27) 108 rfl w.heap.size 99 i0 _ 4 32 Tryz.underlying108 HI.out HZ0.out HZ1.out HZ2.out rfl (by decide) _ (K.map Ky.row) [[.int .i64 k0,.int .i64 k1,.int .i64 k2,.int .i64 k3]] rfl eK.out w7.heap.size 0 1 1 rfl rfl kP.out (i2 _ _ _ _) ez.out HL2.out bR.out.size ?_;intro v6 W6 aV da z6;clear z6;have fD:=ae (show bW W6 w.heap.size v6 (K++[⟨k0,k1,k2,k3⟩]) by unfold bW;rw[List.map_append];exact aV);have dD:=ae (show Below w.heap.size w W6 from bR.out.grown da bR.out.size (fun k hk=>al.ownBlock eK.out k hk))
        clear aV da))
    exact⟨⟨i+1,by omega,by go_num,_,_,rfl,eC.out,by rw[List.length_append];have:=eT.out;show K.length+1<=_;omega,fD.out,dD.out⟩,by simp[intOf];omega⟩
  ·obtain rfl:i=n:=by omega
   have d1:decide ((i:Int)<(i:Int))=false:=by simp
   go_wp2_with fail
   go_loopw [5,32] (fun ov jv W=>∃j:Nat,j<=m0/\jv=.int .i64 (j:Int)/\FS w A B i j ov W) (fun _ jv _=>m0-(intOf jv).toNat)
   case atStart=>exact⟨0,by omega,rfl,K,_,rfl,qB.out,eT.out,dK.out,bm.out⟩
   clear qB eT fF dK bm fT
   case round=>
    obtain⟨j,hj,rfl,K,ov,rfl,href,hkl,hov,hB⟩:=hrel;have qB:=ae href;have eT:=ae hkl;have fF:=ae (show K.length<=2000000 by omega);have dK:=ae hov;have bm:=ae hB;have fT:=hB.size;clear href hkl hov hB;by_cases hlt:j<m0
    ·have d1:decide ((j:Int)<(m0:Int))=true:=decide_eq_true (by omega);obtain⟨e,he⟩:∃e,B[j]? =some e:=⟨_,List.getElem?_eq_getElem (by rw[<-Fd.out];exact hlt)⟩;have uw:=ae (show(B.map Te.tl)[j]? =some e.tl by rw[List.getElem?_map,he];rfl);obtain⟨b,off,hva,hbw,hrows⟩:=sW.out.resolve_left (fun h=>by rw[h] at he;simp at he);have hpe:=MS.out e (List.mem_of_getElem? he);have hcs:∀y,y<5->wr.cell? ⟨b,off+j*5+y,none⟩=e.row[y]? :=fun y hy=>by
      rw[bm.out.cell hbw,hrows j e.row (by rw[List.getElem?_map,he];rfl) y hy]
     clear he hrows hbw;obtain⟨⟨k0,k1,k2,k3⟩,ev,P⟩:=e;have yq:=ae hpe;obtain⟨ea,ec,hev,_⟩:=hpe;obtain rfl:ev=.slice ea P.length ec:=hev;obtain⟨m,hm⟩:∃m,m=P.length:=⟨_,rfl⟩;simp only[Te.row,Ky.row,<-hm] at hcs yq;clear hm;subst hva;have a0:wr.cell? ⟨b,off+j*5,none⟩=some (.int .i64 k0):=hcs 0 (by decide);have a1:wr.cell? ⟨b,off+j*5+1,none⟩=some (.int .i64 k1):=hcs 1 (by decide);have a2:wr.cell? ⟨b,off+j*5+2,none⟩=some (.int .i64 k2):=hcs 2 (by decide);have a3:wr.cell? ⟨b,off+j*5+3,none⟩=some (.int .i64 k3):=hcs 3 (by decide);have a4:wr.cell? ⟨b,off+j*5+4,none⟩=some (.slice ea m ec):=hcs 4 (by decide);clear hcs;go_upto_region 11 with fail;refine au (fun W5 gx=>?_);have sN:=ae (show W5.heap[wr.heap.size]? =some (.cells #[.int .i64 k0,.int .i64 k1,.int .i64 k2,.int .i64 k3,.slice ea m ec] 101) by rw[gx];exact ai _ _ _ rfl);have hb5:Below wr.heap.size wr W5:=by rw[gx];exact(Below.refl _ _).alloc (Nat.le_refl _) _
     have fq:=ae (bm.out.trans (hb5.mono fT));have pG:=ae (show bW W5 w.heap.size ov K from al.grow' dK.out hb5);have ib:=ae (yq.out.still fq.out);clear gx hb5 a0 a1 a2 a3 a4 dK;obtain⟨g,hg⟩:∃g,g=wr.heap.size:=⟨_,rfl⟩;rw[<-hg] at sN⊢;clear hg;obtain⟨oa,oc,hoe⟩:=bW.slice pG.out;subst hoe;obtain⟨kn,hkn⟩:∃kn,kn=K.length:=⟨_,rfl⟩;rw[<-hkn] at pG⊢;have Dg:=ae hkn;have hkn2:kn<=2000000:=by rw[hkn];exact fF.out
     clear hkn;go_wp2_with fail
     go_loopw [10,38] (fun hv kv W=>∃k:Nat,k<=kn/\kv=.int .i64 (k:Int)/\hv=.bool (decide ((⟨k0,k1,k2,k3⟩:Ky)∈K.take k))/\Below W5.heap.size W5 W) (fun _ kv _=>kn-(intOf kv).toNat)
     case atStart=>exact⟨0,by omega,rfl,by simp,Below.refl _ _⟩
     case round=>
      obtain⟨k,hk,rfl,rfl,hB⟩:=hrel;obtain⟨hd,hhd⟩:∃hd,hd=decide ((⟨k0,k1,k2,k3⟩:Ky)∈K.take k):=⟨_,rfl⟩;rw[<-hhd];have Eo:=ae hhd;have gi:=ae hB;have hzk:=hB.size;clear hhd hB;by_cases hlk:k<kn
      ·have d2:decide ((k:Int)<(kn:Int))=true:=decide_eq_true (by omega);obtain⟨c,hc⟩:∃c,K[k]? =some c:=⟨_,List.getElem?_eq_getElem (by rw[<-Dg.out];exact hlk)⟩;obtain⟨og,ogc,hsl,hgb,hgs,hcells⟩:=bW.cells pG.out (by rw[<-Dg.out];omega);injection hsl with hsl hnn hcap
       clear hnn hcap;subst hsl;have hcs:∀y,y<4->wr.cell? ⟨og,k*4+y,none⟩=c.row[y]? :=fun y hy=>by
        rw[gi.out.cell hgs];exact hcells k c hc y hy
       have Na:=ae (pq (x:=(⟨k0,k1,k2,k3⟩:Ky)) hc);have heq:=fun W=>GL c ⟨k0,k1,k2,k3⟩ W
       clear hcells hgb hgs hc;obtain⟨be,hbe⟩:∃be,be=decide (c=(⟨k0,k1,k2,k3⟩:Ky)):=⟨_,rfl⟩;rw[<-hbe,<-Eo.out] at Na;simp only[<-hbe] at heq;clear hbe;obtain⟨c0,c1,c2,c3⟩:=c;simp only[Ky.row] at heq hcs;have b0:wr.cell? ⟨og,k*4,none⟩=some (.int .i64 c0):=hcs 0 (by decide);have b1:wr.cell? ⟨og,k*4+1,none⟩=some (.int .i64 c1):=hcs 1 (by decide);have b2:wr.cell? ⟨og,k*4+2,none⟩=some (.int .i64 c2):=hcs 2 (by decide);have b3:wr.cell? ⟨og,k*4+3,none⟩=some (.int .i64 c3):=hcs 3 (by decide);clear hcs;go_upto_region 15 with fail;refine au (fun W7 o7=>?_);have xm:=ae (show W7.heap[wr.heap.size]? =some (.cells #[.int .i64 c0,.int .i64 c1,.int .i64 c2,.int .i64 c3] 99) by rw[o7];exact ai _ _ _ rfl);have cU:=ae (show Below W5.heap.size W5 W7 by rw[o7];exact gi.out.alloc hzk _);have ux:=ae (aj cU.out sN.out);clear o7 b0 b1 b2 b3;obtain⟨g7,jV⟩:∃g7,g7=wr.heap.size:=⟨_,rfl⟩;rw[<-jV] at xm⊢;clear jV
       cases hd
       ·have Hb:=ae (show decide ((⟨k0,k1,k2,k3⟩:Ky)∈K.take (k+1))=be from Na.out);have t0:W7.cell? ⟨g,0,none⟩=some (.int .i64 k0):=(af (j:=0) ux.out).trans rfl;have t1:W7.cell? ⟨g,1,none⟩=some (.int .i64 k1):=(af (j:=1) ux.out).trans rfl;have t2:W7.cell? ⟨g,2,none⟩=some (.int .i64 k2):=(af (j:=2) ux.out).trans rfl;have t3:W7.cell? ⟨g,3,none⟩=some (.int .i64 k3):=(af (j:=3) ux.out).trans rfl;have b0:W7.cell? ⟨g7,0,none⟩=some (.int .i64 c0):=(af (j:=0) xm.out).trans rfl;have b1:W7.cell? ⟨g7,1,none⟩=some (.int .i64 c1):=(af (j:=1) xm.out).trans rfl;have b2:W7.cell? ⟨g7,2,none⟩=some (.int .i64 c2):=(af (j:=2) xm.out).trans rfl;have b3:W7.cell? ⟨g7,3,none⟩=some (.int .i64 c3):=(af (j:=3) xm.out).trans rfl;go_wp2_with fail;exact⟨⟨k+1,by omega,by go_num,by rw[Hb.out],cU.out⟩,by simp[intOf];omega⟩
       ·have Hb:=ae (show decide ((⟨k0,k1,k2,k3⟩:Ky)∈K.take (k+1))=true from Na.out);go_wp2_with fail;exact⟨⟨k+1,by omega,by go_num,by rw[Hb.out],cU.out⟩,by simp[intOf];omega⟩
      ·obtain rfl:k=kn:=by omega
       have d2:decide ((k:Int)<(k:Int))=false:=by simp
       have sm:=ae (show K.take k=K by rw[Dg.out,List.take_length]);rw[sm.out] at Eo;have ux:=ae (aj gi.out sN.out);have cU:=ae (fq.out.trans (gi.out.mono fq.out.size));have lw:=ae (show bW wr w.heap.size (.slice oa k oc) K from al.grow' pG.out gi.out);have Ru:=ae (ib.out.still gi.out);clear pG ib fq
       cases hd
       ·have P9:=ae (of_decide_eq_false Eo.out.symm);obtain⟨bl,hbl⟩:∃bl,bl=decide ((⟨⟨k0,k1,k2,k3⟩,P⟩:Tl)∉A.map Te.tl):=⟨_,rfl⟩;have Kb:=ae (show Calls Tryz.prog 97 #[.slice aa i ca,.agg #[.int .i64 k0,.int .i64 k1,.int .i64 k2,.int .i64 k3,.slice ea m ec]] wr fun r w'=>r=.returned (.bool bl)/\Below wr.heap.size wr w' from hbl▸qq _ _ A ⟨k0,k1,k2,k3⟩ P wr (HA.out.still cU.out) Ru.out (by rw[<-HN.out];exact hla) DK.out);have vy:=ae (fun h:bl=true=>of_decide_eq_true (show decide ((⟨⟨k0,k1,k2,k3⟩,P⟩:Tl)∉A.map Te.tl)=true from hbl▸h));have uV:=ae (fun h:bl=false=>Decidable.not_not.1 (of_decide_eq_false (show decide ((⟨⟨k0,k1,k2,k3⟩,P⟩:Tl)∉A.map Te.tl)=false from hbl▸h)));clear hbl;have t0:wr.cell? ⟨g,0,none⟩=some (.int .i64 k0):=(af (j:=0) ux.out).trans rfl;have t1:wr.cell? ⟨g,1,none⟩=some (.int .i64 k1):=(af (j:=1) ux.out).trans rfl;have t2:wr.cell? ⟨g,2,none⟩=some (.int .i64 k2):=(af (j:=2) ux.out).trans rfl;have t3:wr.cell? ⟨g,3,none⟩=some (.int .i64 k3):=(af (j:=3) ux.out).trans rfl;have t4:wr.cell? ⟨g,4,none⟩=some (.slice ea m ec):=(af (j:=4) ux.out).trans rfl;go_wp2_with fail;refine Kb.out.mono ?_;rintro r w8 ⟨rfl,KV⟩;have KK:=ae (aj KV ux.out);have ij:=ae (cU.out.trans (KV.mono cU.out.size));have Dl:=ae (show bW w8 w.heap.size (.slice oa k oc) K from al.grow' lw.out KV);clear KV t0 t1 t2 t3 t4 Kb
        cases bl
        ·have eC:=ae (qB.out.right_no uw.out (Or.inr (uV.out rfl)));clear vy uV;go_wp2_with fail;exact⟨⟨j+1,by omega,by go_num,K,_,rfl,eC.out,by have:=eT.out;omega,Dl.out,ij.out⟩,by simp[intOf];omega⟩
        ·have eC:=ae (qB.out.right_yes uw.out P9.out (vy.out rfl));clear vy uV;have t0:w8.cell? ⟨g,0,none⟩=some (.int .i64 k0):=(af (j:=0) KK.out).trans rfl;have t1:w8.cell? ⟨g,1,none⟩=some (.int .i64 k1):=(af (j:=1) KK.out).trans rfl;have t2:w8.cell? ⟨g,2,none⟩=some (.int .i64 k2):=(af (j:=2) KK.out).trans rfl;have t3:w8.cell? ⟨g,3,none⟩=some (.int .i64 k3):=(af (j:=3) KK.out).trans rfl;have kP:=ae (aB.one (ai w8 _ _ rfl):aB (w8.alloc (.cells #[.int .i64 k0,.int .i64 k1,.int .i64 k2,.int .i64 k3] 99)) w8.heap.size 0 4 [[.int .i64 k0,.int .i64 k1,.int .i64 k2,.int .i64 k3]]);have eK:=ae (al.grow' Dl.out ((Below.refl _ _).alloc (Nat.le_refl _) _):al (w8.alloc (.cells #[.int .i64 k0,.int .i64 k1,.int .i64 k2,.int .i64 k3] 99)) w.heap.size 99 4 (.slice oa k oc) (K.map Ky.row));have bR:=ae (ij.out.alloc ij.out.size _:Below w.heap.size w (w8.alloc (.cells #[.int .i64 k0,.int .i64 k1,.int .i64 k2,.int .i64 k3] 99)));have ez:=ae (show(K.map Ky.row).length +1<=maxLen by rw[List.length_map];have:=fF.out;unfold maxLen;omega);have HL2:=ae (show((K.map Ky.row).length +1)*32<=140737488355328 by rw[List.length_map];have:=fF.out;omega)
         go_wp2_with (first
          | (at_builtin
             refine ar rfl (.tmp 57) (.tmp 60) 108 rfl w.heap.size 99 i0 _ 4 32 Tryz.underlying108 HI.out HZ0.out HZ1.out HZ2.out rfl (by decide) _ (K.map Ky.row) [[.int .i64 k0,.int .i64 k1,.int .i64 k2,.int .i64 k3]] rfl eK.out w8.heap.size 0 1 1 rfl rfl kP.out (i2 _ _ _ _) ez.out HL2.out bR.out.size ?_;intro v6 W6 aV da z6;clear z6;have fD:=ae (show bW W6 w.heap.size v6 (K++[⟨k0,k1,k2,k3⟩]) by unfold bW;rw[List.map_append];exact aV);have dD:=ae (show Below w.heap.size w W6 from bR.out.grown da bR.out.size (fun k hk=>al.ownBlock eK.out k hk))
             clear aV da))
         exact⟨⟨j+1,by omega,by go_num,_,_,rfl,eC.out,by rw[List.length_append];have:=eT.out;show K.length+1<=_;omega,fD.out,dD.out⟩,by simp[intOf];omega⟩
       ·have Qs:=ae (of_decide_eq_true Eo.out.symm);have eC:=ae (qB.out.right_no uw.out (Or.inl Qs.out));go_wp2_with fail;exact⟨⟨j+1,by omega,by go_num,K,_,rfl,eC.out,by have:=eT.out;omega,lw.out,cU.out⟩,by simp[intOf];omega⟩
    ·obtain rfl:j=m0:=by omega
     have d1:decide ((j:Int)<(j:Int))=false:=by simp
     obtain⟨ma,mcap,hmv⟩:=bW.slice dK.out;subst hmv;obtain⟨kn,hkn⟩:∃kn,kn=K.length:=⟨_,rfl⟩;rw[<-hkn] at dK⊢;have Dg:=ae hkn;have hkn2:kn<=2000000:=by rw[hkn];exact fF.out
     clear hkn;go_wp2_with fail
     go_loopw [65] (fun iv W=>JY w K kn (.slice ma kn mcap) iv W) (fun iv _=>kn-(intOf iv).toNat)
     case atStart=>exact⟨0,K,by omega,rfl,List.Perm.refl _,fun a b x y _ h=>by omega,dK.out,bm.out⟩
     case round=>
      obtain⟨u,Ls,hu,rfl,hpm,hst,AM,hB⟩:=hrel;have rJ:=ae hpm;have HST:=ae hst;have AF:=ae AM;have aA:=ae hB;clear hpm hst AM hB;by_cases hlu:u<kn
      ·have d2:decide ((u:Int)<(kn:Int))=true:=decide_eq_true (by omega);go_wp2_with fail
       go_loopw [14] (fun kv W=>JD w K u (.slice ma kn mcap) kv W) (fun kv _=>(intOf kv).toNat)
       case atStart=>exact⟨u,Ls,by omega,rfl,rJ.out,lR HST.out,AF.out,aA.out⟩
       case round=>
        obtain⟨k,Lk,hk,rfl,hpm,hin,AM,hB⟩:=hrel;have kI:=ae hpm;have qL:=ae hin;have fz:=ae AM;have gi:=ae hB;have hzw:=hB.size;clear hpm hin AM hB;have hLn:Lk.length=kn:=by rw[kI.out.length_eq];exact Dg.out.symm
        by_cases hk0:k=0
        ·subst hk0;go_wp2_with fail;refine wp_region_quiet_below (by kernel_rfl) (by kernel_rfl) ?_
         repeat(first|go_big_quiet_step (fail) |quiet_step (fail))
         refine wpQuiet_nil ?_;intro _ hw';obtain⟨⟨dqV,osV⟩,hw2⟩:=hw';subst hw2;have aO:=ae (below_regrown wr dqV osV);generalize Sort.grow (redrawn wr dqV) osV=V at aO⊢;have gf:=aO.out.size;go_wp2_with fail;exact⟨⟨u+1,Lk,by omega,by go_num,kI.out,ju (r:=Ky.lt) (k:=0) (fun x y z h1 h2=>Ky.not_lt_trans h2 h1) qL.out (Nat.zero_le _) (fun x y h=>by omega),al.grow' fz.out aO.out,gi.out.trans (aO.out.mono hzw)⟩,by simp[intOf];omega⟩
        ·obtain⟨p,hp⟩:∃p,Lk[k]? =some p:=⟨_,List.getElem?_eq_getElem (by omega)⟩;obtain⟨q,hq⟩:∃q,Lk[k-1]? =some q:=⟨_,List.getElem?_eq_getElem (by omega)⟩;obtain⟨g,gcap,hsl,hgb,hgs,hcells⟩:=bW.cells fz.out (by omega);injection hsl with hsl hnn hcap
         clear hnn;subst hsl hcap;have rN:=hcells k p hp;have hq4:=hcells (k-1) q hq;have ib:=ae hp;have sF:=ae hq;clear hcells hp hq hLn;obtain⟨p0,p1,p2,p3⟩:=p;obtain⟨q0,q1,q2,q3⟩:=q;simp only[Ky.row] at rN hq4;have a0:=fun d os=>cell_regrown (show wr.cell? ⟨g,k*4,none⟩=some (.int .i64 p0) from rN 0 (by decide)) d os
         have a1:=fun d os=>cell_regrown (show wr.cell? ⟨g,k*4+1,none⟩=some (.int .i64 p1) from rN 1 (by decide)) d os
         have a2:=fun d os=>cell_regrown (show wr.cell? ⟨g,k*4+2,none⟩=some (.int .i64 p2) from rN 2 (by decide)) d os
         have a3:=fun d os=>cell_regrown (show wr.cell? ⟨g,k*4+3,none⟩=some (.int .i64 p3) from rN 3 (by decide)) d os
         have b0:=fun d os=>cell_regrown (show wr.cell? ⟨g,(k-1)*4,none⟩=some (.int .i64 q0) from hq4 0 (by decide)) d os
         have b1:=fun d os=>cell_regrown (show wr.cell? ⟨g,(k-1)*4+1,none⟩=some (.int .i64 q1) from hq4 1 (by decide)) d os
         have b2:=fun d os=>cell_regrown (show wr.cell? ⟨g,(k-1)*4+2,none⟩=some (.int .i64 q2) from hq4 2 (by decide)) d os
         have b3:=fun d os=>cell_regrown (show wr.cell? ⟨g,(k-1)*4+3,none⟩=some (.int .i64 q3) from hq4 3 (by decide)) d os
         clear rN hq4;have hg0:decide ((0:Int)<(k:Int))=true:=decide_eq_true (by omega);have hg1:0<k:=by omega
         obtain⟨bv,hbv⟩:∃bv,bv=decide ((⟨p0,p1,p2,p3⟩:Ky).lt ⟨q0,q1,q2,q3⟩):=⟨_,rfl⟩;have rL:=ae (show ∀W,Calls Tryz.prog 94 #[.agg #[.int .i64 p0,.int .i64 p1,.int .i64 p2,.int .i64 p3],.agg #[.int .i64 q0,.int .i64 q1,.int .i64 q2,.int .i64 q3]] W fun r w'=>r=.returned (.bool bv)/\Below W.heap.size W w' from fun W=>hbv▸fR ⟨p0,p1,p2,p3⟩ ⟨q0,q1,q2,q3⟩ W);have ka:=ae (fun h:bv=true=>of_decide_eq_true (show decide ((⟨p0,p1,p2,p3⟩:Ky).lt ⟨q0,q1,q2,q3⟩)=true from hbv▸h));have pg:=ae (fun h:bv=false=>of_decide_eq_false (show decide ((⟨p0,p1,p2,p3⟩:Ky).lt ⟨q0,q1,q2,q3⟩)=false from hbv▸h));clear hbv
         cases bv
         ·have lm:=ae (pg.out rfl);clear ka pg;go_wp2_with fail;refine wp_region_quiet_below (by kernel_rfl) (by kernel_rfl) ?_
          repeat(first|go_big_quiet_step ((go_at_call 94;with_reducible exact Calls.regrown_of (rL.out _))) |quiet_step ((go_at_call 94;with_reducible exact Calls.regrown_of (rL.out _))))
          refine wpQuiet_nil ?_;intro _ hw';obtain⟨⟨dqV,osV⟩,hw2⟩:=hw';subst hw2;have aO:=ae (below_regrown wr dqV osV);generalize Sort.grow (redrawn wr dqV) osV=V at aO⊢;have gf:=aO.out.size;have dK:=ae (al.grow' fz.out aO.out);have cr:=ae (gi.out.trans (aO.out.mono hzw));clear a0 a1 a2 a3 b0 b1 b2 b3;go_wp2_with fail
          exact⟨⟨u+1,Lk,by omega,by go_num,kI.out,ju (r:=Ky.lt) (k:=k) (fun x y z h1 h2=>Ky.not_lt_trans h2 h1) qL.out hk (fun x y _ h1 h2=>by
           rw[ib.out] at h1;rw[sF.out] at h2;injection h1 with h1
           injection h2 with h2
           subst h1 h2
           exact lm.out),dK.out,cr.out⟩,by simp[intOf];omega⟩
         ·have lm:=ae (ka.out rfl);clear ka pg;go_wp2_with fail;refine wp_region_quiet_below (by kernel_rfl) (by kernel_rfl) ?_
          repeat(first|go_big_quiet_step ((go_at_call 94;with_reducible exact Calls.regrown_of (rL.out _))) |quiet_step ((go_at_call 94;with_reducible exact Calls.regrown_of (rL.out _))))
          refine wpQuiet_nil ?_;intro _ hw';obtain⟨⟨dqV,osV⟩,hw2⟩:=hw';subst hw2;have aO:=ae (below_regrown wr dqV osV);generalize Sort.grow (redrawn wr dqV) osV=V at aO⊢;have gf:=aO.out.size;have dK:=ae (show bW V w.heap.size (.slice (some ⟨g,0,none⟩) kn mcap) Lk from al.grow' fz.out aO.out);have cr:=ae (gi.out.trans (aO.out.mono hzw));clear a0 a1 a2 a3 b0 b1 b2 b3 rL;go_wp2_with fail;obtain⟨z1,C,z2,hC,hle,z3,Au,z4⟩:=eX dK.out;rw[List.length_map,kI.out.length_eq,<-Dg.out] at hle;have Lm:kn*4<=C.size:=by rw[Au];exact Nat.mul_le_mul_right 4 hle
          have YC:=ae hC;obtain⟨g',gcap',hsl',hgb',hgs',hcells⟩:=bW.cells dK.out (by rw[kI.out.length_eq,<-Dg.out];omega);obtain rfl:g=g':=by injection hsl' with e;injection e with e;injection e
          clear hsl';have YP:=ae (show ∀j,j<4->V.cell? ⟨g,k*4+j,none⟩=(⟨p0,p1,p2,p3⟩:Ky).row[j]? from fun j hj=>hcells k _ ib.out j hj);have YQ:=ae (show ∀j,j<4->V.cell? ⟨g,(k-1)*4+j,none⟩=(⟨q0,q1,q2,q3⟩:Ky).row[j]? from fun j hj=>hcells (k-1) _ sF.out j hj);clear z1 z2 z3 z4 hcells hC Au hle hgb';refine bf (fun A0 hA=>?_);refine bD (by kernel_rfl) (by kernel_rfl) [some 85,some 86,some 87,some 88,some 89,some 90,some 91,some 92,some 93,some 94,some 95,some 96,some 97,some 98,some 99,none,some 100,none] rfl (by decide) (gN V.drew (V.drew.setRow g (fA C (k*4) [.int .i64 q0,.int .i64 q1,.int .i64 q2,.int .i64 q3])) ((V.drew.setRow g (fA C (k*4) [.int .i64 q0,.int .i64 q1,.int .i64 q2,.int .i64 q3])).setRow g (fA (fA C (k*4) [.int .i64 q0,.int .i64 q1,.int .i64 q2,.int .i64 q3]) ((k-1)*4) [.int .i64 p0,.int .i64 p1,.int .i64 p2,.int .i64 p3])) 15 17 [0,1,5,6,7,8,9,13,14] [.slice (some ⟨g,0,none⟩) kn mcap,.int .i64 (k:Int),.slice (some ⟨g,0,none⟩) kn mcap,.int .i64 (k:Int),.int .i64 ((k:Int)-1),.slice (some ⟨g,0,none⟩) kn mcap,.int .i64 (k:Int),.int .i64 ((k:Int)-1),.pointer (some ⟨g,(k-1)*4,none⟩),.agg #[.int .i64 q0,.int .i64 q1,.int .i64 q2,.int .i64 q3],.slice (some ⟨g,0,none⟩) kn mcap,.int .i64 (k:Int),.pointer (some ⟨g,k*4,none⟩),.agg #[.int .i64 p0,.int .i64 p1,.int .i64 p2,.int .i64 p3],.pointer (some ⟨g,k*4,none⟩),undef,.pointer (some ⟨g,(k-1)*4,none⟩),undef]) (fy A0 _) (ci A0 _) gN.start ?hs1_26_W1 ?hend_26_W1
          case hs1_26_W1=>
           refine⟨?_,?_,?_,?_,?_,?_,?_,?_,?_,?_,?_,?_,?_,?_,?_,?_,?_,?_,trivial⟩
           ·intro K L us W ak hL hd hR;have hK:=ae (fun v A' h1 h2=>ak v A' W h1 (hR.pure 0 (by decide) (by decide) h2));clear ak
            (try simp[Region.binds] at hd)
            clear hd hR;simp only[ah];rw[hA];go_frame;go_wp2_with fail;exact hK.out _ _ (by rw[hA];simp only[ah];kernel_rfl) rfl
           ·intro K L us W ak hL hd hR;have hK:=ae (fun v A' h1 h2=>ak v A' W h1 (hR.pure 1 (by decide) (by decide) h2));clear ak
            (try simp[Region.binds] at hd)
            clear hd hR;simp only[ah];rw[hA];go_frame;go_wp2_with fail;exact hK.out _ _ (by rw[hA];simp only[ah];kernel_rfl) rfl
           ·intro K L us W ak hL hd hR;have hK:=ae (fun v A' h1 h2=>ak v A' W h1 (hR.pure 2 (by decide) (by decide) h2));clear ak
            (try simp[Region.binds] at hd)
            clear hd hR;simp only[ah];rw[hA];go_frame;go_wp2_with fail;exact hK.out _ _ (by rw[hA];simp only[ah];kernel_rfl) rfl
           ·intro K L us W ak hL hd hR;have hK:=ae (fun v A' h1 h2=>ak v A' W h1 (hR.pure 3 (by decide) (by decide) h2));clear ak
            (try simp[Region.binds] at hd)
            clear hd hR;simp only[ah];rw[hA];go_frame;go_wp2_with fail;exact hK.out _ _ (by rw[hA];simp only[ah];kernel_rfl) rfl
           ·intro K L us W ak hL hd hR;have hK:=ae (fun v A' h1 h2=>ak v A' W h1 (hR.pure 4 (by decide) (by decide) h2));clear ak
            (try simp[Region.binds] at hd)
            have e3:us 3=.int .i64 (k:Int):=hR.vals 3 (by simp[hd]) (by decide) (by decide);clear hd hR;simp only[ah];rw[hA,e3];go_frame;go_wp2_with fail;exact hK.out _ _ (by rw[hA];simp only[ah];rw[e3];kernel_rfl) rfl
           ·intro K L us W ak hL hd hR;have hK:=ae (fun v A' h1 h2=>ak v A' W h1 (hR.pure 5 (by decide) (by decide) h2));clear ak
            (try simp[Region.binds] at hd)
            clear hd hR;simp only[ah];rw[hA];go_frame;go_wp2_with fail;exact hK.out _ _ (by rw[hA];simp only[ah];kernel_rfl) rfl
           ·intro K L us W ak hL hd hR;have hK:=ae (fun v A' h1 h2=>ak v A' W h1 (hR.pure 6 (by decide) (by decide) h2));clear ak
            (try simp[Region.binds] at hd)
            clear hd hR;simp only[ah];rw[hA];go_frame;go_wp2_with fail;exact hK.out _ _ (by rw[hA];simp only[ah];kernel_rfl) rfl
           ·intro K L us W ak hL hd hR;have hK:=ae (fun v A' h1 h2=>ak v A' W h1 (hR.pure 7 (by decide) (by decide) h2));clear ak
            (try simp[Region.binds] at hd)
            have e6:us 6=.int .i64 (k:Int):=hR.vals 6 (by simp[hd]) (by decide) (by decide);clear hd hR;simp only[ah];rw[hA,e6];go_frame;go_wp2_with fail;exact hK.out _ _ (by rw[hA];simp only[ah];rw[e6];kernel_rfl) rfl
           ·intro K L us W ak hL hd hR;have hK:=ae (fun v A' h1 h2=>ak v A' W h1 (hR.pure 8 (by decide) (by decide) h2));clear ak
            (try simp[Region.binds] at hd)
            have e5:us 5=.slice (some ⟨g,0,none⟩) kn mcap:=hR.vals 5 (by simp[hd]) (by decide) (by decide);have e7:us 7=.int .i64 ((k:Int)-1):=hR.vals 7 (by simp[hd]) (by decide) (by decide);clear hd hR;simp only[ah];rw[hA,e5,e7];go_frame;go_wp2_with fail;exact hK.out _ _ (by rw[hA];simp only[ah];rw[e5,e7];kernel_rfl) rfl
           ·intro K L us W ak hL hd hR;have hK:=ae (fun v A' h1 h2=>ak v A' W h1 (hR.pure 9 (by decide) (by decide) h2));clear ak
            (try simp[Region.binds] at hd)
            have e8:us 8=.pointer (some ⟨g,(k-1)*4,none⟩):=hR.vals 8 (by simp[hd]) (by decide) (by decide);have hW:=hR.at0 (k:=9) (by decide) hL;clear hd hR;subst hW;have c0:V.drew.cell? ⟨g,(k-1)*4,none⟩=some (.int .i64 q0):=YQ.out 0 (by decide);have c1:V.drew.cell? ⟨g,(k-1)*4+1,none⟩=some (.int .i64 q1):=YQ.out 1 (by decide);have c2:V.drew.cell? ⟨g,(k-1)*4+2,none⟩=some (.int .i64 q2):=YQ.out 2 (by decide);have c3:V.drew.cell? ⟨g,(k-1)*4+3,none⟩=some (.int .i64 q3):=YQ.out 3 (by decide);simp only[ah];rw[hA,e8];go_frame;go_wp2_with fail;exact hK.out _ _ (by rw[hA];simp only[ah];rw[e8];kernel_rfl) rfl
           ·intro K L us W ak hL hd hR;have hK:=ae (fun v A' h1 h2=>ak v A' W h1 (hR.pure 10 (by decide) (by decide) h2));clear ak
            (try simp[Region.binds] at hd)
            clear hd hR;simp only[ah];rw[hA];go_frame;go_wp2_with fail;exact hK.out _ _ (by rw[hA];simp only[ah];kernel_rfl) rfl
           ·intro K L us W ak hL hd hR;have hK:=ae (fun v A' h1 h2=>ak v A' W h1 (hR.pure 11 (by decide) (by decide) h2));clear ak
            (try simp[Region.binds] at hd)
            clear hd hR;simp only[ah];rw[hA];go_frame;go_wp2_with fail;exact hK.out _ _ (by rw[hA];simp only[ah];kernel_rfl) rfl
           ·intro K L us W ak hL hd hR;have hK:=ae (fun v A' h1 h2=>ak v A' W h1 (hR.pure 12 (by decide) (by decide) h2));clear ak
            (try simp[Region.binds] at hd)
            have e10:us 10=.slice (some ⟨g,0,none⟩) kn mcap:=hR.vals 10 (by simp[hd]) (by decide) (by decide);have e11:us 11=.int .i64 (k:Int):=hR.vals 11 (by simp[hd]) (by decide) (by decide);clear hd hR;simp only[ah];rw[hA,e10,e11];go_frame;go_wp2_with fail;exact hK.out _ _ (by rw[hA];simp only[ah];rw[e10,e11];kernel_rfl) rfl
           ·intro K L us W ak hL hd hR;have hK:=ae (fun v A' h1 h2=>ak v A' W h1 (hR.pure 13 (by decide) (by decide) h2));clear ak
            (try simp[Region.binds] at hd)
            have e12:us 12=.pointer (some ⟨g,k*4,none⟩):=hR.vals 12 (by simp[hd]) (by decide) (by decide);have hW:=hR.at0 (k:=13) (by decide) hL;clear hd hR;subst hW;have c0:V.drew.cell? ⟨g,k*4,none⟩=some (.int .i64 p0):=YP.out 0 (by decide);have c1:V.drew.cell? ⟨g,k*4+1,none⟩=some (.int .i64 p1):=YP.out 1 (by decide);have c2:V.drew.cell? ⟨g,k*4+2,none⟩=some (.int .i64 p2):=YP.out 2 (by decide);have c3:V.drew.cell? ⟨g,k*4+3,none⟩=some (.int .i64 p3):=YP.out 3 (by decide);simp only[ah];rw[hA,e12];go_frame;go_wp2_with fail;exact hK.out _ _ (by rw[hA];simp only[ah];rw[e12];kernel_rfl) rfl
           ·intro K L us W ak hL hd hR;have hK:=ae (fun v A' h1 h2=>ak v A' W h1 (hR.pure 14 (by decide) (by decide) h2));clear ak
            (try simp[Region.binds] at hd)
            have e0:us 0=.slice (some ⟨g,0,none⟩) kn mcap:=hR.vals 0 (by simp[hd]) (by decide) (by decide);have e1:us 1=.int .i64 (k:Int):=hR.vals 1 (by simp[hd]) (by decide) (by decide);clear hd hR;simp only[ah];rw[hA,e0,e1];go_frame;go_wp2_with fail;exact hK.out _ _ (by rw[hA];simp only[ah];rw[e0,e1];kernel_rfl) rfl
           ·intro K L us W ak hL hd hR;simp[Region.binds] at hd;have e14:us 14=.pointer (some ⟨g,k*4,none⟩):=hR.vals 14 (by simp[hd]) (by decide) (by decide);have e9:us 9=.agg #[.int .i64 q0,.int .i64 q1,.int .i64 q2,.int .i64 q3]:=hR.vals 9 (by simp[hd]) (by decide) (by decide);have hp:∀j∈[0,1,5,6,7,8,9,13,14],L j=true:=by
             intro j hj;simp only[List.mem_cons,List.not_mem_nil,or_false] at hj
             rcases hj with rfl|rfl|rfl|rfl|rfl|rfl|rfl|rfl|rfl
             all_goals(simp[hd])
            have hW:=(hR.fst (v:=undef) hL hp (by decide)).1;have hK:=ae (fun A' h1=>ak undef A' _ h1 (hR.fst hL hp (by decide)).2);clear ak hp;clear hd hR;subst hW;simp only[ah];rw[hA,e14,e9];go_frame;go_wp2_with (refine eN rfl 99 (.tmp 99) (.tmp 94) rfl g (k*4) _ rfl rfl (show V.drew.heap[g]? =_ from YC.out) ku rfl (by show k*4+4<=C.size;omega) rfl ?_);exact hK.out _ (by rw[hA];simp only[ah];rw[e14,e9];kernel_rfl)
           ·intro K L us W ak hL hd hR;have hK:=ae (fun v A' h1 h2=>ak v A' W h1 (hR.pure 16 (by decide) (by decide) h2));clear ak
            (try simp[Region.binds] at hd)
            have e2:us 2=.slice (some ⟨g,0,none⟩) kn mcap:=hR.vals 2 (by simp[hd]) (by decide) (by decide);have e4:us 4=.int .i64 ((k:Int)-1):=hR.vals 4 (by simp[hd]) (by decide) (by decide);clear hd hR;simp only[ah];rw[hA,e2,e4];go_frame;go_wp2_with fail;exact hK.out _ _ (by rw[hA];simp only[ah];rw[e2,e4];kernel_rfl) rfl
           ·intro K L us W ak hL hd hR;simp[Region.binds] at hd;have e16:us 16=.pointer (some ⟨g,(k-1)*4,none⟩):=hR.vals 16 (by simp[hd]) (by decide) (by decide);have e13:us 13=.agg #[.int .i64 p0,.int .i64 p1,.int .i64 p2,.int .i64 p3]:=hR.vals 13 (by simp[hd]) (by decide) (by decide);have h5:L 15=true:=by simp[hd]
            have hW:=(hR.snd (v:=undef) h5 hL).1;have hK:=ae (fun A' h1=>ak undef A' _ h1 (hR.snd h5 hL).2);clear ak;clear hd hR;subst hW;simp only[ah];rw[hA,e16,e13];go_frame;go_wp2_with (refine eN rfl 99 (.tmp 100) (.tmp 98) rfl g ((k-1)*4) _ rfl rfl (setRow_heap _ _ _ _ _ _ (show V.drew.heap[g]? =_ from YC.out)) ku rfl (by show(k-1)*4+4<=(fA C (k*4) _).size;rw[i9];omega) rfl ?_);exact hK.out _ (by rw[hA];simp only[ah];rw[e16,e13];kernel_rfl)
          intro L us W1 hL hR;have hW:W1=(V.drew.setRow g (fA C (k*4) [.int .i64 q0,.int .i64 q1,.int .i64 q2,.int .i64 q3])).setRow g (fA (fA C (k*4) [.int .i64 q0,.int .i64 q1,.int .i64 q2,.int .i64 q3]) ((k-1)*4) [.int .i64 p0,.int .i64 p1,.int .i64 p2,.int .i64 p3]):=by have:=hR.wld;rw[hL 17 (by decide)] at this;exact this
          clear hR hL;simp only[ah];rw[hA];clear hA;go_frame;subst hW;have zQ:=ae (lG (enc:=Ky.row) (show al V.drew w.heap.size 99 4 (.slice (some ⟨g,0,none⟩) kn mcap) (Lk.map Ky.row) from al.drew dK.out) YC.out rfl rfl (Ky.row_one _) (Ky.row_one _) ib.out sF.out);have dQ:=ae (fun X Y=>dT (X:=Y) (dT (X:=X) (kg cr.out) hgb) hgb);simp only[Ky.row] at zQ;have jI:=ae ((qV ib.out sF.out).trans kI.out)
          have Jt:=ae (show jL Ky.lt ((Lk.set k ⟨q0,q1,q2,q3⟩).set (k-1) ⟨p0,p1,p2,p3⟩) u (k-1) by
           have e:k=(k-1)+1:=by omega
           have h:=nZ (r:=Ky.lt) (k:=k-1) (fun x y h h2=>Ky.lt_irrefl _ (Ky.lt_trans h h2)) (by rw[<-e];exact qL.out) (by omega) (by rw[<-e];exact ib.out) sF.out lm.out;rw[<-e] at h
           exact h)
          go_wp2_with fail;exact⟨⟨k-1,_,by omega,by congr 1;omega,jI.out,Jt.out,zQ.out,dQ.out _ _⟩,by simp[intOf];omega⟩
      ·obtain rfl:u=kn:=by omega
       have d2:decide ((u:Int)<(u:Int))=false:=by simp
       have Do:=ae (show jg (A.map Te.tl) (B.map Te.tl) Ls from eM.done (K:=K) (by rw[List.length_map,List.length_map,<-HN.out,<-Fd.out];exact qB.out) rJ.out (tX (by have:=HST.out;rwa[Dg.out,<-rJ.out.length_eq] at this)));go_wp2_with fail;go_ret;exact⟨⟨_,Ls,rfl,AF.out,Do.out⟩,aA.out⟩
open Go.ChangeShapes Go.WideShapes Go.ChangeAt Go.RowKit Go.Maps Go.Sort
section
variable {H:Type} {enc:TypeId×Value->H} {w:World} {base:Nat} {spare:Nat->Bool} {held:Bool}
end
def qX (A B:List Tl):Int:=if cd A/\cd B then 0 else 81
structure jn (A B:List Tl) (e:Int) (K:List Ky):Prop where
 err:e=qX A B
 none:e≠0->K=[]
 some:e=0->jg A B K
theorem jn.bad {A B:List Tl} (h:¬(cd A/\cd B)):jn A B 81 []:=⟨by unfold qX;rw[if_neg h],fun _=>rfl,fun h0=>absurd h0 (by decide)⟩
theorem jn.good {A B:List Tl} {K:List Ky} (h:cd A) (h2:cd B) (hk:jg A B K):jn A B 0 K:=⟨by unfold qX;rw[if_pos ⟨h,h2⟩],fun h0=>absurd rfl h0,fun _=>hk⟩
end Go.Proofs.YtcclpdfmmdonpaaGreat
