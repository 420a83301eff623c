/- Texts of the seat Yteanlcefdoigcaa, turned to this one by wip/port.py: ChgX. -/
import Derived.Test.YtcclpdfmmdonpaaGreatTApp
namespace Go.Proofs.YtcclpdfmmdonpaaGreat
open Go.ChangeShapes Go.WideShapes Go.RowKit Go.Maps Go.Sort
def nL (v:Value):Prop:=∀a n c,v=.slice a n c->n<=c
theorem nL.slice {a:Option Addr} {n c:Nat} (h:n<=c):nL (.slice a n c):=fun a' n' c' e=>by
 injection e with _ e1 e2
 omega
def iW:Value->Nat
 | .slice _ n _=>n
 |_=>0
theorem wK (a b:Ky):0<ik a b↔b.lt a:=by
 unfold ik Ky.lt;by_cases h1:a.L=b.L
 ·rw[if_pos h1];by_cases h2:a.x=b.x
  ·rw[if_pos h2];by_cases h3:a.y=b.y
   ·rw[if_pos h3];by_cases h4:a.z=b.z
    ·rw[if_pos h4];omega
    ·rw[if_neg h4];omega
   ·rw[if_neg h3];omega
  ·rw[if_neg h2];omega
 ·rw[if_neg h1];omega
theorem DQ {a b:Ky} (h:ik a b=0):a=b:=by
 rcases Decidable.em (a=b) with e|e
 ·exact e
 ·rcases Ky.lt_total e with g|g
  ·have:=(rj a b).2 g;omega
  ·have:=(wK a b).2 g;omega
structure gy (w:World) (v:Value) (A:List Te) (i:Nat):Prop where
 til:cQ w v (A.drop i)
 cap:nL v
theorem gy.form {w:World} {v:Value} {A:List Te} {i:Nat} (h:gy w v A i):∃a c,v=.slice a (A.length-i) c:=by
 obtain⟨⟨a,c,h1,_⟩,_⟩:=h.til;rw[List.length_drop] at h1;exact⟨a,c,h1⟩
theorem gy.head {w:World} {a:Option Addr} {n c i:Nat} {A:List Te} (h:gy w (.slice a n c) A i) (hn:0<n):
 ∃(b off:Nat) (e:Te),a=some ⟨b,off,none⟩/\b<w.heap.size/\A[i]? =some e/\n=A.length-i/\n<=c/\(∀j,j<5->w.cell? ⟨b,off+j,none⟩=e.row[j]?)/\cj w e.v e.pts/\
  (c=1->gy w (.slice (some ⟨b,off,none⟩) (n-1) 0) A (i+1))/\(c≠1->gy w (.slice (some ⟨b,off+5,none⟩) (n-1) (c-1)) A (i+1)):=by
 obtain⟨⟨⟨a',c',h1,h2⟩,h3⟩,h4⟩:=h;injection h1 with h5 h6 h7
 subst h5 h7;have hl:n=A.length-i:=by rw[h6,List.length_drop]
 have hi:i<A.length:=by omega
 have hc:=h4 _ _ _ rfl;obtain⟨x,hA⟩:∃x,A[i]? =some x:=⟨_,List.getElem?_eq_getElem hi⟩;have hd:A.drop i=x::A.drop (i+1):=gE hA;rw[hd] at h2 h3;obtain⟨b,off,h8,h9,h10⟩:=h2.resolve_left (by simp);have hlen:(A.drop (i+1)).length =n-1:=by rw[List.length_drop];omega
 refine⟨b,off,x,h8,h9,hA,hl,hc,fun j hj=>?_,h3 _ List.mem_cons_self,fun h1=>?_,fun h1=>?_⟩
 ·have:=h10 0 x.row rfl j hj;rwa[Nat.zero_mul,Nat.add_zero] at this
 ·have hn1:n=1:=by omega
  have he:A.drop (i+1)=[]:=List.eq_nil_of_length_eq_zero (by omega);exact⟨⟨⟨_,_,by rw[hlen],Or.inl he⟩,fun e he'=>by rw[he] at he';simp at he'⟩,nL.slice (by omega)⟩
 ·refine⟨⟨⟨_,_,by rw[hlen],Or.inr ⟨b,off+5,rfl,h9,fun k r hk j hj=>?_⟩⟩,fun e he=>h3 e (List.mem_cons_of_mem _ he)⟩,nL.slice (by omega)⟩;have:=h10 (k+1) r (by rw[List.map_cons,List.getElem?_cons_succ];exact hk) j hj;rwa[show off+(k+1)*5+j=off+5+k*5+j by omega] at this
def Hs (w:World) (A B:List Te) (av bv ov:Value) (W:World):Prop:=
 ∃(i j:Nat) (K:List Ky) (o:Value),o=ov/\i<=A.length/\j<=B.length/\gy w av A i/\gy w bv B j/\eB (A.map Te.tl) (B.map Te.tl) i j K/\K.length<=i+j/\bW W w.heap.size ov K/\Below w.heap.size w W
theorem mC {A:List Te} {i:Nat} {e:Te} (h:A[i]? =some e):(A.map Te.tl)[i]? =some e.tl:=by rw[List.getElem?_map,h];rfl
set_option maxRecDepth 100000 in
set_option maxHeartbeats 6400000 in
theorem tA (va vb:Value) (A B:List Te) (w:World) (ha:cQ w va A) (hb:cQ w vb B) (hca:nL va) (hcb:nL vb) (hA:(A.map Te.tl).Pairwise (fun a b=>a.key.lt b.key)) (hB:(B.map Te.tl).Pairwise (fun a b=>a.key.lt b.key))
 (hsa:∀t∈A.map Te.tl,t.key.small) (hsb:∀t∈B.map Te.tl,t.key.small) (hla:A.length<=1000000) (hlb:B.length<=1000000) (hpa:∀e∈A,e.pts.length<=maxLen):
 Calls Tryz.prog 72 #[va,vb] w fun r w'=>(∃v K,r=.returned v/\bW w' w.heap.size v K/\jg (A.map Te.tl) (B.map Te.tl) K)/\Below w.heap.size w w':=by
 have Mq:=ae (show gy w va A 0 from⟨by rw[List.drop_zero];exact ha,hca⟩);have MX:=ae (show gy w vb B 0 from⟨by rw[List.drop_zero];exact hb,hcb⟩);have hA:=ae hA;have hB:=ae hB;have hsa:=ae hsa;have hsb:=ae hsb;have DK:=ae hpa;clear ha hb hca hcb hpa;obtain⟨i0,hi,hz0,hz1,hz2⟩:=aF CS;have HI:=ae hi;have HZ0:=ae hz0;have HZ1:=ae hz1;have HZ2:=ae hz2;clear hi hz0 hz1 hz2;go_enter Tryz.func72,Tryz.ntmps72;go_wp2_with fail
 go_loopw [0,1,5] (fun av bv ov W=>Hs w A B av bv ov W) (fun av bv _ _=>iW av+iW bv)
 case atStart=>exact⟨0,0,[],_,rfl,by omega,by omega,Mq.out,MX.out,eB.start _ _,by simp,bW.nil _ _,Below.refl _ _⟩
 case round=>
  obtain⟨i,j,K,ov,rfl,hi,hj,hra,hrb,hch,hkl,hov,hB0⟩:=hrel;obtain⟨aa,ca,rfl⟩:=hra.form;obtain⟨ab,cb,rfl⟩:=hrb.form;obtain⟨la,hlae⟩:∃la,la=A.length-i:=⟨_,rfl⟩;obtain⟨lb,hlbe⟩:∃lb,lb=B.length-j:=⟨_,rfl⟩;rw[<-hlae] at hra⊢;rw[<-hlbe] at hrb⊢;have J4:=ae hlae;have JV:=ae hlbe;have gg:=ae hra;have sW:=ae hrb;have Ax:=ae hch;have fF:=ae (show K.length<=2000000 by omega);have eT:=ae hkl;have dK:=ae hov;have aA:=ae hB0;have cr:=ae hB0;have hzw:=hB0.size;clear hlae hlbe hra hrb hch hkl hov hB0;by_cases Kh:0<la
  ·have dla:decide ((0:Int)<(la:Int))=true:=decide_eq_true (by omega);have ela:((la:Int) == 0)=false:=by simp;omega
   by_cases Gl:0<lb
   ·have dlb:decide ((0:Int)<(lb:Int))=true:=decide_eq_true (by omega);have elb:((lb:Int) == 0)=false:=by simp;omega
    have Cr:=gg;have As:=sW;obtain⟨ba,oa,ea,rfl,hba,hea,hna,hca,hcsa,hpa,AL,Bm⟩:=gy.head gg.out Kh;have Lw:=ae hea;have dI:=ae hba;have By:=ae hpa;have At:=ae AL;have B8:=ae Bm;have hwa:∀y,y<5->wr.cell? ⟨ba,oa+y,none⟩=ea.row[y]? :=fun y hy=>by rw[aA.out.cell hba];exact hcsa y hy
    have qY:=ae (DK.out ea (List.mem_of_getElem? hea));have IC:=ae (hsa.out ea.tl (List.mem_of_getElem? (mC hea)));have zu:=ae (mC hea);have hil:i<A.length:=(List.getElem?_eq_some_iff.1 hea).1;clear hea hba hpa AL Bm hcsa gg hna hca;obtain⟨⟨a0,a1,a2,a3⟩,av,pa⟩:=ea;obtain⟨paa,pac,hav,_⟩:=By.out;obtain rfl:av=.slice paa pa.length pac:=hav;obtain⟨pan,hpan⟩:∃pan,pan=pa.length:=⟨_,rfl⟩;simp only[Te.row,Ky.row,<-hpan] at hwa By;clear hpan;obtain⟨bb,ob,eb,rfl,hbb,heb,hnb,hcb,hcsb,hpb,BT,CB⟩:=gy.head sW.out Gl;have QI:=ae heb;have cX:=ae hbb;have xN:=ae hpb;have vf:=ae BT;have uF:=ae CB;have hwb:∀y,y<5->wr.cell? ⟨bb,ob+y,none⟩=eb.row[y]? :=fun y hy=>by rw[aA.out.cell hbb];exact hcsb y hy
    have CW:=ae (hsb.out eb.tl (List.mem_of_getElem? (mC heb)));have yI:=ae (mC heb);have hjl:j<B.length:=(List.getElem?_eq_some_iff.1 heb).1;clear heb hbb hpb BT CB hcsb sW hnb hcb;obtain⟨⟨b0,b1,b2,b3⟩,bv,pb⟩:=eb;obtain⟨pba,pbc,hbv,_⟩:=xN.out;obtain rfl:bv=.slice pba pb.length pbc:=hbv;obtain⟨pbn,hpbn⟩:∃pbn,pbn=pb.length:=⟨_,rfl⟩;simp only[Te.row,Ky.row,<-hpbn] at hwb xN;clear hpbn;obtain⟨cw,hcw⟩:∃cw,cw=py ⟨a0,a1,a2,a3⟩ ⟨b0,b1,b2,b3⟩:=⟨_,rfl⟩
    have pB:=ae (show ∀W,Calls Tryz.prog 68 #[.agg #[.int .i64 a0,.int .i64 a1,.int .i64 a2,.int .i64 a3],.agg #[.int .i64 b0,.int .i64 b1,.int .i64 b2,.int .i64 b3]] W fun r w'=>r=.returned (.int .i64 cw)/\Below W.heap.size W w' from fun W=>by
     rw[hcw]
     exact(xy ⟨a0,a1,a2,a3⟩ ⟨b0,b1,b2,b3⟩ W).mono (fun r w' h=>⟨h.1,ke h.2⟩))
    have Lv:=ae (show cw=ik ⟨a0,a1,a2,a3⟩ ⟨b0,b1,b2,b3⟩ from hcw.trans (vl IC.out CW.out));clear hcw;have P0:=fun d os=>cell_regrown (show wr.cell? ⟨ba,oa,none⟩=some (.int .i64 a0) from hwa 0 (by decide)) d os
    have P1:=fun d os=>cell_regrown (show wr.cell? ⟨ba,oa+1,none⟩=some (.int .i64 a1) from hwa 1 (by decide)) d os
    have P2:=fun d os=>cell_regrown (show wr.cell? ⟨ba,oa+2,none⟩=some (.int .i64 a2) from hwa 2 (by decide)) d os
    have P3:=fun d os=>cell_regrown (show wr.cell? ⟨ba,oa+3,none⟩=some (.int .i64 a3) from hwa 3 (by decide)) d os
    have Q0:=fun d os=>cell_regrown (show wr.cell? ⟨bb,ob,none⟩=some (.int .i64 b0) from hwb 0 (by decide)) d os
    have Q1:=fun d os=>cell_regrown (show wr.cell? ⟨bb,ob+1,none⟩=some (.int .i64 b1) from hwb 1 (by decide)) d os
    have Q2:=fun d os=>cell_regrown (show wr.cell? ⟨bb,ob+2,none⟩=some (.int .i64 b2) from hwb 2 (by decide)) d os
    have Q3:=fun d os=>cell_regrown (show wr.cell? ⟨bb,ob+3,none⟩=some (.int .i64 b3) from hwb 3 (by decide)) d os
    have Oz:=ae hwa;have Rz:=ae hwb;clear hwa hwb;have JG:=dK;clear cr dK;go_wp2_with fail;refine wp_region_quiet_below (by kernel_rfl) (by kernel_rfl) ?_
    repeat(first|go_big_quiet_step ((go_at_call 68;with_reducible exact Calls.regrown_of (pB.out _))) |quiet_step ((go_at_call 68;with_reducible exact Calls.regrown_of (pB.out _))))
    refine wpQuiet_nil ?_;intro _ hw';obtain⟨⟨dqV,osV⟩,hw2⟩:=hw';subst hw2;have aO:=ae (below_regrown wr dqV osV);generalize Sort.grow (redrawn wr dqV) osV=V at aO⊢;have gf:=aO.out.size;clear P0 P1 P2 P3 Q0 Q1 Q2 Q3 pB;have cr:=ae (aA.out.trans (aO.out.mono hzw));have dK:=ae (show bW V w.heap.size ov K from al.grow' JG.out aO.out);clear JG;have hwa:=Oz.out;have hwb:=Rz.out;by_cases hlt:cw<0
    ·have dl:decide (cw<0)=true:=decide_eq_true hlt;have lm:=ae (show(⟨a0,a1,a2,a3⟩:Ky).lt ⟨b0,b1,b2,b3⟩ from(rj _ _).1 (by rw[<-Lv.out];exact hlt));have eC:=ae (Ax.out.next_left hA.out hB.out zu.out (fun u hu=>by obtain rfl:=Option.some.inj (yI.out.symm.trans hu);exact lm.out));have A0:V.cell? ⟨ba,oa,none⟩=some (.int .i64 a0):=by rw[cr.out.cell dI.out,<-aA.out.cell dI.out];exact hwa 0 (by decide)
     have A1:V.cell? ⟨ba,oa+1,none⟩=some (.int .i64 a1):=by rw[cr.out.cell dI.out,<-aA.out.cell dI.out];exact hwa 1 (by decide)
     have A2:V.cell? ⟨ba,oa+2,none⟩=some (.int .i64 a2):=by rw[cr.out.cell dI.out,<-aA.out.cell dI.out];exact hwa 2 (by decide)
     have A3:V.cell? ⟨ba,oa+3,none⟩=some (.int .i64 a3):=by rw[cr.out.cell dI.out,<-aA.out.cell dI.out];exact hwa 3 (by decide)
     by_cases hc1:ca=1
     ·have lq:=ae (At.out hc1);subst hc1;have kP:=ae (aB.one (ai V _ _ rfl):aB (V.alloc (.cells #[.int .i64 a0,.int .i64 a1,.int .i64 a2,.int .i64 a3] 99)) V.heap.size 0 4 [[.int .i64 a0,.int .i64 a1,.int .i64 a2,.int .i64 a3]]);have eK:=ae (al.grow' dK.out ((Below.refl _ _).alloc (Nat.le_refl _) _):al (V.alloc (.cells #[.int .i64 a0,.int .i64 a1,.int .i64 a2,.int .i64 a3] 99)) w.heap.size 99 4 ov (K.map Ky.row));have bR:=ae (cr.out.alloc cr.out.size _:Below w.heap.size w (V.alloc (.cells #[.int .i64 a0,.int .i64 a1,.int .i64 a2,.int .i64 a3] 99)));have ez:=ae (show(K.map Ky.row).length +1<=maxLen by rw[List.length_map];have:=fF.out;unfold maxLen;omega);have HL2:=ae (show((K.map Ky.row).length +1)*32<=140737488355328 by rw[List.length_map];have:=fF.out;omega)
      go_wp2_with (first
       | (at_builtin
          refine ar rfl (.tmp 56) (.tmp 61) 108 rfl w.heap.size 99 i0 _ 4 32 Tryz.underlying108 HI.out HZ0.out HZ1.out HZ2.out rfl (by decide) _ (K.map Ky.row) [[.int .i64 a0,.int .i64 a1,.int .i64 a2,.int .i64 a3]] rfl eK.out V.heap.size 0 1 1 rfl rfl kP.out (i2 _ _ _ _) ez.out HL2.out bR.out.size ?_;intro v6 W6 aV da z6;clear z6;have fD:=ae (show bW W6 w.heap.size v6 (K++[⟨a0,a1,a2,a3⟩]) by unfold bW;rw[List.map_append];exact aV);have dD:=ae (show Below w.heap.size w W6 from bR.out.grown da bR.out.size (fun k hk=>al.ownBlock eK.out k hk))
          clear aV da))
      exact⟨⟨i+1,j,_,_,rfl,by omega,by omega,lq.out,As.out,eC.out,by rw[List.length_append];have:=eT.out;show K.length+1<=_;omega,fD.out,dD.out⟩,by simp only[iW];omega⟩
     ·have lq:=ae (B8.out hc1);have kP:=ae (aB.one (ai V _ _ rfl):aB (V.alloc (.cells #[.int .i64 a0,.int .i64 a1,.int .i64 a2,.int .i64 a3] 99)) V.heap.size 0 4 [[.int .i64 a0,.int .i64 a1,.int .i64 a2,.int .i64 a3]]);have eK:=ae (al.grow' dK.out ((Below.refl _ _).alloc (Nat.le_refl _) _):al (V.alloc (.cells #[.int .i64 a0,.int .i64 a1,.int .i64 a2,.int .i64 a3] 99)) w.heap.size 99 4 ov (K.map Ky.row));have bR:=ae (cr.out.alloc cr.out.size _:Below w.heap.size w (V.alloc (.cells #[.int .i64 a0,.int .i64 a1,.int .i64 a2,.int .i64 a3] 99)));have ez:=ae (show(K.map Ky.row).length +1<=maxLen by rw[List.length_map];have:=fF.out;unfold maxLen;omega);have HL2:=ae (show((K.map Ky.row).length +1)*32<=140737488355328 by rw[List.length_map];have:=fF.out;omega)
      go_wp2_with (first
       | (at_builtin
          refine ar rfl (.tmp 56) (.tmp 61) 108 rfl w.heap.size 99 i0 _ 4 32 Tryz.underlying108 HI.out HZ0.out HZ1.out HZ2.out rfl (by decide) _ (K.map Ky.row) [[.int .i64 a0,.int .i64 a1,.int .i64 a2,.int .i64 a3]] rfl eK.out V.heap.size 0 1 1 rfl rfl kP.out (i2 _ _ _ _) ez.out HL2.out bR.out.size ?_;intro v6 W6 aV da z6;clear z6;have fD:=ae (show bW W6 w.heap.size v6 (K++[⟨a0,a1,a2,a3⟩]) by unfold bW;rw[List.map_append];exact aV);have dD:=ae (show Below w.heap.size w W6 from bR.out.grown da bR.out.size (fun k hk=>al.ownBlock eK.out k hk))
          clear aV da))
      exact⟨⟨i+1,j,_,_,rfl,by omega,by omega,lq.out,As.out,eC.out,by rw[List.length_append];have:=eT.out;show K.length+1<=_;omega,fD.out,dD.out⟩,by simp only[iW];omega⟩
    ·have dl:decide (cw<0)=false:=decide_eq_false hlt;by_cases hgt:0<cw
     ·have dg:decide (0<cw)=true:=decide_eq_true hgt;have lm:=ae (show(⟨b0,b1,b2,b3⟩:Ky).lt ⟨a0,a1,a2,a3⟩ from(wK _ _).1 (by rw[<-Lv.out];exact hgt));have eC:=ae (Ax.out.next_right hA.out hB.out yI.out (fun u hu=>by obtain rfl:=Option.some.inj (zu.out.symm.trans hu);exact lm.out));have B0:V.cell? ⟨bb,ob,none⟩=some (.int .i64 b0):=by rw[cr.out.cell cX.out,<-aA.out.cell cX.out];exact hwb 0 (by decide)
      have B1:V.cell? ⟨bb,ob+1,none⟩=some (.int .i64 b1):=by rw[cr.out.cell cX.out,<-aA.out.cell cX.out];exact hwb 1 (by decide)
      have B2:V.cell? ⟨bb,ob+2,none⟩=some (.int .i64 b2):=by rw[cr.out.cell cX.out,<-aA.out.cell cX.out];exact hwb 2 (by decide)
      have B3:V.cell? ⟨bb,ob+3,none⟩=some (.int .i64 b3):=by rw[cr.out.cell cX.out,<-aA.out.cell cX.out];exact hwb 3 (by decide)
      by_cases hc1:cb=1
      ·have lq:=ae (vf.out hc1);subst hc1;have kP:=ae (aB.one (ai V _ _ rfl):aB (V.alloc (.cells #[.int .i64 b0,.int .i64 b1,.int .i64 b2,.int .i64 b3] 99)) V.heap.size 0 4 [[.int .i64 b0,.int .i64 b1,.int .i64 b2,.int .i64 b3]]);have eK:=ae (al.grow' dK.out ((Below.refl _ _).alloc (Nat.le_refl _) _):al (V.alloc (.cells #[.int .i64 b0,.int .i64 b1,.int .i64 b2,.int .i64 b3] 99)) w.heap.size 99 4 ov (K.map Ky.row));have bR:=ae (cr.out.alloc cr.out.size _:Below w.heap.size w (V.alloc (.cells #[.int .i64 b0,.int .i64 b1,.int .i64 b2,.int .i64 b3] 99)));have ez:=ae (show(K.map Ky.row).length +1<=maxLen by rw[List.length_map];have:=fF.out;unfold maxLen;omega);have HL2:=ae (show((K.map Ky.row).length +1)*32<=140737488355328 by rw[List.length_map];have:=fF.out;omega)
       go_wp2_with (first
        | (at_builtin
           refine ar rfl (.tmp 68) (.tmp 73) 108 rfl w.heap.size 99 i0 _ 4 32 Tryz.underlying108 HI.out HZ0.out HZ1.out HZ2.out rfl (by decide) _ (K.map Ky.row) [[.int .i64 b0,.int .i64 b1,.int .i64 b2,.int .i64 b3]] rfl eK.out V.heap.size 0 1 1 rfl rfl kP.out (i2 _ _ _ _) ez.out HL2.out bR.out.size ?_;intro v6 W6 aV da z6;clear z6;have fD:=ae (show bW W6 w.heap.size v6 (K++[⟨b0,b1,b2,b3⟩]) by unfold bW;rw[List.map_append];exact aV);have dD:=ae (show Below w.heap.size w W6 from bR.out.grown da bR.out.size (fun k hk=>al.ownBlock eK.out k hk))
           clear aV da))
       exact⟨⟨i,j+1,_,_,rfl,by omega,by omega,Cr.out,lq.out,eC.out,by rw[List.length_append];have:=eT.out;show K.length+1<=_;omega,fD.out,dD.out⟩,by simp only[iW];omega⟩
      ·have lq:=ae (uF.out hc1);have kP:=ae (aB.one (ai V _ _ rfl):aB (V.alloc (.cells #[.int .i64 b0,.int .i64 b1,.int .i64 b2,.int .i64 b3] 99)) V.heap.size 0 4 [[.int .i64 b0,.int .i64 b1,.int .i64 b2,.int .i64 b3]]);have eK:=ae (al.grow' dK.out ((Below.refl _ _).alloc (Nat.le_refl _) _):al (V.alloc (.cells #[.int .i64 b0,.int .i64 b1,.int .i64 b2,.int .i64 b3] 99)) w.heap.size 99 4 ov (K.map Ky.row));have bR:=ae (cr.out.alloc cr.out.size _:Below w.heap.size w (V.alloc (.cells #[.int .i64 b0,.int .i64 b1,.int .i64 b2,.int .i64 b3] 99)));have ez:=ae (show(K.map Ky.row).length +1<=maxLen by rw[List.length_map];have:=fF.out;unfold maxLen;omega);have HL2:=ae (show((K.map Ky.row).length +1)*32<=140737488355328 by rw[List.length_map];have:=fF.out;omega)
       go_wp2_with (first
        | (at_builtin
           refine ar rfl (.tmp 68) (.tmp 73) 108 rfl w.heap.size 99 i0 _ 4 32 Tryz.underlying108 HI.out HZ0.out HZ1.out HZ2.out rfl (by decide) _ (K.map Ky.row) [[.int .i64 b0,.int .i64 b1,.int .i64 b2,.int .i64 b3]] rfl eK.out V.heap.size 0 1 1 rfl rfl kP.out (i2 _ _ _ _) ez.out HL2.out bR.out.size ?_;intro v6 W6 aV da z6;clear z6;have fD:=ae (show bW W6 w.heap.size v6 (K++[⟨b0,b1,b2,b3⟩]) by unfold bW;rw[List.map_append];exact aV);have dD:=ae (show Below w.heap.size w W6 from bR.out.grown da bR.out.size (fun k hk=>al.ownBlock eK.out k hk))
           clear aV da))
       exact⟨⟨i,j+1,_,_,rfl,by omega,by omega,Cr.out,lq.out,eC.out,by rw[List.length_append];have:=eT.out;show K.length+1<=_;omega,fD.out,dD.out⟩,by simp only[iW];omega⟩
     ·have dg:decide (0<cw)=false:=decide_eq_false hgt;have hc0:cw=0:=by omega
      subst hc0;have yr:=ae (show(⟨a0,a1,a2,a3⟩:Ky)=⟨b0,b1,b2,b3⟩ from DQ Lv.out.symm);clear dl dg hlt hgt Lv;obtain⟨be,hbe⟩:∃be,be=decide (pa=pb):=⟨_,rfl⟩;have Nf:=ae (By.out.still cr.out);have LX:=ae (xN.out.still cr.out);have EP:=ae (fun d os=>(show Calls Tryz.prog 95 #[.slice paa pan pac,.slice pba pbn pbc] (grow (redrawn V d) os) fun r w'=>r=.returned (.bool be)/\Below (grow (redrawn V d) os).heap.size (grow (redrawn V d) os) w' from hbe▸yY _ _ pa pb (grow (redrawn V d) os) (Nf.out.still (below_regrown V d os)) (LX.out.still (below_regrown V d os)) qY.out));have ka:=ae (fun h:be=true=>of_decide_eq_true (show decide (pa=pb)=true from hbe▸h));have pg:=ae (fun h:be=false=>of_decide_eq_false (show decide (pa=pb)=false from hbe▸h));clear hbe;have P4:=fun d os=>cell_regrown (show V.cell? ⟨ba,oa+4,none⟩=some (.slice paa pan pac) by rw[cr.out.cell dI.out,<-aA.out.cell dI.out];exact hwa 4 (by decide)) d os
      have Q4:=fun d os=>cell_regrown (show V.cell? ⟨bb,ob+4,none⟩=some (.slice pba pbn pbc) by rw[cr.out.cell cX.out,<-aA.out.cell cX.out];exact hwb 4 (by decide)) d os
      have JT:=dK;have mS:=cr
      cases be
      ·have qz:=ae (pg.out rfl);have eC:=ae (Ax.out.next_both hA.out hB.out zu.out yI.out yr.out (Or.inr ⟨qz.out,rfl⟩));clear ka pg hwa hwb dK cr;go_wp2_with fail;refine wp_region_quiet_below (by kernel_rfl) (by kernel_rfl) ?_
       repeat(first|go_big_quiet_step ((go_at_call 95;with_reducible exact Calls.regrown_of (EP.out _ _))) |quiet_step ((go_at_call 95;with_reducible exact Calls.regrown_of (EP.out _ _))))
       refine wpQuiet_nil ?_;intro _ hw';obtain⟨⟨dqZ,osZ⟩,hw2⟩:=hw';subst hw2;have DA:=ae (below_regrown V dqZ osZ);generalize Sort.grow (redrawn V dqZ) osZ=Z at DA⊢;have PG:=DA.out.size;clear P4 Q4 EP;have cr:=ae (mS.out.trans (DA.out.mono mS.out.size));have dK:=ae (show bW Z w.heap.size ov K from al.grow' JT.out DA.out);have hwa:=Oz.out;have A0:Z.cell? ⟨ba,oa,none⟩=some (.int .i64 a0):=by rw[cr.out.cell dI.out,<-aA.out.cell dI.out];exact hwa 0 (by decide)
       have A1:Z.cell? ⟨ba,oa+1,none⟩=some (.int .i64 a1):=by rw[cr.out.cell dI.out,<-aA.out.cell dI.out];exact hwa 1 (by decide)
       have A2:Z.cell? ⟨ba,oa+2,none⟩=some (.int .i64 a2):=by rw[cr.out.cell dI.out,<-aA.out.cell dI.out];exact hwa 2 (by decide)
       have A3:Z.cell? ⟨ba,oa+3,none⟩=some (.int .i64 a3):=by rw[cr.out.cell dI.out,<-aA.out.cell dI.out];exact hwa 3 (by decide)
       clear hwa;have kP:=ae (aB.one (ai Z _ _ rfl):aB (Z.alloc (.cells #[.int .i64 a0,.int .i64 a1,.int .i64 a2,.int .i64 a3] 99)) Z.heap.size 0 4 [[.int .i64 a0,.int .i64 a1,.int .i64 a2,.int .i64 a3]]);have eK:=ae (al.grow' dK.out ((Below.refl _ _).alloc (Nat.le_refl _) _):al (Z.alloc (.cells #[.int .i64 a0,.int .i64 a1,.int .i64 a2,.int .i64 a3] 99)) w.heap.size 99 4 ov (K.map Ky.row));have bR:=ae (cr.out.alloc cr.out.size _:Below w.heap.size w (Z.alloc (.cells #[.int .i64 a0,.int .i64 a1,.int .i64 a2,.int .i64 a3] 99)));have ez:=ae (show(K.map Ky.row).length +1<=maxLen by rw[List.length_map];have:=fF.out;unfold maxLen;omega);have HL2:=ae (show((K.map Ky.row).length +1)*32<=140737488355328 by rw[List.length_map];have:=fF.out;omega)
       go_wp2_with (first
        | (at_builtin
           refine ar rfl (.tmp 42) (.tmp 47) 108 rfl w.heap.size 99 i0 _ 4 32 Tryz.underlying108 HI.out HZ0.out HZ1.out HZ2.out rfl (by decide) _ (K.map Ky.row) [[.int .i64 a0,.int .i64 a1,.int .i64 a2,.int .i64 a3]] rfl eK.out Z.heap.size 0 1 1 rfl rfl kP.out (i2 _ _ _ _) ez.out HL2.out bR.out.size ?_;intro v6 W6 aV da z6;clear z6;have fD:=ae (show bW W6 w.heap.size v6 (K++[⟨a0,a1,a2,a3⟩]) by unfold bW;rw[List.map_append];exact aV);have dD:=ae (show Below w.heap.size w W6 from bR.out.grown da bR.out.size (fun k hk=>al.ownBlock eK.out k hk))
           clear aV da))
       by_cases hc1:ca=1
       ·have lq:=ae (At.out hc1);subst hc1;by_cases hc2:cb=1
        ·have pA:=ae (vf.out hc2);subst hc2;refine wp_region_quiet_below (by kernel_rfl) (by kernel_rfl) ?_
         repeat(first|go_big_quiet_step (fail) |quiet_step (fail))
         refine wpQuiet_nil ?_;intro _ hw';obtain⟨⟨dqU,osU⟩,hw2⟩:=hw';subst hw2;have ed:=ae (below_regrown W6 dqU osU);generalize Sort.grow (redrawn W6 dqU) osU=U at ed⊢;have wC:=ed.out.size;go_wp2_with fail;exact⟨⟨i+1,j+1,_,_,rfl,by omega,by omega,lq.out,pA.out,eC.out,by rw[List.length_append];have:=eT.out;show K.length+1<=_;omega,al.grow' fD.out ed.out,dD.out.trans (ed.out.mono dD.out.size)⟩,by simp only[iW];omega⟩
        ·have pA:=ae (uF.out hc2);refine wp_region_quiet_below (by kernel_rfl) (by kernel_rfl) ?_
         repeat(first|go_big_quiet_step (fail) |quiet_step (fail))
         refine wpQuiet_nil ?_;intro _ hw';obtain⟨⟨dqU,osU⟩,hw2⟩:=hw';subst hw2;have ed:=ae (below_regrown W6 dqU osU);generalize Sort.grow (redrawn W6 dqU) osU=U at ed⊢;have wC:=ed.out.size;go_wp2_with fail;exact⟨⟨i+1,j+1,_,_,rfl,by omega,by omega,lq.out,pA.out,eC.out,by rw[List.length_append];have:=eT.out;show K.length+1<=_;omega,al.grow' fD.out ed.out,dD.out.trans (ed.out.mono dD.out.size)⟩,by simp only[iW];omega⟩
       ·have lq:=ae (B8.out hc1);by_cases hc2:cb=1
        ·have pA:=ae (vf.out hc2);subst hc2;refine wp_region_quiet_below (by kernel_rfl) (by kernel_rfl) ?_
         repeat(first|go_big_quiet_step (fail) |quiet_step (fail))
         refine wpQuiet_nil ?_;intro _ hw';obtain⟨⟨dqU,osU⟩,hw2⟩:=hw';subst hw2;have ed:=ae (below_regrown W6 dqU osU);generalize Sort.grow (redrawn W6 dqU) osU=U at ed⊢;have wC:=ed.out.size;go_wp2_with fail;exact⟨⟨i+1,j+1,_,_,rfl,by omega,by omega,lq.out,pA.out,eC.out,by rw[List.length_append];have:=eT.out;show K.length+1<=_;omega,al.grow' fD.out ed.out,dD.out.trans (ed.out.mono dD.out.size)⟩,by simp only[iW];omega⟩
        ·have pA:=ae (uF.out hc2);refine wp_region_quiet_below (by kernel_rfl) (by kernel_rfl) ?_
         repeat(first|go_big_quiet_step (fail) |quiet_step (fail))
         refine wpQuiet_nil ?_;intro _ hw';obtain⟨⟨dqU,osU⟩,hw2⟩:=hw';subst hw2;have ed:=ae (below_regrown W6 dqU osU);generalize Sort.grow (redrawn W6 dqU) osU=U at ed⊢;have wC:=ed.out.size;go_wp2_with fail;exact⟨⟨i+1,j+1,_,_,rfl,by omega,by omega,lq.out,pA.out,eC.out,by rw[List.length_append];have:=eT.out;show K.length+1<=_;omega,al.grow' fD.out ed.out,dD.out.trans (ed.out.mono dD.out.size)⟩,by simp only[iW];omega⟩
      ·have Nq:=ae (ka.out rfl);have eC:=ae (Ax.out.next_both hA.out hB.out zu.out yI.out yr.out (Or.inl ⟨Nq.out,rfl⟩));clear ka pg hwa hwb dK cr;go_wp2_with fail;refine wp_region_quiet_below (by kernel_rfl) (by kernel_rfl) ?_
       repeat(first|go_big_quiet_step ((go_at_call 95;with_reducible exact Calls.regrown_of (EP.out _ _))) |quiet_step ((go_at_call 95;with_reducible exact Calls.regrown_of (EP.out _ _))))
       refine wpQuiet_nil ?_;intro _ hw';obtain⟨⟨dqZ,osZ⟩,hw2⟩:=hw';subst hw2;have DA:=ae (below_regrown V dqZ osZ);generalize Sort.grow (redrawn V dqZ) osZ=Z at DA⊢;have PG:=DA.out.size;clear P4 Q4 EP;have cr:=ae (mS.out.trans (DA.out.mono mS.out.size));have dK:=ae (show bW Z w.heap.size ov K from al.grow' JT.out DA.out);go_wp2_with fail;by_cases hc1:ca=1
       ·have lq:=ae (At.out hc1);subst hc1;by_cases hc2:cb=1
        ·have pA:=ae (vf.out hc2);subst hc2;refine wp_region_quiet_below (by kernel_rfl) (by kernel_rfl) ?_
         repeat(first|go_big_quiet_step (fail) |quiet_step (fail))
         refine wpQuiet_nil ?_;intro _ hw';obtain⟨⟨dqU,osU⟩,hw2⟩:=hw';subst hw2;have ed:=ae (below_regrown Z dqU osU);generalize Sort.grow (redrawn Z dqU) osU=U at ed⊢;have wC:=ed.out.size;go_wp2_with fail;exact⟨⟨i+1,j+1,_,_,rfl,by omega,by omega,lq.out,pA.out,eC.out,by have:=eT.out;omega,al.grow' dK.out ed.out,cr.out.trans (ed.out.mono cr.out.size)⟩,by simp only[iW];omega⟩
        ·have pA:=ae (uF.out hc2);refine wp_region_quiet_below (by kernel_rfl) (by kernel_rfl) ?_
         repeat(first|go_big_quiet_step (fail) |quiet_step (fail))
         refine wpQuiet_nil ?_;intro _ hw';obtain⟨⟨dqU,osU⟩,hw2⟩:=hw';subst hw2;have ed:=ae (below_regrown Z dqU osU);generalize Sort.grow (redrawn Z dqU) osU=U at ed⊢;have wC:=ed.out.size;go_wp2_with fail;exact⟨⟨i+1,j+1,_,_,rfl,by omega,by omega,lq.out,pA.out,eC.out,by have:=eT.out;omega,al.grow' dK.out ed.out,cr.out.trans (ed.out.mono cr.out.size)⟩,by simp only[iW];omega⟩
       ·have lq:=ae (B8.out hc1);by_cases hc2:cb=1
        ·have pA:=ae (vf.out hc2);subst hc2;refine wp_region_quiet_below (by kernel_rfl) (by kernel_rfl) ?_
         repeat(first|go_big_quiet_step (fail) |quiet_step (fail))
         refine wpQuiet_nil ?_;intro _ hw';obtain⟨⟨dqU,osU⟩,hw2⟩:=hw';subst hw2;have ed:=ae (below_regrown Z dqU osU);generalize Sort.grow (redrawn Z dqU) osU=U at ed⊢;have wC:=ed.out.size;go_wp2_with fail;exact⟨⟨i+1,j+1,_,_,rfl,by omega,by omega,lq.out,pA.out,eC.out,by have:=eT.out;omega,al.grow' dK.out ed.out,cr.out.trans (ed.out.mono cr.out.size)⟩,by simp only[iW];omega⟩
        ·have pA:=ae (uF.out hc2);refine wp_region_quiet_below (by kernel_rfl) (by kernel_rfl) ?_
         repeat(first|go_big_quiet_step (fail) |quiet_step (fail))
         refine wpQuiet_nil ?_;intro _ hw';obtain⟨⟨dqU,osU⟩,hw2⟩:=hw';subst hw2;have ed:=ae (below_regrown Z dqU osU);generalize Sort.grow (redrawn Z dqU) osU=U at ed⊢;have wC:=ed.out.size;go_wp2_with fail;exact⟨⟨i+1,j+1,_,_,rfl,by omega,by omega,lq.out,pA.out,eC.out,by have:=eT.out;omega,al.grow' dK.out ed.out,cr.out.trans (ed.out.mono cr.out.size)⟩,by simp only[iW];omega⟩
   ·obtain rfl:lb=0:=by omega
    have As:=sW;obtain⟨ba,oa,ea,rfl,hba,hea,hna,hca,hcsa,hpa,AL,Bm⟩:=gy.head gg.out Kh;have Lw:=ae hea;have dI:=ae hba;have By:=ae hpa;have At:=ae AL;have B8:=ae Bm;have hwa:∀y,y<5->wr.cell? ⟨ba,oa+y,none⟩=ea.row[y]? :=fun y hy=>by rw[aA.out.cell hba];exact hcsa y hy
    have qY:=ae (DK.out ea (List.mem_of_getElem? hea));have IC:=ae (hsa.out ea.tl (List.mem_of_getElem? (mC hea)));have zu:=ae (mC hea);have hil:i<A.length:=(List.getElem?_eq_some_iff.1 hea).1;clear hea hba hpa AL Bm hcsa gg hna hca;obtain⟨⟨a0,a1,a2,a3⟩,av,pa⟩:=ea;obtain⟨paa,pac,hav,_⟩:=By.out;obtain rfl:av=.slice paa pa.length pac:=hav;obtain⟨pan,hpan⟩:∃pan,pan=pa.length:=⟨_,rfl⟩;simp only[Te.row,Ky.row,<-hpan] at hwa By;clear hpan;have eC:=ae (Ax.out.next_left hA.out hB.out zu.out (fun u hu=>absurd (List.getElem?_eq_some_iff.1 hu).1 (by rw[List.length_map];have:=JV.out;omega)));have A0:wr.cell? ⟨ba,oa,none⟩=some (.int .i64 a0):=by rw[cr.out.cell dI.out,<-aA.out.cell dI.out];exact hwa 0 (by decide)
    have A1:wr.cell? ⟨ba,oa+1,none⟩=some (.int .i64 a1):=by rw[cr.out.cell dI.out,<-aA.out.cell dI.out];exact hwa 1 (by decide)
    have A2:wr.cell? ⟨ba,oa+2,none⟩=some (.int .i64 a2):=by rw[cr.out.cell dI.out,<-aA.out.cell dI.out];exact hwa 2 (by decide)
    have A3:wr.cell? ⟨ba,oa+3,none⟩=some (.int .i64 a3):=by rw[cr.out.cell dI.out,<-aA.out.cell dI.out];exact hwa 3 (by decide)
    by_cases hc1:ca=1
    ·have lq:=ae (At.out hc1);subst hc1;have kP:=ae (aB.one (ai wr _ _ rfl):aB (wr.alloc (.cells #[.int .i64 a0,.int .i64 a1,.int .i64 a2,.int .i64 a3] 99)) wr.heap.size 0 4 [[.int .i64 a0,.int .i64 a1,.int .i64 a2,.int .i64 a3]]);have eK:=ae (al.grow' dK.out ((Below.refl _ _).alloc (Nat.le_refl _) _):al (wr.alloc (.cells #[.int .i64 a0,.int .i64 a1,.int .i64 a2,.int .i64 a3] 99)) w.heap.size 99 4 ov (K.map Ky.row));have bR:=ae (cr.out.alloc cr.out.size _:Below w.heap.size w (wr.alloc (.cells #[.int .i64 a0,.int .i64 a1,.int .i64 a2,.int .i64 a3] 99)));have ez:=ae (show(K.map Ky.row).length +1<=maxLen by rw[List.length_map];have:=fF.out;unfold maxLen;omega);have HL2:=ae (show((K.map Ky.row).length +1)*32<=140737488355328 by rw[List.length_map];have:=fF.out;omega)
     go_wp2_with (first
      | (at_builtin
         refine ar rfl (.tmp 56) (.tmp 61) 108 rfl w.heap.size 99 i0 _ 4 32 Tryz.underlying108 HI.out HZ0.out HZ1.out HZ2.out rfl (by decide) _ (K.map Ky.row) [[.int .i64 a0,.int .i64 a1,.int .i64 a2,.int .i64 a3]] rfl eK.out wr.heap.size 0 1 1 rfl rfl kP.out (i2 _ _ _ _) ez.out HL2.out bR.out.size ?_;intro v6 W6 aV da z6;clear z6;have fD:=ae (show bW W6 w.heap.size v6 (K++[⟨a0,a1,a2,a3⟩]) by unfold bW;rw[List.map_append];exact aV);have dD:=ae (show Below w.heap.size w W6 from bR.out.grown da bR.out.size (fun k hk=>al.ownBlock eK.out k hk))
         clear aV da))
     exact⟨⟨i+1,j,_,_,rfl,by omega,by omega,lq.out,As.out,eC.out,by rw[List.length_append];have:=eT.out;show K.length+1<=_;omega,fD.out,dD.out⟩,by simp only[iW];omega⟩
    ·have lq:=ae (B8.out hc1);have kP:=ae (aB.one (ai wr _ _ rfl):aB (wr.alloc (.cells #[.int .i64 a0,.int .i64 a1,.int .i64 a2,.int .i64 a3] 99)) wr.heap.size 0 4 [[.int .i64 a0,.int .i64 a1,.int .i64 a2,.int .i64 a3]]);have eK:=ae (al.grow' dK.out ((Below.refl _ _).alloc (Nat.le_refl _) _):al (wr.alloc (.cells #[.int .i64 a0,.int .i64 a1,.int .i64 a2,.int .i64 a3] 99)) w.heap.size 99 4 ov (K.map Ky.row));have bR:=ae (cr.out.alloc cr.out.size _:Below w.heap.size w (wr.alloc (.cells #[.int .i64 a0,.int .i64 a1,.int .i64 a2,.int .i64 a3] 99)));have ez:=ae (show(K.map Ky.row).length +1<=maxLen by rw[List.length_map];have:=fF.out;unfold maxLen;omega);have HL2:=ae (show((K.map Ky.row).length +1)*32<=140737488355328 by rw[List.length_map];have:=fF.out;omega)
     go_wp2_with (first
      | (at_builtin
         refine ar rfl (.tmp 56) (.tmp 61) 108 rfl w.heap.size 99 i0 _ 4 32 Tryz.underlying108 HI.out HZ0.out HZ1.out HZ2.out rfl (by decide) _ (K.map Ky.row) [[.int .i64 a0,.int .i64 a1,.int .i64 a2,.int .i64 a3]] rfl eK.out wr.heap.size 0 1 1 rfl rfl kP.out (i2 _ _ _ _) ez.out HL2.out bR.out.size ?_;intro v6 W6 aV da z6;clear z6;have fD:=ae (show bW W6 w.heap.size v6 (K++[⟨a0,a1,a2,a3⟩]) by unfold bW;rw[List.map_append];exact aV);have dD:=ae (show Below w.heap.size w W6 from bR.out.grown da bR.out.size (fun k hk=>al.ownBlock eK.out k hk))
         clear aV da))
     exact⟨⟨i+1,j,_,_,rfl,by omega,by omega,lq.out,As.out,eC.out,by rw[List.length_append];have:=eT.out;show K.length+1<=_;omega,fD.out,dD.out⟩,by simp only[iW];omega⟩
  ·obtain rfl:la=0:=by omega
   by_cases Gl:0<lb
   ·have dlb:decide ((0:Int)<(lb:Int))=true:=decide_eq_true (by omega);have elb:((lb:Int) == 0)=false:=by simp;omega
    have Cr:=gg;obtain⟨bb,ob,eb,rfl,hbb,heb,hnb,hcb,hcsb,hpb,BT,CB⟩:=gy.head sW.out Gl;have QI:=ae heb;have cX:=ae hbb;have xN:=ae hpb;have vf:=ae BT;have uF:=ae CB;have hwb:∀y,y<5->wr.cell? ⟨bb,ob+y,none⟩=eb.row[y]? :=fun y hy=>by rw[aA.out.cell hbb];exact hcsb y hy
    have CW:=ae (hsb.out eb.tl (List.mem_of_getElem? (mC heb)));have yI:=ae (mC heb);have hjl:j<B.length:=(List.getElem?_eq_some_iff.1 heb).1;clear heb hbb hpb BT CB hcsb sW hnb hcb;obtain⟨⟨b0,b1,b2,b3⟩,bv,pb⟩:=eb;obtain⟨pba,pbc,hbv,_⟩:=xN.out;obtain rfl:bv=.slice pba pb.length pbc:=hbv;obtain⟨pbn,hpbn⟩:∃pbn,pbn=pb.length:=⟨_,rfl⟩;simp only[Te.row,Ky.row,<-hpbn] at hwb xN;clear hpbn;have eC:=ae (Ax.out.next_right hA.out hB.out yI.out (fun u hu=>absurd (List.getElem?_eq_some_iff.1 hu).1 (by rw[List.length_map];have:=J4.out;omega)));have B0:wr.cell? ⟨bb,ob,none⟩=some (.int .i64 b0):=by rw[cr.out.cell cX.out,<-aA.out.cell cX.out];exact hwb 0 (by decide)
    have B1:wr.cell? ⟨bb,ob+1,none⟩=some (.int .i64 b1):=by rw[cr.out.cell cX.out,<-aA.out.cell cX.out];exact hwb 1 (by decide)
    have B2:wr.cell? ⟨bb,ob+2,none⟩=some (.int .i64 b2):=by rw[cr.out.cell cX.out,<-aA.out.cell cX.out];exact hwb 2 (by decide)
    have B3:wr.cell? ⟨bb,ob+3,none⟩=some (.int .i64 b3):=by rw[cr.out.cell cX.out,<-aA.out.cell cX.out];exact hwb 3 (by decide)
    by_cases hc1:cb=1
    ·have lq:=ae (vf.out hc1);subst hc1;have kP:=ae (aB.one (ai wr _ _ rfl):aB (wr.alloc (.cells #[.int .i64 b0,.int .i64 b1,.int .i64 b2,.int .i64 b3] 99)) wr.heap.size 0 4 [[.int .i64 b0,.int .i64 b1,.int .i64 b2,.int .i64 b3]]);have eK:=ae (al.grow' dK.out ((Below.refl _ _).alloc (Nat.le_refl _) _):al (wr.alloc (.cells #[.int .i64 b0,.int .i64 b1,.int .i64 b2,.int .i64 b3] 99)) w.heap.size 99 4 ov (K.map Ky.row));have bR:=ae (cr.out.alloc cr.out.size _:Below w.heap.size w (wr.alloc (.cells #[.int .i64 b0,.int .i64 b1,.int .i64 b2,.int .i64 b3] 99)));have ez:=ae (show(K.map Ky.row).length +1<=maxLen by rw[List.length_map];have:=fF.out;unfold maxLen;omega);have HL2:=ae (show((K.map Ky.row).length +1)*32<=140737488355328 by rw[List.length_map];have:=fF.out;omega)
     go_wp2_with (first
      | (at_builtin
         refine ar rfl (.tmp 68) (.tmp 73) 108 rfl w.heap.size 99 i0 _ 4 32 Tryz.underlying108 HI.out HZ0.out HZ1.out HZ2.out rfl (by decide) _ (K.map Ky.row) [[.int .i64 b0,.int .i64 b1,.int .i64 b2,.int .i64 b3]] rfl eK.out wr.heap.size 0 1 1 rfl rfl kP.out (i2 _ _ _ _) ez.out HL2.out bR.out.size ?_;intro v6 W6 aV da z6;clear z6;have fD:=ae (show bW W6 w.heap.size v6 (K++[⟨b0,b1,b2,b3⟩]) by unfold bW;rw[List.map_append];exact aV);have dD:=ae (show Below w.heap.size w W6 from bR.out.grown da bR.out.size (fun k hk=>al.ownBlock eK.out k hk))
         clear aV da))
     exact⟨⟨i,j+1,_,_,rfl,by omega,by omega,Cr.out,lq.out,eC.out,by rw[List.length_append];have:=eT.out;show K.length+1<=_;omega,fD.out,dD.out⟩,by simp only[iW];omega⟩
    ·have lq:=ae (uF.out hc1);have kP:=ae (aB.one (ai wr _ _ rfl):aB (wr.alloc (.cells #[.int .i64 b0,.int .i64 b1,.int .i64 b2,.int .i64 b3] 99)) wr.heap.size 0 4 [[.int .i64 b0,.int .i64 b1,.int .i64 b2,.int .i64 b3]]);have eK:=ae (al.grow' dK.out ((Below.refl _ _).alloc (Nat.le_refl _) _):al (wr.alloc (.cells #[.int .i64 b0,.int .i64 b1,.int .i64 b2,.int .i64 b3] 99)) w.heap.size 99 4 ov (K.map Ky.row));have bR:=ae (cr.out.alloc cr.out.size _:Below w.heap.size w (wr.alloc (.cells #[.int .i64 b0,.int .i64 b1,.int .i64 b2,.int .i64 b3] 99)));have ez:=ae (show(K.map Ky.row).length +1<=maxLen by rw[List.length_map];have:=fF.out;unfold maxLen;omega);have HL2:=ae (show((K.map Ky.row).length +1)*32<=140737488355328 by rw[List.length_map];have:=fF.out;omega)
     go_wp2_with (first
      | (at_builtin
         refine ar rfl (.tmp 68) (.tmp 73) 108 rfl w.heap.size 99 i0 _ 4 32 Tryz.underlying108 HI.out HZ0.out HZ1.out HZ2.out rfl (by decide) _ (K.map Ky.row) [[.int .i64 b0,.int .i64 b1,.int .i64 b2,.int .i64 b3]] rfl eK.out wr.heap.size 0 1 1 rfl rfl kP.out (i2 _ _ _ _) ez.out HL2.out bR.out.size ?_;intro v6 W6 aV da z6;clear z6;have fD:=ae (show bW W6 w.heap.size v6 (K++[⟨b0,b1,b2,b3⟩]) by unfold bW;rw[List.map_append];exact aV);have dD:=ae (show Below w.heap.size w W6 from bR.out.grown da bR.out.size (fun k hk=>al.ownBlock eK.out k hk))
         clear aV da))
     exact⟨⟨i,j+1,_,_,rfl,by omega,by omega,Cr.out,lq.out,eC.out,by rw[List.length_append];have:=eT.out;show K.length+1<=_;omega,fD.out,dD.out⟩,by simp only[iW];omega⟩
   ·obtain rfl:lb=0:=by omega
    have Do:=ae (Ax.out.done (by rw[List.length_map];have:=J4.out;omega) (by rw[List.length_map];have:=JV.out;omega));go_wp2_with fail;go_ret;exact⟨⟨_,K,rfl,dK.out,Do.out⟩,aA.out⟩
end Go.Proofs.YtcclpdfmmdonpaaGreat
