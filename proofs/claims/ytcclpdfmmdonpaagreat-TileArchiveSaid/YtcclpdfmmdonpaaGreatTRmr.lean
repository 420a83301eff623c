/- Texts of the seat Yteanlcefdoigcaa, turned to this one by wip/port.py: UpdX RMrg UpdLaw. -/
import Derived.Test.YtcclpdfmmdonpaaGreatTRch
namespace Go.Proofs.YtcclpdfmmdonpaaGreat
set_option maxRecDepth 100000
open Go.ChangeShapes Go.WideShapes Go.RowKit Go.Maps Go.Sort
section
variable {P A:List Pt} {R:List Int} {c:Int}
end
open Go.ChangeShapes Go.WideShapes Go.RowKit Go.Maps Go.Sort
theorem uH {R:List Int} {k:Nat} {z:Int} (h:R[k]? =some z) (p:Pt):gT (R.take (k+1)) p=(gT (R.take k) p || (z == p.id)):=by
 unfold gT;rw[aH h,List.any_append];simp
theorem vT {P:List Pt} {i:Nat} {p:Pt} (h:P[i]? =some p) (R:List Int):aX (P.take (i+1)) R=aX (P.take i) R++(if gT R p=true then [] else [p]):=by
 unfold aX;rw[aH h,List.filter_append]
 cases hg:gT R p<;>simp[hg]
theorem al.nilV2 {W:World} {base t sz:Nat} {v:Value} {l:List (List Value)} (h:al W base t sz v l):ip v:=fun c e=>by
 rcases h.2.2 with⟨h1,_⟩ | ⟨g,cap,cur,h1,_⟩
 ·rw[h1] at e;injection e with _ _ e
  exact e.symm
 ·rw[h1] at e;injection e with e
  cases e
theorem Hu (p:Pt):bF 9 [p.row]:=bF.one rfl (Pt.row_one p)
set_option maxHeartbeats 3200000 in
theorem vX (pv av rv:Value) (P A:List Pt) (R:List Int) (w:World) (hp:cj w pv P) (ha:cj w av A) (ha0:ip av) (hr:fi w rv R) (KT:P.length<=1024) (KZ:A.length<=1024) (hRl:R.length<=maxLen):
 Calls Tryz.prog 63 #[pv,av,rv] w fun r w'=>(∃v e L,r=.returned (.tuple #[v,.int .i64 e])/\aq w' w.heap.size v L/\aM P A R e L)/\Below w.heap.size w w':=by
 have o4:=ae hp;have qZ:=ae ha;obtain⟨pa,pc,rfl,hpd⟩:=hp;obtain⟨aa,ac,rfl,had⟩:=ha;obtain⟨ra,rc,rfl,hrd⟩:=hr;obtain⟨n,hn⟩:∃n,n=P.length:=⟨_,rfl⟩;obtain⟨m,hm⟩:∃m,m=A.length:=⟨_,rfl⟩;obtain⟨q,hq⟩:∃q,q=R.length:=⟨_,rfl⟩;rw[<-hn] at o4 KT⊢;rw[<-hm] at qZ KZ ha0⊢;rw[<-hq] at hRl⊢;have HN:=ae hn;have HM:=ae hm;have HQ:=ae hq;have mD:=ae ha0;have vG:=ae hpd;have HAD:=ae had;have pM:=ae hrd;have LU:q<=9223372036854775807:=by unfold maxLen at hRl;omega
 clear hpd had hrd hn hm hq hRl ha0;obtain⟨i0,hi,hz0,hz1,hz2⟩:=aF ix;have HI:=ae hi;have HZ0:=ae hz0;have HZ1:=ae hz1;have HZ2:=ae hz2;clear hi hz0 hz1 hz2;go_enter Tryz.func63,Tryz.ntmps63;go_wp2_with fail
 go_loopw [20] (fun iv W=>∃i:Nat,i<=q/\iv=.int .i64 (i:Int)/\cn P (R.take i)/\Below w.heap.size w W) (fun iv _=>q-(intOf iv).toNat)
 case atStart=>exact⟨0,by omega,rfl,by rw[List.take_zero];exact cn.nil,Below.refl _ _⟩
 case round=>
  obtain⟨i,hi,rfl,hgo,hB⟩:=hrel;have Gp:=ae hgo;have bm:=ae hB;have fT:=hB.size;clear hgo hB;by_cases hlt:i<q
  ·have d1:decide ((i:Int)<(q:Int))=true:=decide_eq_true (by omega);obtain⟨z,hz⟩:∃z,R[i]? =some z:=⟨_,List.getElem?_eq_getElem (by rw[<-HQ.out];exact hlt)⟩;obtain⟨b,off,rfl,hbw,hrows⟩:=pM.out.resolve_left (fun h=>by rw[h] at hz;simp at hz);have HRR:=ae hrows;have aA:=ae hbw;have c0:wr.cell? ⟨b,off+i,none⟩=some (.int .i64 z):=by rw[bm.out.cell hbw];exact hrows i z hz
   have FF:=ae hz;clear hz hbw hrows;obtain⟨x,hx⟩:∃x,x=jX P z:=⟨_,rfl⟩;have CZ:=ae (show Calls Tryz.prog 87 #[.slice pa n pc,.int .i64 z] wr fun r w'=>r=.returned (.int .i64 x)/\Below wr.heap.size wr w' from hx▸j9 _ P z wr (o4.out.still bm.out) (by rw[<-HN.out];unfold maxLen;omega));have HX:=ae hx;clear hx;go_wp2_with fail;refine CZ.out.mono ?_;rintro r w5 ⟨rfl,hb5⟩;have dQ:=ae (bm.out.trans (hb5.mono fT));have NC:=hb5.size;clear hb5 CZ c0;by_cases hx0:x<0
   ·have d2:decide (x<0)=true:=decide_eq_true hx0
    have JP:=ae (show ¬cn P R from fun h=>by
     obtain⟨p,h1,h2⟩:=h.1 z (List.mem_of_getElem? FF.out)
     exact im.1 (show jX P z<0 by rw[<-HX.out];exact hx0) p h1 h2)
    have HR:=ae (aM.bad (A:=A) (el JP.out) (by decide));go_wp2_with fail;go_ret2;exact⟨⟨_,_,[],rfl,al.nil _ _ _ _,HR.out⟩,dQ.out⟩
   ·have d2:decide (x<0)=false:=decide_eq_false hx0
    have RG:=ae (show ∃p∈P,p.id=z from by
     refine Classical.byContradiction (fun h=>hx0 ?_);rw[HX.out]
     exact im.2 (fun p hp e=>h ⟨p,hp,e⟩))
    go_wp2_with fail
    go_loopw [9] (fun kv W=>∃k:Nat,k<=i/\kv=.int .i64 (k:Int)/\(∀y∈R.take k,y≠z)/\Below w.heap.size w W) (fun kv _=>i-(intOf kv).toNat)
    case atStart=>exact⟨0,by omega,rfl,fun y hy=>by simp at hy,dQ.out⟩
    case round=>
     obtain⟨k,hk,rfl,hne,hB⟩:=hrel;have qz:=ae hne;have gi:=ae hB;have hzk:=hB.size;clear hne hB;by_cases hlk:k<i
     ·have d3:decide ((k:Int)<(i:Int))=true:=decide_eq_true (by omega);obtain⟨y,hy⟩:∃y,R[k]? =some y:=⟨_,List.getElem?_eq_getElem (by rw[<-HQ.out];omega)⟩;have e0:=fun d os=>cell_regrown (show wr.cell? ⟨b,off+i,none⟩=some (.int .i64 z) by rw[gi.out.cell aA.out];exact HRR.out i z FF.out) d os
      have e1:=fun d os=>cell_regrown (show wr.cell? ⟨b,off+k,none⟩=some (.int .i64 y) by rw[gi.out.cell aA.out];exact HRR.out k y hy) d os
      have NY:=ae hy;clear hy;have hiq:i<q:=hlt;have hkq:k<q:=by omega
      by_cases hyz:y=z
      ·have JP:=ae (show ¬cn P R from fun h=>ly hlk NY.out FF.out (fun g=>g hyz) h.2);have HR:=ae (aM.bad (A:=A) (el JP.out) (by decide));have d4:(y == z)=true:=by simp[hyz]
       clear hyz;go_wp2_with fail;refine wp_region_quiet_below (by kernel_rfl) (by kernel_rfl) ?_
       repeat(first|go_big_quiet_step (fail) |quiet_step (fail))
       refine wpQuiet_nil ?_;intro _ hw';obtain⟨⟨dqV,osV⟩,hw2⟩:=hw';subst hw2;have aO:=ae (below_regrown wr dqV osV);generalize Sort.grow (redrawn wr dqV) osV=V at aO⊢;have gf:=aO.out.size;have cr:=ae (gi.out.trans (aO.out.mono hzk));clear e0 e1;go_wp2_with fail;go_ret2;exact⟨⟨_,_,[],rfl,al.nil _ _ _ _,HR.out⟩,cr.out⟩
      ·have d4:(y == z)=false:=by simp[hyz]
       have PJ:=ae (show ∀u∈R.take (k+1),u≠z by
        rw[aH NY.out];intro u hu
        rcases List.mem_append.1 hu with g|g
        ·exact qz.out u g
        ·obtain rfl:=List.mem_singleton.1 g;exact hyz)
       clear hyz;go_wp2_with fail;refine wp_region_quiet_below (by kernel_rfl) (by kernel_rfl) ?_
       repeat(first|go_big_quiet_step (fail) |quiet_step (fail))
       refine wpQuiet_nil ?_;intro _ hw';obtain⟨⟨dqV,osV⟩,hw2⟩:=hw';subst hw2;have aO:=ae (below_regrown wr dqV osV);generalize Sort.grow (redrawn wr dqV) osV=V at aO⊢;have gf:=aO.out.size;have cr:=ae (gi.out.trans (aO.out.mono hzk));clear e0 e1;go_wp2_with fail;exact⟨⟨k+1,by omega,by go_num,PJ.out,cr.out⟩,by simp[intOf];omega⟩
     ·obtain rfl:k=i:=by omega
      have d3:decide ((k:Int)<(k:Int))=false:=by simp
      have eC:=ae (Gp.out.next FF.out (by
       obtain⟨p,h1,h2⟩:=RG.out
       exact⟨p,jt.2 ⟨h1,fun hm=>qz.out _ hm h2⟩,h2⟩))
      go_wp2_with fail;exact⟨⟨k+1,by omega,by go_num,eC.out,gi.out⟩,by simp[intOf];omega⟩
  ·obtain rfl:i=q:=by omega
   have d1:decide ((i:Int)<(i:Int))=false:=by simp
   have Ie:=ae (show cn P R by have:=Gp.out;rwa[HQ.out,List.take_length] at this);clear Gp;go_wp2_with fail
   go_loopw [10,47] (fun ov jv W=>∃(j:Nat) (o:Value),o=ov/\j<=n/\jv=.int .i64 (j:Int)/\aq W w.heap.size ov (aX (P.take j) R)/\Below w.heap.size w W) (fun _ jv _=>n-(intOf jv).toNat)
   case atStart=>exact⟨0,_,rfl,by omega,rfl,al.nil _ _ _ _,bm.out⟩
   clear bm fT
   case round=>
    obtain⟨j,ov,rfl,hj,rfl,hov,hB⟩:=hrel;have dK:=ae hov;have bm:=ae hB;have fT:=hB.size;clear hov hB
    have fF:=ae (show(aX (P.take j) R).length <=1024 by
     refine Nat.le_trans (List.length_filter_le _ _) ?_;rw[List.length_take,<-HN.out]
     omega)
    by_cases hlk:j<n
    ·have d2:decide ((j:Int)<(n:Int))=true:=decide_eq_true (by omega);obtain⟨p,hp⟩:∃p,P[j]? =some p:=⟨_,List.getElem?_eq_getElem (by rw[<-HN.out];exact hlk)⟩;obtain⟨b,off,hva,hbw,hrows⟩:=vG.out.resolve_left (fun h=>by rw[h] at hp;simp at hp);have hcs:∀y,y<9->wr.cell? ⟨b,off+j*9+y,none⟩=some (.int .i64 (p.f y)):=fun y hy=>by
      rw[bm.out.cell hbw,hrows j p.row (by rw[List.getElem?_map,hp];rfl) y hy,Pt.row_at p y hy]
     have pu:=ae hp;clear hp hrows hbw;subst hva;obtain⟨p0,p1,p2,p3,p4,p5,p6,p7,p8⟩:=p;have a0:wr.cell? ⟨b,off+j*9,none⟩=some (.int .i64 p0):=hcs 0 (by decide);have a1:wr.cell? ⟨b,off+j*9+1,none⟩=some (.int .i64 p1):=hcs 1 (by decide);have a2:wr.cell? ⟨b,off+j*9+2,none⟩=some (.int .i64 p2):=hcs 2 (by decide);have a3:wr.cell? ⟨b,off+j*9+3,none⟩=some (.int .i64 p3):=hcs 3 (by decide);have a4:wr.cell? ⟨b,off+j*9+4,none⟩=some (.int .i64 p4):=hcs 4 (by decide);have a5:wr.cell? ⟨b,off+j*9+5,none⟩=some (.int .i64 p5):=hcs 5 (by decide);have a6:wr.cell? ⟨b,off+j*9+6,none⟩=some (.int .i64 p6):=hcs 6 (by decide);have a7:wr.cell? ⟨b,off+j*9+7,none⟩=some (.int .i64 p7):=hcs 7 (by decide);have a8:wr.cell? ⟨b,off+j*9+8,none⟩=some (.int .i64 p8):=hcs 8 (by decide);clear hcs;go_upto_region 16 with fail;refine au (fun W5 gx=>?_);have jI:=ae (show W5.heap[wr.heap.size]? =some (.cells #[.int .i64 p0,.int .i64 p1,.int .i64 p2,.int .i64 p3,.int .i64 p4,.int .i64 p5,.int .i64 p6,.int .i64 p7,.int .i64 p8] 106) by rw[gx];exact ai _ _ _ rfl);have hb5:Below wr.heap.size wr W5:=by rw[gx];exact(Below.refl _ _).alloc (Nat.le_refl _) _
     have fq:=ae (bm.out.trans (hb5.mono fT));have pG:=ae (show aq W5 w.heap.size ov (aX (P.take j) R) from al.grow' dK.out hb5);clear gx hb5 a0 a1 a2 a3 a4 a5 a6 a7 a8 dK;obtain⟨g,hg⟩:∃g,g=wr.heap.size:=⟨_,rfl⟩;rw[<-hg] at jI⊢;clear hg;go_wp2_with fail
     go_loopw [13,53] (fun hv kv W=>∃k:Nat,k<=i/\kv=.int .i64 (k:Int)/\hv=.bool (gT (R.take k) ⟨p0,p1,p2,p3,p4,p5,p6,p7,p8⟩)/\Below W5.heap.size W5 W) (fun _ kv _=>i-(intOf kv).toNat)
     case atStart=>exact⟨0,by omega,rfl,rfl,Below.refl _ _⟩
     case round=>
      obtain⟨k,hk,rfl,rfl,hB⟩:=hrel;obtain⟨hd,hhd⟩:∃hd,hd=gT (R.take k) ⟨p0,p1,p2,p3,p4,p5,p6,p7,p8⟩:=⟨_,rfl⟩;rw[<-hhd];have Eo:=ae hhd;have gi:=ae hB;have hzk:=hB.size;clear hhd hB;by_cases hli:k<i
      ·have d3:decide ((k:Int)<(i:Int))=true:=decide_eq_true (by omega);obtain⟨z,hz⟩:∃z,R[k]? =some z:=⟨_,List.getElem?_eq_getElem (by rw[<-HQ.out];omega)⟩;obtain⟨br,orr,rfl,hbw,hrows⟩:=pM.out.resolve_left (fun h=>by rw[h] at hz;simp at hz);have c0:wr.cell? ⟨br,orr+k,none⟩=some (.int .i64 z):=by rw[(fq.out.trans (gi.out.mono fq.out.size)).cell hbw];exact hrows k z hz
       have LA:=ae (uH hz ⟨p0,p1,p2,p3,p4,p5,p6,p7,p8⟩);rw[<-Eo.out] at LA;have mm:=ae (aj gi.out jI.out);clear hz hbw hrows;have b0:wr.cell? ⟨g,0,none⟩=some (.int .i64 p0):=(af (j:=0) mm.out).trans rfl
       cases hd
       ·have Hb:=ae (show gT (R.take (k+1)) ⟨p0,p1,p2,p3,p4,p5,p6,p7,p8⟩=(z == p0) from LA.out);go_wp2_with fail;exact⟨⟨k+1,by omega,by go_num,by rw[Hb.out],gi.out⟩,by simp[intOf];omega⟩
       ·have Hb:=ae (show gT (R.take (k+1)) ⟨p0,p1,p2,p3,p4,p5,p6,p7,p8⟩=true from LA.out);go_wp2_with fail;exact⟨⟨k+1,by omega,by go_num,by rw[Hb.out],gi.out⟩,by simp[intOf];omega⟩
      ·obtain rfl:k=i:=by omega
       have d3:decide ((k:Int)<(k:Int))=false:=by simp
       have sm:=ae (show R.take k=R by rw[HQ.out,List.take_length]);rw[sm.out] at Eo;have mm:=ae (aj gi.out jI.out);have cU:=ae (fq.out.trans (gi.out.mono fq.out.size));have lw:=ae (show aq wr w.heap.size ov (aX (P.take j) R) from al.grow' pG.out gi.out);have Ow:=ae (vT pu.out R);clear pG fq
       cases hd
       ·have eC:=ae (show aX (P.take (j+1)) R=aX (P.take j) R++[⟨p0,p1,p2,p3,p4,p5,p6,p7,p8⟩] by rw[Ow.out,<-Eo.out];rfl);have b0:wr.cell? ⟨g,0,none⟩=some (.int .i64 p0):=(af (j:=0) mm.out).trans rfl;have b1:wr.cell? ⟨g,1,none⟩=some (.int .i64 p1):=(af (j:=1) mm.out).trans rfl;have b2:wr.cell? ⟨g,2,none⟩=some (.int .i64 p2):=(af (j:=2) mm.out).trans rfl;have b3:wr.cell? ⟨g,3,none⟩=some (.int .i64 p3):=(af (j:=3) mm.out).trans rfl;have b4:wr.cell? ⟨g,4,none⟩=some (.int .i64 p4):=(af (j:=4) mm.out).trans rfl;have b5:wr.cell? ⟨g,5,none⟩=some (.int .i64 p5):=(af (j:=5) mm.out).trans rfl;have b6:wr.cell? ⟨g,6,none⟩=some (.int .i64 p6):=(af (j:=6) mm.out).trans rfl;have b7:wr.cell? ⟨g,7,none⟩=some (.int .i64 p7):=(af (j:=7) mm.out).trans rfl;have b8:wr.cell? ⟨g,8,none⟩=some (.int .i64 p8):=(af (j:=8) mm.out).trans rfl;have kP:=ae (aB.one (ai wr _ _ rfl):aB (wr.alloc (.cells #[.int .i64 p0,.int .i64 p1,.int .i64 p2,.int .i64 p3,.int .i64 p4,.int .i64 p5,.int .i64 p6,.int .i64 p7,.int .i64 p8] 106)) wr.heap.size 0 9 [[.int .i64 p0,.int .i64 p1,.int .i64 p2,.int .i64 p3,.int .i64 p4,.int .i64 p5,.int .i64 p6,.int .i64 p7,.int .i64 p8]]);have eK:=ae (al.grow' lw.out ((Below.refl _ _).alloc (Nat.le_refl _) _):al (wr.alloc (.cells #[.int .i64 p0,.int .i64 p1,.int .i64 p2,.int .i64 p3,.int .i64 p4,.int .i64 p5,.int .i64 p6,.int .i64 p7,.int .i64 p8] 106)) w.heap.size 106 9 ov ((aX (P.take j) R).map Pt.row));have bR:=ae (cU.out.alloc cU.out.size _:Below w.heap.size w (wr.alloc (.cells #[.int .i64 p0,.int .i64 p1,.int .i64 p2,.int .i64 p3,.int .i64 p4,.int .i64 p5,.int .i64 p6,.int .i64 p7,.int .i64 p8] 106)));have ez:=ae (show((aX (P.take j) R).map Pt.row).length +1<=maxLen by rw[List.length_map];have:=fF.out;unfold maxLen;omega);have HL2:=ae (show(((aX (P.take j) R).map Pt.row).length +1)*72<=140737488355328 by rw[List.length_map];have:=fF.out;omega)
        go_wp2_with (first
         | (at_builtin
            refine ar rfl (.tmp 67) (.tmp 69) 35 rfl w.heap.size 106 i0 _ 9 72 Tryz.underlying35 HI.out HZ0.out HZ1.out HZ2.out rfl (by decide) _ ((aX (P.take j) R).map Pt.row) [[.int .i64 p0,.int .i64 p1,.int .i64 p2,.int .i64 p3,.int .i64 p4,.int .i64 p5,.int .i64 p6,.int .i64 p7,.int .i64 p8]] rfl eK.out wr.heap.size 0 1 1 rfl rfl kP.out (Hu ⟨_,_,_,_,_,_,_,_,_⟩) ez.out HL2.out bR.out.size ?_;intro v6 W6 aV da z6;clear z6;have fD:=ae (show aq W6 w.heap.size v6 (aX (P.take (j+1)) R) by unfold aq;rw[eC.out,List.map_append];exact aV);have dD:=ae (show Below w.heap.size w W6 from bR.out.grown da bR.out.size (fun k hk=>al.ownBlock eK.out k hk))
            clear aV da))
        exact⟨⟨j+1,_,rfl,by omega,by go_num,fD.out,dD.out⟩,by simp[intOf];omega⟩
       ·have eC:=ae (show aX (P.take (j+1)) R=aX (P.take j) R by rw[Ow.out,<-Eo.out];exact List.append_nil _);go_wp2_with fail;exact⟨⟨j+1,_,rfl,by omega,by go_num,by rw[eC.out];exact lw.out,cU.out⟩,by simp[intOf];omega⟩
    ·obtain rfl:j=n:=by omega
     have d2:decide ((j:Int)<(j:Int))=false:=by simp
     have wG:=ae (show P.take j=P by rw[HN.out,List.take_length]);rw[wG.out] at dK fF;obtain⟨W6,rfl⟩:∃W6,W6=wr:=⟨_,rfl⟩;go_wp2_with fail
     go_loopw [74] (fun kv W=>∃k:Nat,k<=m/\kv=.int .i64 (k:Int)/\(∀a∈A.take k,∀p∈aX P R,p.id≠a.id)/\Below W6.heap.size W6 W) (fun kv _=>m-(intOf kv).toNat)
     case atStart=>exact⟨0,by omega,rfl,fun a ha=>by simp at ha,Below.refl _ _⟩
     case round=>
      obtain⟨k,hk,rfl,hth,hB⟩:=hrel;have Ip:=ae hth;have gi:=ae hB;have hzk:=hB.size;have ij:=ae (bm.out.trans (hB.mono fT));clear hth hB;by_cases hlk:k<m
      ·have d3:decide ((k:Int)<(m:Int))=true:=decide_eq_true (by omega);obtain⟨p,hp⟩:∃p,A[k]? =some p:=⟨_,List.getElem?_eq_getElem (by rw[<-HM.out];exact hlk)⟩;obtain⟨b,off,hva,hbw,hrows⟩:=HAD.out.resolve_left (fun h=>by rw[h] at hp;simp at hp);have hcs:∀y,y<9->wr.cell? ⟨b,off+k*9+y,none⟩=some (.int .i64 (p.f y)):=fun y hy=>by
        rw[ij.out.cell hbw,hrows k p.row (by rw[List.getElem?_map,hp];rfl) y hy,Pt.row_at p y hy]
       have pu:=ae hp;clear hp hrows hbw;subst hva;obtain⟨p0,p1,p2,p3,p4,p5,p6,p7,p8⟩:=p;have a0:wr.cell? ⟨b,off+k*9,none⟩=some (.int .i64 p0):=hcs 0 (by decide);have a1:wr.cell? ⟨b,off+k*9+1,none⟩=some (.int .i64 p1):=hcs 1 (by decide);have a2:wr.cell? ⟨b,off+k*9+2,none⟩=some (.int .i64 p2):=hcs 2 (by decide);have a3:wr.cell? ⟨b,off+k*9+3,none⟩=some (.int .i64 p3):=hcs 3 (by decide);have a4:wr.cell? ⟨b,off+k*9+4,none⟩=some (.int .i64 p4):=hcs 4 (by decide);have a5:wr.cell? ⟨b,off+k*9+5,none⟩=some (.int .i64 p5):=hcs 5 (by decide);have a6:wr.cell? ⟨b,off+k*9+6,none⟩=some (.int .i64 p6):=hcs 6 (by decide);have a7:wr.cell? ⟨b,off+k*9+7,none⟩=some (.int .i64 p7):=hcs 7 (by decide);have a8:wr.cell? ⟨b,off+k*9+8,none⟩=some (.int .i64 p8):=hcs 8 (by decide);clear hcs;go_upto_region 28 with fail;refine au (fun W7 o7=>?_);have mm:=ae (show W7.heap[wr.heap.size]? =some (.cells #[.int .i64 p0,.int .i64 p1,.int .i64 p2,.int .i64 p3,.int .i64 p4,.int .i64 p5,.int .i64 p6,.int .i64 p7,.int .i64 p8] 106) by rw[o7];exact ai _ _ _ rfl);have gS:Below wr.heap.size wr W7:=by rw[o7];exact(Below.refl _ _).alloc (Nat.le_refl _) _
       have cU:=ae (gi.out.trans (gS.mono hzk));clear o7 gS a0 a1 a2 a3 a4 a5 a6 a7 a8;obtain⟨g,hg⟩:∃g,g=wr.heap.size:=⟨_,rfl⟩;rw[<-hg] at mm⊢;clear hg;have c0:W7.cell? ⟨g,0,none⟩=some (.int .i64 p0):=(af (j:=0) mm.out).trans rfl;obtain⟨x,hx⟩:∃x,x=jX (aX P R) p0:=⟨_,rfl⟩;have CZ:=ae (show Calls Tryz.prog 87 #[ov,.int .i64 p0] W7 fun r w'=>r=.returned (.int .i64 x)/\Below W7.heap.size W7 w' from hx▸j9 _ (aX P R) p0 W7 (aq.ptsV (al.grow' dK.out cU.out)) (by have:=fF.out;unfold maxLen;omega));have HX:=ae hx;clear hx;go_wp2_with fail;refine CZ.out.mono ?_;rintro r w9 ⟨rfl,pd⟩;have gY:=ae (cU.out.trans (pd.mono cU.out.size));clear pd CZ c0;by_cases hx0:0<=x
       ·have d4:decide (0<=x)=true:=decide_eq_true hx0
        have Hr:=ae (show ¬dH P A R from fun h=>by
         have h1:jX (aX P R) p0<0:=im.2 (fun u hu e=>h _ (List.mem_of_getElem? pu.out) u hu e);rw[<-HX.out] at h1
         omega)
        have HR:=ae (aM.bad (fV Ie.out Hr.out) (by decide));go_wp2_with fail;go_ret2;exact⟨⟨_,_,[],rfl,al.nil _ _ _ _,HR.out⟩,bm.out.trans (gY.out.mono fT)⟩
       ·have d4:decide (0<=x)=false:=decide_eq_false hx0
        have rB:=ae (show ∀a∈A.take (k+1),∀u∈aX P R,u.id≠a.id by
         have h1:=im.1 (show jX (aX P R) p0<0 by rw[<-HX.out];omega);rw[aH pu.out];intro a ha u hu
         rcases List.mem_append.1 ha with g1|g1
         ·exact Ip.out a g1 u hu
         ·obtain rfl:=List.mem_singleton.1 g1
          exact h1 u hu)
        go_wp2_with fail;exact⟨⟨k+1,by omega,by go_num,rB.out,gY.out⟩,by simp[intOf];omega⟩
      ·obtain rfl:k=m:=by omega
       have d3:decide ((k:Int)<(k:Int))=false:=by simp
       have o9:=ae (show dH P A R by have:=Ip.out;rwa[HM.out,List.take_length] at this);have Dl:=ae (show aq wr w.heap.size ov (aX P R) from al.grow' dK.out gi.out);have EU:=ij.out.size
       have rm:=ae (show((A.map Pt.row=[]/\(aa=none->ac=0))∨∃b off,aa=some ⟨b,off,none⟩/\aB wr b off 9 (A.map Pt.row)) by
        rcases HAD.out with h| ⟨b,off,h1,h2,h3⟩
        ·refine Or.inl ⟨by rw[h];rfl,fun e=>mD.out ac ?_⟩;have hn0:k=0:=by rw[HM.out,h];rfl
         rw[e,hn0]
        ·exact Or.inr ⟨b,off,h1,h3.still ij.out h2⟩)
       have iQ:=ae (show(A.map Pt.row).length =k by rw[List.length_map];exact HM.out.symm);have ez:=ae (show((aX P R).map Pt.row).length +(A.map Pt.row).length <=maxLen by rw[iQ.out,List.length_map];have:=fF.out;unfold maxLen;omega);have HL2:=ae (show(((aX P R).map Pt.row).length +(A.map Pt.row).length)*72<=140737488355328 by rw[iQ.out,List.length_map];have:=fF.out;omega);have In:=ae (jo (enc:=Pt.row) (k:=9) (fun _=>rfl) Pt.row_one A);obtain⟨s,hs⟩:∃s,s=(aX P R++A).length :=⟨_,rfl⟩;have HS:=ae hs;have zX:=ae (show s=(aX P R).length +A.length by rw[hs,List.length_append]);clear hs;by_cases hmany:s<=1024
       ·have d4:decide ((1024:Int)<(s:Int))=false:=decide_eq_false (by omega);have hmn:¬ 1024<s:=by omega
        have K1:=ae (me Ie.out o9.out (by rw[<-zX.out];exact hmany))
        go_wp2_with (first
         | (at_builtin
            refine bH rfl (.tmp 84) (.tmp 85) 35 rfl w.heap.size 106 i0 _ 9 72 Tryz.underlying35 HI.out HZ0.out HZ1.out HZ2.out rfl (by decide) _ ((aX P R).map Pt.row) (A.map Pt.row) rfl Dl.out aa k ac iQ.out.symm rfl rm.out In.out ez.out HL2.out EU ?_;intro v6 W9 aV da z6;clear z6;have fD:=ae (show aq W9 w.heap.size v6 (aX P R++A) by unfold aq;rw[List.map_append];exact aV);have dD:=ae (show Below w.heap.size w W9 from ij.out.grown da EU (fun k hk=>al.ownBlock Dl.out k hk));clear aV da;obtain⟨ma,mcap,hmv⟩:=aq.slice fD.out;rw[<-HS.out] at hmv
            subst hmv))
        refine(mq _ (aX P R++A) W9 (aq.ptsV fD.out) (al.nilV2 fD.out) (by rw[<-HS.out];omega)).mono ?_;rintro r w11 ⟨⟨u,rfl,L,hown,hperm,hasc⟩,lE⟩;have BL:=ae (show aq w11 w.heap.size u L from al.mono hown dD.out.size);have pp:=ae (dD.out.trans (lE.mono dD.out.size));have HR:=ae (aM.ok K1.out (hperm.trans List.perm_append_comm) hasc);clear hperm hasc hown lE;go_wp2_with fail;go_ret2;exact⟨⟨_,_,L,rfl,BL.out,HR.out⟩,pp.out⟩
       ·have d4:decide ((1024:Int)<(s:Int))=true:=decide_eq_true (by omega);have hmn:1024<s:=by omega
        have HR:=ae (aM.bad (gJ Ie.out o9.out (by rw[<-zX.out];exact hmany)) (by decide))
        go_wp2_with (first
         | (at_builtin
            refine bH rfl (.tmp 84) (.tmp 85) 35 rfl w.heap.size 106 i0 _ 9 72 Tryz.underlying35 HI.out HZ0.out HZ1.out HZ2.out rfl (by decide) _ ((aX P R).map Pt.row) (A.map Pt.row) rfl Dl.out aa k ac iQ.out.symm rfl rm.out In.out ez.out HL2.out EU ?_;intro v6 W9 aV da z6;clear z6;have fD:=ae (show aq W9 w.heap.size v6 (aX P R++A) by unfold aq;rw[List.map_append];exact aV);have dD:=ae (show Below w.heap.size w W9 from ij.out.grown da EU (fun k hk=>al.ownBlock Dl.out k hk));clear aV da;obtain⟨ma,mcap,hmv⟩:=aq.slice fD.out;rw[<-HS.out] at hmv
            subst hmv))
        go_ret2;exact⟨⟨_,_,[],rfl,al.nil _ _ _ _,HR.out⟩,dD.out⟩
open Go.ChangeShapes Go.WideShapes Go.ChangeAt Go.RowKit Go.Maps Go.Sort
section
variable {H:Type} {enc:TypeId×Value->H} {w:World} {base:Nat} {spare:Nat->Bool} {held:Bool}
theorem zz {fuel:Nat} {v:Value} {x:DataW H×List MemPlace} (hx:DataW.trod enc Tryz.prog w base spare held fuel 30 [v]=some x):∃l:List Int,fi w v l/\l.length<=maxLen/\∀z∈l,(Lit.int .i64 z).wf =true:=by
 obtain⟨a,len,cap,rfl,hl,hn,hr⟩:=fW Tryz.underlying30 tZ sO (by decide) hx;by_cases h0:len=0
 ·subst h0;exact⟨[],⟨a,cap,rfl,Or.inl rfl⟩,by simp,fun z hz=>by simp at hz⟩
 ·obtain⟨b,off,rfl,hb,hrows⟩:=hr (by omega);obtain⟨S,h1,h2⟩:=yX hrows;subst h1
  exact⟨S,⟨_,cap,rfl,Or.inr ⟨b,off,rfl,hb,fun i z hi=>(h2 i z hi).1⟩⟩,hl,fun z hz=>by
   obtain⟨i,hi,rfl⟩:=List.mem_iff_getElem.1 hz
   exact(h2 i _ (List.getElem?_eq_getElem hi)).2⟩
theorem Ak:Tryz.prog.cellsOf 35=1:=by kernel_rfl
theorem wN:Tryz.prog.cellsOf 30=1:=by kernel_rfl
end
end Go.Proofs.YtcclpdfmmdonpaaGreat
