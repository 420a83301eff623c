/- The reference's archive: NewArchive (8), Last (10), Find (28); and Versions (19) of the program's. Shows (15): an archive shows what the reference has. -/
import Derived.Test.YtcclpdfmmdonpaaGreatTArcW
import Derived.Test.YtcclpdfmmdonpaaGreatTRpl
namespace Go.Proofs.YtcclpdfmmdonpaaGreat
set_option maxHeartbeats 3200000
set_option maxRecDepth 100000
open Go.RowKit Go.WideShapes Go.ChangeAt Go.Maps Go.Sort
theorem aq.keep {W W':World} {B:Nat} {v:Value} {l:List Pt} (h:aq W B v l) (hb:Below W.heap.size W W'):aq W' B v l:=al.grow h hb
def aT (f:Int) (n:Nat):List Int:=(List.range n).map (fun(i:Nat)=>f+(i:Int))
theorem ch (f:Int) (n:Nat):(aT f n).length =n:=by simp[aT]
theorem jj {f:Int} {n i:Nat} (h:i<n):(aT f n)[i]? =some (f+(i:Int)):=by simp[aT,h]
theorem j0 (f:Int) (n:Nat):aT f (n+1)=aT f n++[f+(n:Int)]:=by simp[aT,List.range_succ]
theorem aI.at {W:World} {B:Nat} {v:Value} {l:List Int} {i:Nat} {z:Int} (h:aI W B v l) (hz:l[i]? =some z):∃g c,v=.slice (some ⟨g,0,none⟩) l.length c/\W.cell? ⟨g,i,none⟩=some (.int .i64 z):=by
 obtain⟨hi,rfl⟩:=List.getElem?_eq_some_iff.1 hz;obtain⟨g,cap,cur,e1,_,_,e2,_⟩:=h.rows (by simp;omega);refine⟨g,cap,by simpa using e1,?_⟩;have:=e2 i [.int .i64 l[i]] (by simp[bB,hi]) 0 (by omega);simpa using this
theorem dE:(Tryz.prog.info? 33).map (·.size)=some 3:=by kernel_rfl
def eI (c:Int) (vv pv:Value):Array Value:=#[.int .i64 c,vv,pv]
theorem Cq (c:Int) (w:World):
 Calls Tryz.prog 8 #[.int .i64 c] w fun r w'=>(∃vv pv,r=.returned (.agg (eI c vv pv))/\aI w' w.heap.size vv (aT 0 1)/\dJ w' w.heap.size pv [[]])/\Below w.heap.size w w':=by
 go_enter Tryz.func8,Tryz.ntmps8;go_wp2_with (refine aC rfl 33 (.tmp 2) (.tmp 6) rfl rfl rfl (by exact(by repeat' (first| (refine ai _ _ _ ?_;(first|rfl| (simp;done) | (simp;omega))) | (refine am _ _ _ _ ?_)))) dE rfl rfl rfl ?_);obtain⟨X,hX⟩:∃X,X=((w.alloc (.cells #[.int .i64 0,.slice none 0 0,.slice none 0 0] 33)).alloc (.cells #[.int .i64 0] 3)).alloc (.cells #[.slice none 0 0] 35):=⟨_,rfl⟩;have h0:X.heap[w.heap.size]? =some (.cells #[.int .i64 0,.slice none 0 0,.slice none 0 0] 33):=by rw[hX];exact(by repeat' (first| (refine ai _ _ _ ?_;(first|rfl| (simp;done) | (simp;omega))) | (refine am _ _ _ _ ?_)))
 have h1:X.heap[w.heap.size+1]? =some (.cells #[.int .i64 0] 3):=by rw[hX];exact(by repeat' (first| (refine ai _ _ _ ?_;(first|rfl| (simp;done) | (simp;omega))) | (refine am _ _ _ _ ?_)))
 have h2:X.heap[w.heap.size+1+1]? =some (.cells #[.slice none 0 0] 35):=by rw[hX];exact(by repeat' (first| (refine ai _ _ _ ?_;(first|rfl| (simp;done) | (simp;omega))) | (refine am _ _ _ _ ?_)))
 have hb:Below w.heap.size w X:=by rw[hX];(focus ((repeat' (first| (with_reducible first|exact Below.refl _ _|assumption|refine Below.alloc ?_ ?_ _|refine Below.drew ?_ |refine below_drewN ?_ _|refine Below.setCell ?_ ?_ _|refine below_setRow ?_ ?_ _) |go_size));done))
 rw[<-hX];clear hX;refine bodyPost_ret (cV rfl rfl (setRow_heap _ _ _ _ _ _ h0) Tryz.underlying33 rfl dE rfl) rfl ?_;have hfr:Fr (fun k=>k=w.heap.size) X (X.setRow w.heap.size #[.int .i64 c,.slice (some ⟨w.heap.size+1,0,none⟩) 1 1,.slice (some ⟨w.heap.size+1+1,0,none⟩) 1 1]):=Fr.row;have e1:(aT 0 1).map bB=[[.int .i64 0]]:=rfl;refine⟨⟨_,_,rfl,?_,?_⟩,below_setRow hb (Nat.le_refl _) _⟩
 ·unfold aI;rw[e1];refine al.other ⟨bF.one rfl (fun u hu=>by rw[List.mem_singleton.1 hu];rfl),rfl,.inr ⟨w.heap.size+1,1,_,rfl,Nat.le_succ _,h1,Nat.le_refl _,by unfold maxLen;omega,rfl,rfl⟩⟩ h0 (by decide) hfr
 ·refine⟨[⟨.slice none 0 0,[]⟩],rfl,al.other ⟨bF.one rfl (fun u hu=>by rw[List.mem_singleton.1 hu];rfl),rfl,.inr ⟨w.heap.size+1+1,1,_,rfl,by omega,h2,Nat.le_refl _,by unfold maxLen;omega,rfl,rfl⟩⟩ h0 (by decide) hfr,fun e he=>?_⟩;rw[List.mem_singleton.1 he];exact al.nil _ _ _ _
theorem jx (B:Nat) (c f:Int) (vv pv:Value) (L:List (List Pt)) (p:List Pt) (n:Nat) (w:World) (hv:aI w B vv (aT f L.length)) (hp:dJ w B pv L) (hn:L.length=n+1) (hn2:n<=1000000) (hpl:L[n]? =some p):
 Calls Tryz.prog 10 #[.agg (eI c vv pv)] w fun r w'=>(∃x,r=.returned (.tuple #[.int .i64 (f+(n:Int)),x])/\aq w' B x p)/\Below w.heap.size w w':=by
 obtain⟨g1,c1,rfl,h1⟩:=aI.at hv (jj (by omega:n<L.length));obtain⟨g2,c2,x,rfl,h2,hx⟩:=hp.at hpl;rw[ch];have HX:=ae hx;have H1:=ae h1;have H2:=ae h2;obtain⟨m,hm⟩:∃m,m=L.length:=⟨_,rfl⟩;rw[<-hm] at hn⊢;have hip:n<m:=by omega
 have hpi:(m:Int)-1=(n:Int):=by omega
 clear hv hp hpl hx h1 h2 hn hm;unfold eI;go_enter Tryz.func10,Tryz.ntmps10;go_upto_region 2 with fail;refine au (fun W1 hW1=>?_);have KB:=ae (show W1.heap[w.heap.size]? =some (.cells #[.int .i64 c,.slice (some ⟨g1,0,none⟩) m c1,.slice (some ⟨g2,0,none⟩) m c2] 33) by rw[hW1];exact(by repeat' (first| (refine ai _ _ _ ?_;(first|rfl| (simp;done) | (simp;omega))) | (refine am _ _ _ _ ?_))));have HB1:=ae (show Below w.heap.size w W1 by rw[hW1];(focus ((repeat' (first| (with_reducible first|exact Below.refl _ _|assumption|refine Below.alloc ?_ ?_ _|refine Below.drew ?_ |refine below_drewN ?_ _|refine Below.setCell ?_ ?_ _|refine below_setRow ?_ ?_ _) |go_size));done)));clear hW1;have q1:=fun d os=>cell_regrown (show W1.cell? ⟨w.heap.size,1,none⟩=some (.slice (some ⟨g1,0,none⟩) m c1) from(af (j:=1) KB.out).trans rfl) d os
 have q2:=fun d os=>cell_regrown (show W1.cell? ⟨w.heap.size,2,none⟩=some (.slice (some ⟨g2,0,none⟩) m c2) from(af (j:=2) KB.out).trans rfl) d os
 have q3:=fun d os=>cell_regrown (show W1.cell? ⟨g1,n,none⟩=some (.int .i64 (f+(n:Int))) by rw[HB1.out.cell (block_lt_of_cell H1.out)];exact H1.out) d os
 have q4:=fun d os=>cell_regrown (show W1.cell? ⟨g2,n,none⟩=some x by rw[HB1.out.cell (block_lt_of_cell H2.out)];exact H2.out) d os
 have il:=ae (show aq W1 B x p from al.grow HX.out HB1.out);refine wp_region_quiet_below (by kernel_rfl) (by kernel_rfl) ?_
 repeat(first|go_big_quiet_step (fail) |quiet_step (fail))
 refine wpQuiet_nil ?_;intro _ hw';obtain⟨⟨dqV,osV⟩,hw2⟩:=hw';subst hw2;have aO:=ae (below_regrown W1 dqV osV);generalize Sort.grow (redrawn W1 dqV) osV=V at aO⊢;have HB2:=ae (HB1.out.trans (aO.out.mono HB1.out.size));have mK:=ae (show aq V B x p from al.grow il.out aO.out);clear q1 q2 q3 q4;go_wp2_with fail;go_ret2;exact⟨⟨_,rfl,mK.out⟩,HB2.out⟩
def Ap (B:Nat) (f v:Int) (L:List (List Pt)) (w:World) (r:Ending) (w':World):Prop:=
 ((∃(i:Nat) (p:List Pt) (x:Value),L[i]? =some p/\v=f+(i:Int)/\r=.returned (.tuple #[x,.bool true])/\aq w' B x p)∨((v<f∨f+(L.length:Int)<=v)/\r=.returned (.tuple #[.slice none 0 0,.bool false])))/\Below w.heap.size w w'
theorem yh (B:Nat) (c f v:Int) (vv pv:Value) (L:List (List Pt)) (w:World) (hv:aI w B vv (aT f L.length)) (hp:dJ w B pv L) (hn:L.length<=1000000) (_hf:0<=f/\f<=1000000):
 Calls Tryz.prog 28 #[.agg (eI c vv pv),.int .i64 v] w fun r w'=>Ap B f v L w r w':=by
 obtain⟨va,vc,hvv⟩:=al.slice hv;obtain⟨pa,pc,hpv⟩:=hp.slice;obtain⟨m,hm⟩:∃m,m=L.length:=⟨_,rfl⟩;rw[List.length_map,ch] at hvv;rw[<-hm] at hvv hpv hn;subst hvv hpv
 have HV:=ae (show ∀i,i<m->∃g,va=some ⟨g,0,none⟩/\w.cell? ⟨g,i,none⟩=some (.int .i64 (f+(i:Int))) from fun i hi=>by
  obtain⟨g1,c1,e1,h1⟩:=aI.at hv (jj (by omega:i<L.length));injection e1 with e1
  exact⟨g1,e1,h1⟩)
 have HP:=ae (show ∀i p,L[i]? =some p->∃g x,pa=some ⟨g,0,none⟩/\w.cell? ⟨g,i,none⟩=some x/\aq w B x p from fun i p hi=>by
  obtain⟨g1,c1,x,e1,h1,h2⟩:=hp.at hi;injection e1 with e1
  exact⟨g1,x,e1,h1,h2⟩)
 have HM:=ae hm;clear hv hp hm;unfold eI;go_enter Tryz.func28,Tryz.ntmps28;go_upto_region 1 with fail;refine au (fun W1 hW1=>?_);have KB:=ae (show W1.heap[w.heap.size]? =some (.cells #[.int .i64 c,.slice va m vc,.slice pa m pc] 33) by rw[hW1];exact(by repeat' (first| (refine ai _ _ _ ?_;(first|rfl| (simp;done) | (simp;omega))) | (refine am _ _ _ _ ?_))));have HB1:=ae (show Below w.heap.size w W1 by rw[hW1];(focus ((repeat' (first| (with_reducible first|exact Below.refl _ _|assumption|refine Below.alloc ?_ ?_ _|refine Below.drew ?_ |refine below_drewN ?_ _|refine Below.setCell ?_ ?_ _|refine below_setRow ?_ ?_ _) |go_size));done)));have zH:=ae (show w.heap.size<W1.heap.size by rw[hW1];simp);clear hW1;have q1:W1.cell? ⟨w.heap.size,1,none⟩=some (.slice va m vc):=(af (j:=1) KB.out).trans rfl;go_wp2_with fail;clear q1
 go_loopw [11] (fun iv W=>∃k:Nat,k<=m/\iv=.int .i64 (k:Int)/\(v<f∨f+(k:Int)<=v)/\Below W1.heap.size W1 W) (fun iv _=>m-(intOf iv).toNat)
 case atStart=>exact⟨0,by omega,rfl,by omega,Below.refl _ _⟩
 case round=>
  obtain⟨k,hk,rfl,hno,hB⟩:=hrel;have aA:=ae hB;have gL:=ae hno;by_cases hlt:k<m
  ·obtain⟨g1,rfl,h1⟩:=HV.out k hlt;have d1:decide ((k:Int)<(m:Int))=true:=decide_eq_true (by omega);have hk0:(0:Int)<=(k:Int):=by omega
   have ka:=ae (HB1.out.trans (hB.mono HB1.out.size));have Og:wr.cell? ⟨g1,k,none⟩=some (.int .i64 (f+(k:Int))):=by rw[ka.out.cell (block_lt_of_cell h1)];exact h1
   clear hB hno h1;by_cases he:v=f+(k:Int)
   ·have d2:(f+(k:Int) == v)=true:=by simp[he]
    obtain⟨p,hpk⟩:∃p,L[k]? =some p:=⟨_,List.getElem?_eq_getElem (by rw[<-HM.out];exact hlt)⟩;obtain⟨g2,x,rfl,h2,hx⟩:=HP.out k p hpk;have HX:=ae (show aq wr B x p from al.grow hx ka.out);have kI:=ae hpk;have HE:=ae he;have RO:wr.cell? ⟨g2,k,none⟩=some x:=by rw[ka.out.cell (block_lt_of_cell h2)];exact h2
    have q2:wr.cell? ⟨w.heap.size,2,none⟩=some (.slice (some ⟨g2,0,none⟩) m pc):=by rw[aA.out.cell (block_lt_of_cell ((af (j:=2) KB.out).trans rfl))];exact(af (j:=2) KB.out).trans rfl
    clear h2 hx hpk he;go_wp2_with fail;go_ret2;exact⟨.inl ⟨k,p,x,kI.out,HE.out,rfl,HX.out⟩,ka.out⟩
   ·have d2:(f+(k:Int) == v)=false:=by simp;omega
    have HE:=ae he;clear he;go_wp2_with fail;exact⟨⟨k+1,by omega,by go_num,by have:=gL.out;have:=HE.out;omega,aA.out⟩,by simp[intOf];omega⟩
  ·obtain rfl:k=m:=by omega
   have d1:decide ((k:Int)<(k:Int))=false:=by simp
   clear hB;have ka:=ae (HB1.out.trans (aA.out.mono HB1.out.size));go_wp2_with fail;go_ret2;exact⟨.inr ⟨by rw[<-HM.out];exact gL.out,rfl⟩,ka.out⟩
theorem pj (B g gd:Nat) (a:Ac) (bv sv pv:Value) (w:World) (h:aU w B g gd a bv sv pv) (hs:eW a):
 Calls Tryz.prog 19 #[.pointer (some ⟨g,0,none⟩)] w fun r w'=>(∃v,r=.returned v/\aI w' w.heap.size v (aT a.lg.first a.pts.length))/\Below w.heap.size w w':=by
 have HN:=ae (dw B g gd a bv sv pv w h);have hf:=hs.first;have hpl:=hs.pts;obtain⟨pa,pc,rfl⟩:=h.pts.slice;have H:=ae h;obtain⟨n,hn⟩:∃n,n=a.pts.length:=⟨_,rfl⟩;rw[<-hn] at hpl H⊢;obtain⟨f,hff⟩:∃f,f=a.lg.first:=⟨_,rfl⟩;rw[<-hff] at hf⊢;have eS:=ae (show ∀W,Below w.heap.size w W->W.cell? ⟨g,2,none⟩=some (.int .i64 f) from fun W hb=>by rw[(H.out.still hb).cell 2];simp[cO,hff]);have xm:=ae (show ∀W,Below w.heap.size w W->W.cell? ⟨g,7,none⟩=some (.slice pa n pc) from fun W hb=>by rw[(H.out.still hb).cell 7];simp[cO]);clear H h hs hn hff;obtain⟨i0,hinf,hz0,hz1,hz2⟩:=aF rF;have HI:=ae hinf;have HZ0:=ae hz0;have HZ1:=ae hz1;have HZ2:=ae hz2;clear hinf hz0 hz1 hz2;go_enter Tryz.func19,Tryz.ntmps19;go_wp2_with fail;refine HN.out.mono ?_;rintro r w1 ⟨rfl,hb⟩;have HB:=ae hb;have q7:=xm.out _ hb;clear hb;go_wp2_with fail;clear q7
 go_loopw [3,13] (fun ov iv W=>∃k:Nat,k<=n/\iv=.int .i64 (k:Int)/\aI W w.heap.size ov (aT f k)/\Below w.heap.size w W) (fun _ iv _=>n-(intOf iv).toNat)
 case atStart=>exact⟨0,by omega,rfl,al.nil _ _ _ _,HB.out⟩
 case round=>
  obtain⟨k,hk,rfl,ho,hB⟩:=hrel;have aA:=ae hB;have HO:=ae ho;obtain⟨oa,oc,hov⟩:=al.slice ho;obtain⟨on,hon⟩:∃x,x=((aT f k).map bB).length :=⟨_,rfl⟩;rw[<-hon] at hov;have PU:=ae (show on=k by rw[hon,List.length_map,ch]);subst hov;clear hon ho;have q2:=eS.out _ hB;by_cases hlt:k<n
  ·have d1:decide ((k:Int)<(n:Int))=true:=decide_eq_true (by omega);have hk0:(0:Int)<=(k:Int):=by omega
   have eK:=ae (al.grow HO.out ((Below.refl _ _).alloc (Nat.le_refl _) (.cells #[.int .i64 (f+(k:Int))] 3)));have HRW:=ae (aB.one (ai wr (.cells #[.int .i64 (f+(k:Int))] 3) _ rfl):aB (wr.alloc (.cells #[.int .i64 (f+(k:Int))] 3)) wr.heap.size 0 1 [[.int .i64 (f+(k:Int))]]);have dI:=ae (show Below w.heap.size w (wr.alloc (.cells #[.int .i64 (f+(k:Int))] 3)) from aA.out.alloc aA.out.size _);have ez:=ae (show((aT f k).map bB).length +[[Value.int .i64 (f+(k:Int))]].length <=maxLen by rw[List.length_map,ch,List.length_singleton];unfold maxLen;omega);have HL2:=ae (show(((aT f k).map bB).length +[[Value.int .i64 (f+(k:Int))]].length)*8<=140737488355328 by rw[List.length_map,ch,List.length_singleton];omega);clear hB
   go_wp2_with (first
    | (at_builtin
       go_loud (refine ar rfl (.tmp 16) (.tmp 25) 30 rfl w.heap.size 3 i0 _ 1 8 Tryz.underlying30 HI.out HZ0.out HZ1.out HZ2.out rfl (by decide) _ ((aT f k).map bB) [[.int .i64 (f+(k:Int))]] rfl eK.out wr.heap.size 0 1 1 rfl rfl HRW.out (bF.one rfl (fun u hu=>by rw[List.mem_singleton.1 hu];rfl)) ez.out HL2.out dI.out.size ?_)
       intro v9 w9 kK kF z9;clear z9;have rQ:=ae (show aI w9 w.heap.size v9 (aT f (k+1)) by unfold aI;rw[j0,List.map_append];exact kK);have gY:=ae (show Below w.heap.size w w9 from dI.out.grown kF dI.out.size (fun j hj=>al.ownBlock eK.out j hj))
       clear kK kF))
   exact⟨⟨k+1,by omega,by go_num,rQ.out,gY.out⟩,by simp[intOf];omega⟩
  ·obtain rfl:k=n:=by omega
   have d1:decide ((k:Int)<(k:Int))=false:=by simp
   clear hB;go_wp2_with fail;go_ret;exact⟨⟨_,rfl,HO.out⟩,aA.out⟩
open Go.RowKit Go.WideShapes Go.ChangeAt Go.Maps Go.Sort
theorem pZ (B B2 g gd:Nat) (a:Ac) (bv sv pv vv rv:Value) (c:Int) (w:World) (h:aU w B g gd a bv sv pv) (hs:eW a) (hv:aI w B2 vv (aT a.lg.first a.pts.length)) (hr:dJ w B2 rv a.pts) (h0:0<a.pts.length):
 Calls Tryz.prog 15 #[.pointer (some ⟨g,0,none⟩),.agg (eI c vv rv)] w fun r w'=>r=.returned (.bool true)/\Below w.heap.size w w':=by
 obtain⟨n,hn⟩:∃n,a.pts.length=n+1:=⟨a.pts.length-1,by omega⟩;obtain⟨P,hP⟩:∃P,a.pts[n]? =some P:=⟨_,List.getElem?_eq_getElem (by omega)⟩;have hfs:=hs.first;have hpl:=hs.pts;have qY:=ae (fun W (hb:Below w.heap.size w W)=>jx B2 c a.lg.first vv rv a.pts P n W (al.grow hv hb) (hr.still hb) hn (by omega) hP);have Ij:=ae (fun W (hb:Below w.heap.size w W)=>pj B g gd a bv sv pv W (h.still hb) hs);have KJ:=ae (fun W (hb:Below w.heap.size w W)=>kO B g gd a bv sv pv W (h.still hb) hs);have wG:=ae (fun W (hb:Below w.heap.size w W) (i:Nat) (p:List Pt) (hp:a.pts[i]? =some p)=>ul B g gd a bv sv pv W (h.still hb) hs hp (a.lg.first+(i:Int)) rfl);have fz:=ae hs.ok;obtain⟨m,hm⟩:∃m,m=a.pts.length:=⟨_,rfl⟩
 have HV:=ae (show ∀(W:World) (k:Nat),Below w.heap.size w W->k<m->∀g1 c1,vv=.slice (some ⟨g1,0,none⟩) m c1->W.cell? ⟨g1,k,none⟩=some (.int .i64 (a.lg.first+(k:Int))) from fun W k hb hk g1 c1 e=>by
  obtain⟨g3,c3,e3,h3⟩:=aI.at hv (jj (by omega:k<a.pts.length));rw[e] at e3;injection e3 with e3
  injection e3 with e3
  injection e3 with e3
  rw[e3,hb.cell (block_lt_of_cell h3)]
  exact h3)
 have HP:=ae (show ∀(W:World) (k:Nat) (p:List Pt),Below w.heap.size w W->a.pts[k]? =some p->∀g1 c1,rv=.slice (some ⟨g1,0,none⟩) m c1->∃x,W.cell? ⟨g1,k,none⟩=some x/\aq W B2 x p from fun W k p hb hk g1 c1 e=>by
  obtain⟨g3,c3,x,e3,h3,hx⟩:=hr.at hk;rw[e] at e3;injection e3 with e3
  injection e3 with e3
  injection e3 with e3
  refine⟨x,?_,aq.keep hx hb⟩;rw[e3,hb.cell (block_lt_of_cell h3)]
  exact h3)
 obtain⟨g1,c1,cur1,hv1,_,_⟩:=hv.rows (by rw[List.length_map,ch];omega);rw[List.length_map,ch,<-hm] at hv1;subst hv1;obtain⟨g2,c2,x2,hv2,_⟩:=hr.at hP;rw[<-hm] at hv2;subst hv2;obtain⟨f,hff⟩:∃f,f=a.lg.first:=⟨_,rfl⟩;have Fn:=ae (show m=n+1 by rw[hm,hn]);have hver:a.lg.first+(a.pts.length:Int)-1=f+(n:Int):=by rw[hn,hff];omega
 rw[hver] at KJ;rw[<-hff] at qY Ij wG HV hfs;rw[<-hm] at Ij hpl;have HM:=ae hm;clear h hs hv hr h0 hP hn hff hver hm;unfold eI;go_enter Tryz.func15,Tryz.ntmps15;go_upto_region 1 with fail;refine au (fun W1 hW1=>?_);have KB:=ae (show W1.heap[w.heap.size]? =some (.cells #[.int .i64 c,.slice (some ⟨g1,0,none⟩) m c1,.slice (some ⟨g2,0,none⟩) m c2] 33) by rw[hW1];exact(by repeat' (first| (refine ai _ _ _ ?_;(first|rfl| (simp;done) | (simp;omega))) | (refine am _ _ _ _ ?_))));have HB1:=ae (show Below w.heap.size w W1 by rw[hW1];(focus ((repeat' (first| (with_reducible first|exact Below.refl _ _|assumption|refine Below.alloc ?_ ?_ _|refine Below.drew ?_ |refine below_drewN ?_ _|refine Below.setCell ?_ ?_ _|refine below_setRow ?_ ?_ _) |go_size));done)));clear hW1;have b0:W1.cell? ⟨w.heap.size,0,none⟩=some (.int .i64 c):=(af (j:=0) KB.out).trans rfl;have b1:W1.cell? ⟨w.heap.size,1,none⟩=some (.slice (some ⟨g1,0,none⟩) m c1):=(af (j:=1) KB.out).trans rfl;have b2:W1.cell? ⟨w.heap.size,2,none⟩=some (.slice (some ⟨g2,0,none⟩) m c2):=(af (j:=2) KB.out).trans rfl;go_wp2_with fail;refine(qY.out W1 HB1.out).mono ?_;rintro r w2 ⟨⟨x,rfl,_⟩,hb2⟩;have mR:=ae (aj hb2 KB.out);have HB2:=ae (HB1.out.trans (hb2.mono HB1.out.size));clear hb2 b0 b1 b2 KB HB1 qY;go_wp2_with fail;refine(Ij.out w2 HB2.out).mono ?_;rintro r w3 ⟨⟨ov,rfl,ho⟩,hb3⟩;have CH:=ae (aj hb3 mR.out);have HB3:=ae (HB2.out.trans (hb3.mono HB2.out.size));obtain⟨go,co,curo,hov,_,hgo,_,_⟩:=ho.rows (by rw[List.length_map,ch,Fn.out];omega);rw[List.length_map,ch] at hov;subst hov;have nq:=ae ho;clear hb3 mR HB2 Ij ho hgo;go_wp2_with fail;refine(KJ.out w3 HB3.out).mono ?_;rintro r w4 ⟨rfl,hb4⟩;have sk:=ae (aj hb4 CH.out);have bm:=ae (HB3.out.trans (hb4.mono HB3.out.size));have mL:=ae (show aI w4 w2.heap.size _ (aT f m) from al.grow nq.out hb4);clear hb4 CH HB3 KJ nq;have b1:w4.cell? ⟨w.heap.size,1,none⟩=some (.slice (some ⟨g1,0,none⟩) m c1):=(af (j:=1) sk.out).trans rfl;have d5:(f+(n:Int) != f+(n:Int))=false:=by simp
 have d6:((m:Int) != (m:Int))=false:=by simp
 go_wp2_with fail;clear b1 d5 d6
 go_loopw [32] (fun iv W=>∃k:Nat,k<=m/\iv=.int .i64 (k:Int)/\Below w4.heap.size w4 W) (fun iv _=>m-(intOf iv).toNat)
 case atStart=>exact⟨0,by omega,rfl,Below.refl _ _⟩
 case round=>
  obtain⟨k,hk,rfl,hB⟩:=hrel;have aA:=ae hB;have ka:=ae (bm.out.trans (hB.mono bm.out.size));by_cases hlt:k<m
  ·have d1:decide ((k:Int)<(m:Int))=true:=decide_eq_true (by omega);have hk0:(0:Int)<=(k:Int):=by omega
   obtain⟨p,hpk⟩:∃p,a.pts[k]? =some p:=⟨_,List.getElem?_eq_getElem (by rw[<-HM.out];exact hlt)⟩;obtain⟨go2,co2,eo,ho⟩:=aI.at (al.grow mL.out hB:aI wr w2.heap.size _ (aT f m)) (jj hlt);injection eo with eo e8 e9
   injection eo with eo
   injection eo with eo
   subst eo;clear e8 e9;have kI:=ae hpk;clear hB hpk;go_wp2_with fail;refine(wG.out wr ka.out k p kI.out).mono ?_;rintro r w6 ⟨⟨q,rfl,hq⟩,hb6⟩;have dD:=ae (ka.out.trans (hb6.mono ka.out.size));have kU:=ae (aA.out.trans (hb6.mono aA.out.size));obtain⟨y,hy1,hy2⟩:=HP.out w6 k p dD.out kI.out g2 c2 rfl;have AP:=ae (fun d os=>tN q y p (Sort.grow (redrawn w6 d) os) ((aq.ptsV hq).still (below_regrown w6 d os)) ((aq.ptsV hy2).still (below_regrown w6 d os)) (by have:=(fz.out p (List.mem_of_getElem? kI.out)).len;omega));have q1:=fun d os=>cell_regrown (show w6.cell? ⟨w.heap.size,1,none⟩=some (.slice (some ⟨g1,0,none⟩) m c1) from(af (j:=1) (aj kU.out sk.out)).trans rfl) d os
   have q2:=fun d os=>cell_regrown (show w6.cell? ⟨w.heap.size,2,none⟩=some (.slice (some ⟨g2,0,none⟩) m c2) from(af (j:=2) (aj kU.out sk.out)).trans rfl) d os
   have q3:=fun d os=>cell_regrown (show w6.cell? ⟨go,k,none⟩=some (.int .i64 (f+(k:Int))) by rw[hb6.cell (block_lt_of_cell ho)];exact ho) d os
   have q4:=fun d os=>cell_regrown (HV.out w6 k dD.out hlt g1 c1 rfl) d os
   have q5:=fun d os=>cell_regrown hy1 d os
   have d5:(f+(k:Int) != f+(k:Int))=false:=by simp
   clear hq hb6 hy1 hy2 ho;go_wp2_with fail;refine wp_region_quiet_below (by kernel_rfl) (by kernel_rfl) ?_
   repeat(first|go_big_quiet_step (first| (go_at_call 39;exact Calls.regrown_of (AP.out _ _))) |quiet_step (first| (go_at_call 39;exact Calls.regrown_of (AP.out _ _))))
   refine wpQuiet_nil ?_;intro _ hw';obtain⟨⟨dq,osq⟩,hw2⟩:=hw';subst hw2;have cU:=ae (kU.out.trans ((below_regrown w6 dq osq).mono kU.out.size));clear q1 q2 q3 q4 q5 d5 AP;go_wp2_with fail;exact⟨⟨k+1,by omega,by go_num,cU.out⟩,by simp[intOf];omega⟩
  ·obtain rfl:k=m:=by omega
   have d1:decide ((k:Int)<(k:Int))=false:=by simp
   clear hB;go_wp2_with fail;go_ret;exact⟨rfl,ka.out⟩
end Go.Proofs.YtcclpdfmmdonpaaGreat
