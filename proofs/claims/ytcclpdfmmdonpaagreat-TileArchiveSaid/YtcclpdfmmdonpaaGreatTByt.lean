/- The bytes of a log: baseRecord (104), stepRecord (85), bytes (80). -/
import Derived.Test.YtcclpdfmmdonpaaGreatTRec
import Derived.Test.YtcclpdfmmdonpaaGreatTArcV
namespace Go.Proofs.YtcclpdfmmdonpaaGreat
set_option maxHeartbeats 1600000
set_option maxRecDepth 100000
open Go.RowKit Go.WideShapes Go.ChangeAt Go.Maps Go.Sort
theorem cm.rdb {W:World} {B:Nat} {v:Value} {xs:List Nat} (h:cm W B v xs):DR W v xs:=iN h.1
theorem Am {W:World} {B rb wb:Nat} {k:Nat} {C:Array Value} (hr:W.heap[rb]? =some (.cells #[.int .u8 (k:Int)] 5)) (hw:W.heap[wb]? =some (.cells C 185)) (hC:C= #[.slice (some ⟨rb,0,none⟩) 1 1]) (hB:B<=rb) (hBw:B<=wb) (hne:rb≠wb):pD B W wb [k]:=by
 subst hC;refine⟨hBw,_,hw,⟨⟨rfl,.inr ⟨rb,1,_,rfl,hB,hr,Nat.le_refl _,by unfold maxLen;omega,rfl,rfl⟩⟩,fun e=>by cases e⟩,fun k hk=>?_⟩;have h1:rb=k:=Option.some.inj hk;omega
theorem qW:(Tryz.prog.info? 119).map (·.size)=some 2:=by kernel_rfl
theorem uf (wb:Nat) (a:Option Addr) (c:Nat) (w:World):Calls Tryz.prog 118 #[.pointer (some ⟨wb,0,none⟩),.slice a 0 c] w fun e w'=>e=.returned (.tuple #[])/\w'=w:=by
 go_enter Tryz.func118,Tryz.ntmps118;go_wp2_with fail;refine wp_loop_rounds 1 ?_;rw[rounds_succ];go_wp2_with fail;go_end0;exact⟨rfl,rfl⟩
theorem bM.heapB {rb B:Nat} {w w':World} {n:Nat} {x:Obj} (h:bM rb B w w') (hn:n<B) (hne:n≠rb) (hx:w.heap[n]? =some x):w'.heap[n]? =some x:=by rw[h.block n hn hne];exact hx
theorem bM.belowB {rb B:Nat} {w w':World} (h:bM rb w.heap.size w w') (hB:B<=rb) (hs:B<=w.heap.size):Below B w w':=⟨h.os,h.tape,h.output,h.size,fun k hk=>h.block k (by omega) (by omega)⟩
theorem AI (ag cp fs:Int) (bv sv:Value) (sl tn:Bool) (P:List Pt) (w:World) (hp:cj w bv P) (hok:(bj.base ag cp fs P).Ok):
 Calls Tryz.prog 104 #[.agg #[.int .i64 ag,.int .i64 cp,.int .i64 fs,bv,sv,.bool sl,.bool tn]] w fun r w'=>(∃v',r=.returned v'/\cm w' w.heap.size v' (bj.base ag cp fs P).enc)/\Below w.heap.size w w':=by
 have HP:=ae hp;rw[show(bj.base ag cp fs P).enc =dA (bj.base ag cp fs P).body from rfl];obtain⟨ys,hys⟩:∃ys,ys=(bj.base ag cp fs P).body :=⟨_,rfl⟩;have HB:=ae (show 1<=ys.length/\ys.length<=83000 by rw[hys];exact i8 (r:=.base ag cp fs P) hok);have HY:=ae (show ∀x∈ys,x<256 by rw[hys];exact jq _);rw[<-hys];have LJ:=ae hys;clear hys;have fz:=ae hok;clear hp hok;go_enter Tryz.func104,Tryz.ntmps104;go_upto_region 2 with fail;refine au (fun W1 hW1=>?_);have HL:=ae (show W1.heap[w.heap.size]? =some (.cells #[.int .i64 ag,.int .i64 cp,.int .i64 fs,bv,sv,.bool sl,.bool tn] 71) by rw[hW1];exact(by repeat' (first| (refine ai _ _ _ ?_;(first|rfl| (simp;done) | (simp;omega))) | (refine am _ _ _ _ ?_))));have HW:=ae (show pD w.heap.size W1 (w.heap.size+2) [1] from Am (rb:=w.heap.size+1) (by rw[hW1];exact(by repeat' (first| (refine ai _ _ _ ?_;(first|rfl| (simp;done) | (simp;omega))) | (refine am _ _ _ _ ?_)))) (by rw[hW1];exact(by repeat' (first| (refine ai _ _ _ ?_;(first|rfl| (simp;done) | (simp;omega))) | (refine am _ _ _ _ ?_)))) rfl (by omega) (by omega) (by omega));have HB1:=ae (show Below w.heap.size w W1 by rw[hW1];(focus ((repeat' (first| (with_reducible first|exact Below.refl _ _|assumption|refine Below.alloc ?_ ?_ _|refine Below.drew ?_ |refine below_drewN ?_ _|refine Below.setCell ?_ ?_ _|refine below_setRow ?_ ?_ _) |go_size));done)));have hs1:w.heap.size+3<=W1.heap.size:=by rw[hW1];simp
 clear hW1;have c0:W1.cell? ⟨w.heap.size,0,none⟩=some (.int .i64 ag):=(af (j:=0) HL.out).trans rfl;have c1:W1.cell? ⟨w.heap.size,1,none⟩=some (.int .i64 cp):=(af (j:=1) HL.out).trans rfl;have c2:W1.cell? ⟨w.heap.size,2,none⟩=some (.int .i64 fs):=(af (j:=2) HL.out).trans rfl;go_wp2_with fail
 refine(eG (B:=w.heap.size) (w.heap.size+2) W1.heap.size 0 3 3 [ag,cp,fs] [1] _ (HW.out.grow (by(repeat' (first| (with_reducible first|exact Below.refl _ _|assumption|refine Below.alloc ?_ ?_ _|refine Below.drew ?_ |refine below_drewN ?_ _|refine Below.setCell ?_ ?_ _|refine below_setRow ?_ ?_ _) |go_size)))) (by rw[List.length_singleton];omega) (fun z hz=>by
  simp only[List.mem_cons,List.not_mem_nil,or_false] at hz
  rcases hz with rfl|rfl|rfl
  ·exact fz.out.1
  ·exact fz.out.2.1
  ·exact fz.out.2.2.1) rfl (by decide) (jA rfl rfl rfl) (by simp) (by omega)).mono ?_
 rintro r w2 ⟨rfl,hw2,ho2⟩;have HW2:=ae hw2;have hs2:W1.heap.size+1<=w2.heap.size:=by have:=ho2.size;simpa using this
 have HL2:=ae (ho2.heapB (n:=w.heap.size) (by simp;omega) (by omega) (am _ _ _ _ HL.out));have HB2:=ae (show Below w.heap.size w w2 from(HB1.out.alloc (by omega) _).trans (ho2.belowB (by omega) (by simp;omega)));clear hw2 ho2 HL HW HB1 c0 c1 c2;have c3:w2.cell? ⟨w.heap.size,3,none⟩=some bv:=(af (j:=3) HL2.out).trans rfl;go_wp2_with fail
 refine(mE (B:=w.heap.size) (w.heap.size+2) bv P _ w w2 HW2.out (by
  have:=jh (zs:=[ag,cp,fs]) (by simp;exact⟨fz.out.1,fz.out.2.1,fz.out.2.2.1⟩);rw[List.length_append];simp only[List.length_cons,List.length_nil] at this⊢
  omega) HP.out HB2.out (by omega) fz.out.2.2.2.nums fz.out.2.2.2.len).mono ?_
 rintro r w3 ⟨rfl,hw3,ho3⟩;have HB3:=ae (show Below w.heap.size w w3 from HB2.out.trans (ho3.belowB (by omega) (by omega)));have hs3:=ho3.size;obtain⟨_,v3,hr3,cL,_⟩:=hw3;have nq:=ae cL;obtain⟨p3,n3,k3,rfl⟩:=cL.shape;have c4:w3.cell? ⟨w.heap.size+2,0,none⟩=some (.slice p3 n3 k3):=(af (j:=0) hr3).trans rfl;have HE:=ae (show [1]++bO aQ [ag,cp,fs]++bO aQ [(P.length:Int)]++bZ 0 P=ys by rw[LJ.out];simp[bj.body,bj.kind,bj.data]);rw[HE.out] at nq;clear hr3 cL ho3 HL2 HW2 c3 HE fz;have hbl:=HB.out;go_wp2_with fail;refine(kj _ ys w3 nq.out.rdb (by omega) (by omega) HY.out).mono ?_;rintro r w4 ⟨⟨v4,rfl,eR⟩,hb4⟩;have hs4:=HB3.out.size;have mL:=ae (eR.base hs4);have bm:=ae (HB3.out.trans (hb4.mono hs4));clear eR hb4 hbl;go_wp2_with fail;go_ret;exact⟨⟨_,rfl,mL.out⟩,bm.out⟩
theorem mu (av rv:Value) (s:gh) (w:World) (hp:cj w av s.add) (hr:fi w rv s.rem) (hok:eJ s):
 Calls Tryz.prog 85 #[.agg #[av,rv]] w fun r w'=>(∃v',r=.returned v'/\cm w' w.heap.size v' (bj.step s).enc)/\Below w.heap.size w w':=by
 have HP:=ae hp;rw[show(bj.step s).enc =dA (bj.step s).body from rfl];obtain⟨ys,hys⟩:∃ys,ys=(bj.step s).body :=⟨_,rfl⟩;have HB:=ae (show 1<=ys.length/\ys.length<=83000 by rw[hys];exact i8 (r:=.step s) hok);have HY:=ae (show ∀x∈ys,x<256 by rw[hys];exact jq _);rw[<-hys];have LJ:=ae hys;clear hys;have fz:=ae hok;obtain⟨ra,rc,rfl,hri⟩:=hr;obtain⟨m,hm⟩:∃m,m=s.rem.length:=⟨_,rfl⟩;have Rb:m<=12:=by rw[hm];exact hok.cut
 rw[<-hm];have HM:=ae hm;have Pf:=ae hri;clear hp hok hri hm;go_enter Tryz.func85,Tryz.ntmps85;go_upto_region 2 with fail;refine au (fun W1 hW1=>?_);have HL:=ae (show W1.heap[w.heap.size]? =some (.cells #[av,.slice ra m rc] 119) by rw[hW1];exact(by repeat' (first| (refine ai _ _ _ ?_;(first|rfl| (simp;done) | (simp;omega))) | (refine am _ _ _ _ ?_))));have HW:=ae (show pD w.heap.size W1 (w.heap.size+2) [2] from Am (rb:=w.heap.size+1) (by rw[hW1];exact(by repeat' (first| (refine ai _ _ _ ?_;(first|rfl| (simp;done) | (simp;omega))) | (refine am _ _ _ _ ?_)))) (by rw[hW1];exact(by repeat' (first| (refine ai _ _ _ ?_;(first|rfl| (simp;done) | (simp;omega))) | (refine am _ _ _ _ ?_)))) rfl (by omega) (by omega) (by omega));have HB1:=ae (show Below w.heap.size w W1 by rw[hW1];(focus ((repeat' (first| (with_reducible first|exact Below.refl _ _|assumption|refine Below.alloc ?_ ?_ _|refine Below.drew ?_ |refine below_drewN ?_ _|refine Below.setCell ?_ ?_ _|refine below_setRow ?_ ?_ _) |go_size));done)));have hs1:w.heap.size+3<=W1.heap.size:=by rw[hW1];simp
 clear hW1;have c0:W1.cell? ⟨w.heap.size,0,none⟩=some av:=(af (j:=0) HL.out).trans rfl;go_wp2_with fail;refine(mE (B:=w.heap.size) (w.heap.size+2) av s.add _ w W1 HW.out (by decide) HP.out HB1.out (by omega) fz.out.add.nums fz.out.add.len).mono ?_;rintro r w2 ⟨rfl,hw2,ho2⟩;have HW2:=ae hw2;have hs2:=ho2.size;have HL2:=ae (ho2.heapB (n:=w.heap.size) (by omega) (by omega) HL.out);have HB2:=ae (show Below w.heap.size w w2 from HB1.out.trans (ho2.belowB (by omega) (by omega)))
 have MF:=ae (show([2]++bO aQ [(s.add.length:Int)]++bZ 0 s.add).length <=1100 by
  have:=qQ fz.out.add;have h9:=fz.out.few;simp only[List.length_append,List.length_cons,List.length_nil] at this⊢
  omega)
 clear hw2 ho2 HL HW HB1 c0;have c1:w2.cell? ⟨w.heap.size,1,none⟩=some (.slice ra m rc):=(af (j:=1) HL2.out).trans rfl;go_wp2_with fail
 refine(eG (B:=w.heap.size) (w.heap.size+2) w2.heap.size 0 1 1 [(m:Int)] _ _ (HW2.out.grow (by(repeat' (first| (with_reducible first|exact Below.refl _ _|assumption|refine Below.alloc ?_ ?_ _|refine Below.drew ?_ |refine below_drewN ?_ _|refine Below.setCell ?_ ?_ _|refine below_setRow ?_ ?_ _) |go_size)))) (by have:=MF.out;omega) (fun z hz=>by
  simp only[List.mem_cons,List.not_mem_nil,or_false] at hz;subst hz
  omega) rfl (by decide) (jA rfl rfl rfl) (by simp) (by omega)).mono ?_
 rintro r w3 ⟨rfl,hw3,ho3⟩;have HW3:=ae hw3;have hs3:w2.heap.size+1<=w3.heap.size:=by have:=ho3.size;simpa using this
 have De:=ae (ho3.heapB (n:=w.heap.size) (by simp;omega) (by omega) (am _ _ _ _ HL2.out));have HB3:=ae (show Below w.heap.size w w3 from(HB2.out.alloc (by omega) _).trans (ho3.belowB (by omega) (by simp;omega)))
 have NQ:=ae (show([2]++bO aQ [(s.add.length:Int)]++bZ 0 s.add++bO aQ [(m:Int)]).length <=1200 by
  have h1:=MF.out
  have h2:=jh (zs:=[(m:Int)]) (by
   intro z hz;simp only[List.mem_cons,List.not_mem_nil,or_false] at hz;subst hz;unfold di
   omega)
  rw[List.length_append];simp only[List.length_cons,List.length_nil] at h2
  omega)
 clear hw3 ho3 HL2 HW2 HB2 MF c1;have c1:w3.cell? ⟨w.heap.size,1,none⟩=some (.slice ra m rc):=(af (j:=1) De.out).trans rfl
 have GO:=ae (show Calls Tryz.prog 118 #[.pointer (some ⟨w.heap.size+2,0,none⟩),.slice ra m rc] w3 fun e w'=>e=.returned (.tuple #[])/\pD w.heap.size w' (w.heap.size+2) ([2]++bO aQ [(s.add.length:Int)]++bZ 0 s.add++bO aQ [(m:Int)]++bO aQ s.rem)/\bM (w.heap.size+2) w3.heap.size w3 w' from by
  rcases Pf.out with h0| ⟨b,off,rfl,hb,hc⟩
  ·have hm0:m=0:=by rw[HM.out,h0];rfl
   subst hm0;refine(uf _ ra rc w3).mono ?_;rintro r w4 ⟨rfl,rfl⟩;refine⟨rfl,?_,bM.refl _ _ _⟩;rw[h0,show bO aQ ([]:List Int)=[] from rfl,List.append_nil];exact HW3.out
  ·refine eG (B:=w.heap.size) (w.heap.size+2) b off rc m s.rem _ w3 HW3.out (by have:=NQ.out;omega) (fun z hz=>fz.out.num z hz) HM.out.symm (by omega) (fun i hi=>?_) (by omega) (by omega);rw[HB3.out.cell hb];have hil:i<s.rem.length:=by rw[<-HM.out];exact hi
   rw[hc i s.rem[i] (List.getElem?_eq_getElem hil),List.getD_eq_getElem?_getD,List.getElem?_eq_getElem hil]
   rfl)
 clear Pf;go_wp2_with fail;refine GO.out.mono ?_;rintro r w4 ⟨rfl,hw4,eR⟩;have bm:=ae (show Below w.heap.size w w4 from HB3.out.trans (eR.belowB (by omega) (by omega)));have hs4:=eR.size;obtain⟨_,v3,hr3,cL,_⟩:=hw4;have nq:=ae cL;obtain⟨p3,n3,k3,rfl⟩:=cL.shape;have c4:w4.cell? ⟨w.heap.size+2,0,none⟩=some (.slice p3 n3 k3):=(af (j:=0) hr3).trans rfl;have HE:=ae (show [2]++bO aQ [(s.add.length:Int)]++bZ 0 s.add++bO aQ [(m:Int)]++bO aQ s.rem=ys by rw[LJ.out];rw[HM.out];simp[bj.body,bj.kind,bj.data]);rw[HE.out] at nq;clear hr3 cL eR De HW3 c1 HE GO NQ fz;have hbl:=HB.out;go_wp2_with fail;refine(kj _ ys w4 nq.out.rdb (by omega) (by omega) HY.out).mono ?_;rintro r w5 ⟨⟨v4,rfl,eR⟩,hb4⟩;have hs5:=bm.out.size;have mL:=ae (eR.base hs5);have dQ:=ae (bm.out.trans (hb4.mono hs5));clear eR hb4 hbl;go_wp2_with fail;go_ret;exact⟨⟨_,rfl,mL.out⟩,dQ.out⟩
theorem fC {W:World} {ops:Array Oper} {rest:List Oper} {o:Oper} {a:Act} {Q:Exit->Act->World->Prop} (hgd:o.guard=none) (s x:Operand) (ho:o.op=.call {callee:=.builtin .append,args:=#[s,x],argTypes:=#[63,63]})
 (B B2:Nat) (v v2:Value) (xs ys:List Nat) (hs:a.eval s=v) (hx:a.eval x=v2) (h1:cm W B v xs) (h2:cm W B2 v2 ys) (hn:xs.length+ys.length<=100000000) (hB:B<=W.heap.size)
 (h:∀v' w',cm w' B v' (xs++ys)->Below B W w'->wpList Tryz.prog ops Q rest (a.put o.dst v') w'):wpList Tryz.prog ops Q (o::rest) a W:=by
 obtain⟨i0,hi0,hz0,hz1,hz2⟩:=aF oi;have hmx:(100000000:Nat)<=maxLen:=by unfold maxLen;omega
 have huu:cg (xs++ys)=cg xs++cg ys:=by simp[cg]
 rcases h2.cases with⟨rfl,rfl⟩ | ⟨g,cap,rfl,_,hp⟩
 ·refine wpList_append_own_none hgd s x 63 ho B 5 i0 1 Tryz.underlying63 hi0 _ xs.length (cg xs) hs h1.1 hx ?_;exact h v W (by rw[List.append_nil];exact h1) (Below.refl _ _)
 ·refine wpList_append_own_at W hgd s x 63 ho B 5 i0 (.int .u8 0) 1 1 Tryz.underlying63 hi0 hz0 hz1 hz2 rfl (by decide) v xs.length (cg xs) hs h1.1 ⟨g,0,none⟩ ys.length cap (cg ys) hx (by simp[cg]) (fun j u hu=>?_) (eO _) (by omega) (by omega) hB ?_
  ·have hb:=lY h2.1;obtain⟨hj,rfl⟩:=List.getElem?_eq_some_iff.1 hu;have hj':j<ys.length:=by simpa[cg] using hj
   have:=hb j hj';rw[show((⟨g,0,none⟩:Addr).add j)=⟨g,0+j,none⟩ by simp[Addr.add];exact fun h=>h.symm,this];simp[cg,List.getD_eq_getElem?_getD,hj']
  ·intro v' w' ho1 ho2 _ _;refine h v' w' (cm.of (by rw[huu,List.length_append];exact ho1) (by rw[List.length_append];omega)) ((Below.refl B W).grown ho2 hB (fun k hk=>(h1.block hk).1))
theorem cF.at {W:World} {B:Nat} {v:Value} {S:List gh} {i:Nat} {s:gh} (h:cF W B v S) (hs:S[i]? =some s):∃g c av rv,v=.slice (some ⟨g,0,none⟩) S.length c/\W.cell? ⟨g,i*2,none⟩=some av/\W.cell? ⟨g,i*2+1,none⟩=some rv/\aq W B av s.add/\aI W B rv s.rem:=by
 obtain⟨E,rfl,h2,h3⟩:=h;obtain⟨hi,rfl⟩:=List.getElem?_eq_some_iff.1 hs;have hi':i<E.length:=by simpa using hi
 obtain⟨g,cap,cur,e1,_,_,e2,_⟩:=h2.rows (by simp;omega);have hm:=h3 E[i] (List.getElem_mem hi');refine⟨g,cap,E[i].av,E[i].rv,by simpa using e1,?_,?_,by simpa using hm.1,by simpa using hm.2⟩
 ·have:=e2 i [E[i].av,E[i].rv] (by simp[Se.row,hi']) 0 (by omega);simpa using this
 ·have:=e2 i [E[i].av,E[i].rv] (by simp[Se.row,hi']) 1 (by omega);simpa using this
theorem aI.intsV {W:World} {B:Nat} {v:Value} {l:List Int} (h:aI W B v l):fi W v l:=by
 by_cases hl:l=[]
 ·subst hl;obtain⟨a,c,e⟩:=al.slice h;exact⟨a,c,by simpa using e,.inl rfl⟩
 ·have hp:0<l.length:=List.length_pos_iff.2 hl;obtain⟨g,cap,cur,e1,_,e2,e3,_⟩:=al.rows h (by simpa using hp);refine⟨some ⟨g,0,none⟩,cap,by simpa using e1,.inr ⟨g,0,rfl,(Array.getElem?_eq_some_iff.1 e2).1,fun i z hz=>?_⟩⟩;have:=e3 i [.int .i64 z] (by rw[List.getElem?_map,hz];rfl) 0 (by omega);simpa using this
theorem vJ (S:List gh) {i:Nat} {s:gh} (h:S[i]? =some s):bG ((S.take (i+1)).map .step)=bG ((S.take i).map .step)++(bj.step s).enc :=by
 rw[aH h,List.map_append,mp];simp[bG]
theorem xJ {S:List gh} (hS:∀s∈S,eJ s) (i:Nat):(bG ((S.take i).map .step)).length <=1200*S.length:=by
 have:=kf (R:=(S.take i).map .step) (fun r hr=>by
  obtain⟨s,hs,rfl⟩:=List.mem_map.1 hr
  exact⟨hS s (List.mem_of_mem_take hs),by simp[bj.kind]⟩)
 rw[List.length_map,List.length_take] at this;omega
theorem yB (l:Lg) (bv sv:Value) (sl tn:Bool) (B:Nat) (w:World) (hp:cj w bv l.base) (hs:cF w B sv l.steps) (hok:gG l) (hn:l.steps.length<=1000):
 Calls Tryz.prog 80 #[.agg #[.int .i64 l.age,.int .i64 l.cap,.int .i64 l.first,bv,sv,.bool sl,.bool tn]] w fun r w'=>(∃v',r=.returned v'/\cm w' w.heap.size v' (bG (cE l)))/\Below w.heap.size w w':=by
 obtain⟨ag,cp,fs,P,S,sd⟩:=l;simp only at hp hs hn⊢;have HP:=ae hp;have HS:=ae hs;have fz:=ae hok;have hba:(bj.base ag cp fs P).Ok :=⟨hok.age,hok.cap,hok.first,hok.base⟩;have dI:=ae hba;obtain⟨hd,hhd⟩:∃hd,hd=(bj.base ag cp fs P).enc :=⟨_,rfl⟩;have NX:=ae (show hd.length<=83008 by rw[hhd];exact oL hba)
 have I9:=ae (show bG (cE ⟨ag,cp,fs,P,S,sd⟩)=hd++bG (S.map .step)++bj.stamp.enc by
  rw[hhd]
  simp[cE,bG])
 rw[I9.out];have rL:=ae (fun W (h:Below w.heap.size w W)=>AI ag cp fs bv sv sl tn P W (hp.still h) hba);rw[<-hhd] at rL;obtain⟨sa,sc,rfl⟩:=hs.slice;obtain⟨n,hnl⟩:∃n,n=S.length:=⟨_,rfl⟩;have zX:=ae (fun i=>xJ (S:=S) hok.steps i);simp only[<-hnl] at hn zX rL⊢;have HN:=ae hnl;clear hp hs hok hba hhd I9 hnl;go_enter Tryz.func80,Tryz.ntmps80;go_upto_region 1 with fail;refine au (fun W1 hW1=>?_);have HL:=ae (show W1.heap[w.heap.size]? =some (.cells #[.int .i64 ag,.int .i64 cp,.int .i64 fs,bv,.slice sa n sc,.bool sl,.bool tn] 71) by rw[hW1];exact(by repeat' (first| (refine ai _ _ _ ?_;(first|rfl| (simp;done) | (simp;omega))) | (refine am _ _ _ _ ?_))));have HB1:=ae (show Below w.heap.size w W1 by rw[hW1];(focus ((repeat' (first| (with_reducible first|exact Below.refl _ _|assumption|refine Below.alloc ?_ ?_ _|refine Below.drew ?_ |refine below_drewN ?_ _|refine Below.setCell ?_ ?_ _|refine below_setRow ?_ ?_ _) |go_size));done)));clear hW1;have c0:W1.cell? ⟨w.heap.size,0,none⟩=some (.int .i64 ag):=(af (j:=0) HL.out).trans rfl;have c1:W1.cell? ⟨w.heap.size,1,none⟩=some (.int .i64 cp):=(af (j:=1) HL.out).trans rfl;have c2:W1.cell? ⟨w.heap.size,2,none⟩=some (.int .i64 fs):=(af (j:=2) HL.out).trans rfl;have c3:W1.cell? ⟨w.heap.size,3,none⟩=some bv:=(af (j:=3) HL.out).trans rfl;have c4:W1.cell? ⟨w.heap.size,4,none⟩=some (.slice sa n sc):=(af (j:=4) HL.out).trans rfl;have c5:W1.cell? ⟨w.heap.size,5,none⟩=some (.bool sl):=(af (j:=5) HL.out).trans rfl;have c6:W1.cell? ⟨w.heap.size,6,none⟩=some (.bool tn):=(af (j:=6) HL.out).trans rfl;go_wp2_with fail;refine(rL.out W1 HB1.out).mono ?_;rintro r w2 ⟨⟨bv2,rfl,ho2⟩,hb2⟩;have eu:=ae (ho2.base HB1.out.size);have HB2:=ae (HB1.out.trans (hb2.mono HB1.out.size));have HL2:=ae (aj hb2 HL.out);clear ho2 hb2 HL HB1 c0 c1 c2 c3 c4 c5 c6 rL;have c4:w2.cell? ⟨w.heap.size,4,none⟩=some (.slice sa n sc):=(af (j:=4) HL2.out).trans rfl;go_wp2_with fail
 go_loopw [3,5,11] (fun bv _ iv W=>∃i:Nat,i<=n/\iv=.int .i64 (i:Int)/\cm W w.heap.size bv (hd++bG ((S.take i).map .step))/\Below w.heap.size w W) (fun _ _ iv _=>n-(intOf iv).toNat)
 case atStart=>exact⟨0,by omega,rfl,by simpa[bG] using eu.out,HB2.out⟩
 case round=>
  obtain⟨i,hi,rfl,ho,hb⟩:=hrel;have HO:=ae ho;have HB:=ae hb;clear ho hb HL2 eu HB2 c4;by_cases hlt:i<n
  ·have d1:decide ((i:Int)<(n:Int))=true:=decide_eq_true (by omega);obtain⟨s,hs⟩:∃s,S[i]? =some s:=⟨S[i]'(by rw[<-HN.out];exact hlt),List.getElem?_eq_getElem _⟩;obtain⟨g,c,av,rv,hsv,hc0,hc1,hav,hrv⟩:=HS.out.at hs;injection hsv with hsa _ hsc
   subst hsa hsc;obtain⟨aa,ac,rfl⟩:=aq.slice hav;obtain⟨ra,rc,rfl⟩:=al.slice hrv;generalize s.add.length=an at*;generalize (s.rem.map bB).length =rn at*;have qZ:=ae hav;have xB:=ae hrv;have x0:wr.cell? ⟨g,i*2,none⟩=some (.slice aa an ac):=by rw[HB.out.cell (block_lt_of_cell hc0)];exact hc0
   have x1:wr.cell? ⟨g,i*2+1,none⟩=some (.slice ra rn rc):=by rw[HB.out.cell (block_lt_of_cell hc1)];exact hc1
   have CY:=ae (fz.out.steps s (List.mem_of_getElem? hs));have eC:=ae (vJ S hs);clear hc0 hc1 hav hrv hs;go_upto_region 5 with(refine aR rfl 119 (.tmp 5) (.tmp 14) rfl rfl rfl rfl qW rfl rfl rfl ?_);refine au (fun W5 gx=>?_);have KL:=ae (show W5.heap[wr.heap.size]? =some (.cells #[.slice aa an ac,.slice ra rn rc] 119) by rw[gx];exact(by repeat' (first| (refine ai _ _ _ ?_;(first|rfl| (simp;done) | (simp;omega))) | (refine am _ _ _ _ ?_))));have dQ:=ae (show Below wr.heap.size wr W5 by rw[gx];(focus ((repeat' (first| (with_reducible first|exact Below.refl _ _|assumption|refine Below.alloc ?_ ?_ _|refine Below.drew ?_ |refine below_drewN ?_ _|refine Below.setCell ?_ ?_ _|refine below_setRow ?_ ?_ _) |go_size));done)));clear gx x0 x1;have y0:W5.cell? ⟨wr.heap.size,0,none⟩=some (.slice aa an ac):=(af (j:=0) KL.out).trans rfl;have y1:W5.cell? ⟨wr.heap.size,1,none⟩=some (.slice ra rn rc):=(af (j:=1) KL.out).trans rfl;have aA:=ae (HB.out.trans (dQ.out.mono HB.out.size));have zQ:=ae (HO.out.grow dQ.out);go_wp2_with fail;refine(mu _ _ s W5 ((aq.ptsV qZ.out).below aA.out rfl) (xB.out.intsV.still aA.out) CY.out).mono ?_;rintro r w6 ⟨⟨v6,rfl,Ao⟩,hb6⟩;have HY:=ae Ao;have dD:=ae (aA.out.trans (hb6.mono aA.out.size));have fD:=ae (zQ.out.grow hb6);have HE:=ae (ig (r:=.step s) CY.out (by simp[bj.kind]));have hs6:=dD.out.size;clear Ao hb6 y0 y1;go_wp2_with (at_builtin;go_loud (refine fC rfl (.tmp 15) (.tmp 17) rfl w.heap.size _ _ v6 _ _ rfl rfl fD.out HY.out (by rw[List.length_append];have h1:=zX.out i;have h2:=NX.out;have h3:=HE.out;omega) hs6 ?_;intro v7 w7 mT gS;have lw:=ae mT;have cU:=ae (dD.out.trans gS);clear mT gS));go_roundw
   case rel=>exact⟨i+1,by omega,by go_num,by rw[eC.out,<-List.append_assoc];exact lw.out,cU.out⟩
   case measure=>simp[intOf];omega
  ·obtain rfl:i=n:=by omega
   have d1:decide ((i:Int)<(i:Int))=false:=by simp
   have HX:=ae (show bG ((S.take i).map .step)=bG (S.map .step) by rw[HN.out,List.take_length]);have HF:=ae (zX.out i);rw[HX.out] at HO HF;go_wp2_with fail
   refine(kj _ [3] (wr.alloc (.cells #[.int .u8 3] 5)) (.inr ⟨⟨wr.heap.size,0,none⟩,1,rfl,fun j u hu=>by
    cases j with
    |zero=>rw[show((⟨wr.heap.size,0,none⟩:Addr).add 0)=⟨wr.heap.size,0,none⟩ from rfl,af (ai _ _ _ rfl)];exact hu
    |succ j=>simp[cg] at hu⟩) (by decide) (by decide) (by decide)).mono ?_
   rintro r w6 ⟨⟨v6,rfl,Ao⟩,hb6⟩;have HY:=ae (show cm w6 _ v6 bj.stamp.enc from Ao);have bR:=ae (show Below wr.heap.size wr w6 from((Below.refl _ _).alloc (Nat.le_refl _) _).trans (hb6.mono (by simp)));have dD:=ae (HB.out.trans (bR.out.mono HB.out.size));have fD:=ae (HO.out.grow bR.out);have HE:=ae (ig (r:=.stamp) trivial (by simp[bj.kind]));have hs6:=dD.out.size;clear Ao hb6;go_wp2_with (at_builtin;go_loud (refine fC rfl (.tmp 20) (.tmp 22) rfl w.heap.size _ _ v6 _ _ rfl rfl fD.out HY.out (by rw[List.length_append];have h1:=HF.out;have h2:=NX.out;have h3:=HE.out;omega) hs6 ?_;intro v7 w7 mT gS;have lw:=ae mT;have cU:=ae (dD.out.trans gS);clear mT gS));go_ret;exact⟨⟨_,rfl,lw.out⟩,cU.out⟩
end Go.Proofs.YtcclpdfmmdonpaaGreat
