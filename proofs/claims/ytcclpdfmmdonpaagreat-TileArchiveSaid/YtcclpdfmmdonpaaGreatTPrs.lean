/- The functions that read the bodies of records: the table of them (77), and each of them (98, 101, 102). -/
import Derived.Test.YtcclpdfmmdonpaaGreatTNxt
import Derived.Test.YtcclpdfmmdonpaaGreatTArcV
namespace Go.Proofs.YtcclpdfmmdonpaaGreat
set_option maxRecDepth 100000
open Go.RowKit Go.WideShapes Go.ChangeAt Go.Maps Go.Sort
theorem x7:Keyed Tryz.prog 5:=int_keyed Tryz.underlying5
theorem fY {P:Program} {W:World} {k:TypeId} {b n s:Nat} {get:Lit->Option Value} {e:TypeId} {ops:Array Oper} {rest:List Oper} {o:Oper} {a:Act} {Q:Exit->Act->World->Prop} (hg:o.guard=none) (m x v:Operand) (t:TypeId) (hop:o.op=Op.insert t m x v)
 (K:Keyed P k) (ht:P.underlying t=some (.map k e)) (hm:a.eval m=.map (some b)) (h:dF P W k b n s get) (hn:n<maxLen) (key val:Value) (kl:Lit) (hx:a.eval x=key) (hv:a.eval v=val) (hkey:keyOf P k key=some kl) (hnew:get kl=none)
 (hK:∀w',dF P w' k b (n+1) (s+1) (dS get kl val)->W.grownBy w' (some b)->wpList P ops Q rest (a.put o.dst undef) w'):wpList P ops Q (o::rest) a W:=by
 refine wpList_plain hg fun K' hK'=>?_
 obtain⟨w',hrun,r1,r2⟩:=h.put K ht hn (val:=val) hkey hnew;unfold Oper.wp;simp[execOp,hop,hm,hx,hv,hrun,Result.andThen];exact hK' _ _ (hK w' r1 r2)
theorem DC (W:World):(Instr.makeMap 138 none).run Tryz.prog W=.ok (.map (some W.heap.size)) (W.alloc (.map #[] 0)):=by
 simp[Instr.makeMap,newObj];rfl
def Ex (n:Nat):Value:=.func (.func n) #[] #[]
def se:Lit->Option Value:=dS (dS (dS (fun _=>none) (.int .u8 1) (Ex 98)) (.int .u8 2) (Ex 101)) (.int .u8 3) (Ex 102)
theorem Bj:keyOf Tryz.prog 5 (.int .u8 1)=some (.int .u8 1):=by kernel_rfl
theorem Cz:keyOf Tryz.prog 5 (.int .u8 2)=some (.int .u8 2):=by kernel_rfl
theorem BQ:keyOf Tryz.prog 5 (.int .u8 3)=some (.int .u8 3):=by kernel_rfl
theorem nJ:se (.int .u8 1)=some (Ex 98)/\se (.int .u8 2)=some (Ex 101)/\se (.int .u8 3)=some (Ex 102):=⟨by kernel_rfl,by kernel_rfl,by kernel_rfl⟩
theorem mv (w:World):
 Calls Tryz.prog 77 #[] w fun r w'=>(∃b,r=.returned (.map (some b))/\w.heap.size<=b/\dF Tryz.prog w' 5 b 3 3 se)/\Below w.heap.size w w':=by
 have HM:=ae DC;have Fd:=ae (dF.made (P:=Tryz.prog) (k:=5) w);have HB0:=ae ((Below.refl w.heap.size w).alloc (Nat.le_refl _) (.map #[] 0));go_enter Tryz.func77,Tryz.ntmps77;have hm:=HM.out
 go_wp2_with (first
  | (refine fY rfl (.tmp 1) (.const (.int .u8 1)) (.func 98) 138 rfl x7 Tryz.underlying138 rfl Fd.out (by unfold maxLen;omega) (.int .u8 1) (Ex 98) _ rfl rfl Bj rfl ?_
     intro w1 hz1 hg1;have BW:=ae hz1;have HB1:=ae (HB0.out.grown hg1 (by simp) (fun k e=>by have e':w.heap.size=k:=Option.some.inj e;omega))
     clear hz1 hg1)
  | (refine fY rfl (.tmp 1) (.const (.int .u8 2)) (.func 101) 138 rfl x7 Tryz.underlying138 rfl BW.out (by unfold maxLen;omega) (.int .u8 2) (Ex 101) _ rfl rfl Cz rfl ?_
     intro w2 hz2 hg2;have Lq:=ae hz2;have HB2:=ae (HB1.out.grown hg2 HB1.out.size (fun k e=>by have e':w.heap.size=k:=Option.some.inj e;omega))
     clear hz2 hg2)
  | (refine fY rfl (.tmp 1) (.const (.int .u8 3)) (.func 102) 138 rfl x7 Tryz.underlying138 rfl Lq.out (by unfold maxLen;omega) (.int .u8 3) (Ex 102) _ rfl rfl BQ rfl ?_
     intro w3 hz3 hg3;have JJ:=ae hz3;have HB3:=ae (HB2.out.grown hg3 HB2.out.size (fun k e=>by have e':w.heap.size=k:=Option.some.inj e;omega))
     clear hz3 hg3))
 go_ret;exact⟨⟨_,rfl,Nat.le_refl _,JJ.out⟩,HB3.out⟩
def aP (l:Lg) (bv sv:Value) (tn:Bool):Array Value:=#[.int .i64 l.age,.int .i64 l.cap,.int .i64 l.first,bv,sv,.bool l.sealed,.bool tn]
theorem Fr.only {rb:Nat} {w w':World} (h:bM rb w.heap.size w w'):Fr (fun k=>k=rb) w w':=⟨h.os,h.tape,h.output,h.size,fun k hk hn=>h.block k hk hn⟩
theorem jC {α:Type} (f:α->List Nat) (z:α) (zs:List α):bO f (z::zs)=f z++bO f zs:=by simp[bO]
theorem nG {α:Type} (f:α->List Nat):bO f []=[]:=rfl
theorem mH {P:List Pt} (h:dM P) (rest:List Nat):gt (ir (bO aQ [(P.length:Int)]++bZ 0 P++rest))=(P,ir rest):=by
 have hl:=h.len;have h1:bi false (ir (aQ (P.length:Int)++(bZ 0 P++rest)))=((P.length:Int),ir (bZ 0 P++rest)):=cR _ _ (by omega);rw[jC,nG,List.append_nil,List.append_assoc];unfold gt;rw[h1];simp only;rw[if_neg (by omega),Int.toNat_natCast];exact pN 0 P (wV 0 P h.nums) rest
theorem yu {a c f:Int} {P:List Pt} (h:(bj.base a c f P).Ok):∃s1 s2 s3,bi false (ir (bj.base a c f P).data)=(a,s1)/\bi false s1=(c,s2)/\bi false s2=(f,s3)/\gt s3=(P,ir []):=by
 refine⟨ir (aQ c++(aQ f++(bO aQ [(P.length:Int)]++bZ 0 P))),ir (aQ f++(bO aQ [(P.length:Int)]++bZ 0 P)),ir (bO aQ [(P.length:Int)]++bZ 0 P),?_,cR c _ h.2.1,cR f _ h.2.2.1,?_⟩
 ·have:(bj.base a c f P).data =aQ a++(aQ c++(aQ f++(bO aQ [(P.length:Int)]++bZ 0 P))):=by
   simp[bj.data,jC,nG]
  rw[this];exact cR a _ h.1
 ·have:=mH h.2.2.2 [];rwa[List.append_nil] at this
theorem xY (lb:Nat) (l:Lg) (bv sv rv:Value) (tn:Bool) (w:World) (h:w.heap[lb]? =some (.cells (aP l bv sv tn) 71)):
 Calls Tryz.prog 102 #[.pointer (some ⟨lb,0,none⟩),rv] w fun r w'=>r=.returned (.tuple #[])/\w'.heap[lb]? =some (.cells (aP (l.next .stamp) bv sv tn) 71)/\Fr (fun k=>k=lb) w w':=by
 have H:=ae h;have z0:w.frozen? ⟨lb,5,none⟩=false:=by simp[World.frozen?,h]
 have c0:w.cell? ⟨lb,5,none⟩=some (.bool l.sealed):=af h;clear h;go_enter Tryz.func102,Tryz.ntmps102;go_wp2_with fail;go_end0;exact⟨rfl,heap_setCell H.out _,Fr.set rfl⟩
theorem yE (lb rb b:Nat) (l:Lg) (bv sv:Value) (tn:Bool) (a c f:Int) (P:List Pt) (w:World) (h:w.heap[lb]? =some (.cells (aP l bv sv tn) 71)) (hok:(bj.base a c f P).Ok) (hr:aZ w rb 146 b (ir (bj.base a c f P).data)) (hne:lb≠rb) (hnb:b≠lb):
 Calls Tryz.prog 98 #[.pointer (some ⟨lb,0,none⟩),.pointer (some ⟨rb,0,none⟩)] w fun r w'=>r=.returned (.tuple #[])/\∃bv',w'.heap[lb]? =some (.cells (aP (l.next (.base a c f P)) bv' sv tn) 71)/\aq w' w.heap.size bv' P/\aZ w' rb 146 b (ir [])/\Fr (fun k=>k=lb∨k=rb) w w':=by
 obtain⟨s1,s2,s3,h1,h2,h3,h4⟩:=yu hok;have KL:=ae h;have RD:=ae hr;have qz:=ae hne;have lp:=ae hnb;have H1:=ae h1;have H2:=ae h2;have H3:=ae h3;have H4:=ae h4;have FR:=ae (Fr.refl (fun k=>k=lb∨k=rb) w);clear h hr hne hnb hok h1 h2 h3 h4;unfold aP at KL;go_enter Tryz.func98,Tryz.ntmps98;go_wp2_with fail;refine(dm _ H1.out RD.out).mono ?_;rintro r w1 ⟨rfl,hrd,ho⟩;have EL:=ae (ho.heap qz.out KL.out);have z0:w1.frozen? ⟨lb,0,none⟩=false:=by have hh:=EL.out;simp[World.frozen?,hh]
 have c0:=af (j:=0) EL.out;have IJ:=ae (heap_setCell EL.out (j:=0) (.int .i64 a));have RDw2:=ae (hrd.set (j:=0) qz.out.symm lp.out (.int .i64 a));have FRw2:=ae ((FR.out.trans (Fr.only ho) (fun k _ hk=>.inr hk)).trans (G:=fun k=>k=lb) (Fr.set (j:=0) (v:=.int .i64 a) rfl) (fun k _ hk=>.inl hk));clear hrd ho EL;go_wp2_with fail;refine(dm _ H2.out RDw2.out).mono ?_;rintro r w3 ⟨rfl,hrd,ho⟩;have EH:=ae (ho.heap qz.out IJ.out);have z0:w3.frozen? ⟨lb,1,none⟩=false:=by have hh:=EH.out;simp[World.frozen?,hh]
 have c0:=af (j:=1) EH.out;have IM:=ae (heap_setCell EH.out (j:=1) (.int .i64 c));have RDw4:=ae (hrd.set (j:=1) qz.out.symm lp.out (.int .i64 c));have FRw4:=ae ((FRw2.out.trans (Fr.only ho) (fun k _ hk=>.inr hk)).trans (G:=fun k=>k=lb) (Fr.set (j:=1) (v:=.int .i64 c) rfl) (fun k _ hk=>.inl hk));clear hrd ho EH;go_wp2_with fail;refine(dm _ H3.out RDw4.out).mono ?_;rintro r w5 ⟨rfl,hrd,ho⟩;have Ej:=ae (ho.heap qz.out IM.out);have z0:w5.frozen? ⟨lb,2,none⟩=false:=by have hh:=Ej.out;simp[World.frozen?,hh]
 have c0:=af (j:=2) Ej.out;have JF:=ae (heap_setCell Ej.out (j:=2) (.int .i64 f));have RDw6:=ae (hrd.set (j:=2) qz.out.symm lp.out (.int .i64 f));have FRw6:=ae ((FRw4.out.trans (Fr.only ho) (fun k _ hk=>.inr hk)).trans (G:=fun k=>k=lb) (Fr.set (j:=2) (v:=.int .i64 f) rfl) (fun k _ hk=>.inl hk));clear hrd ho Ej;go_wp2_with fail;refine(oN rb b s3 _ RDw6.out).mono ?_;rintro r w7 ⟨⟨pv,rfl,hpv,_⟩,hrd,ho⟩;have Lz:=ae (ho.heap qz.out JF.out);have z0:w7.frozen? ⟨lb,3,none⟩=false:=by have hh:=Lz.out;simp[World.frozen?,hh]
 have c0:=af (j:=3) Lz.out;rw[H4.out] at hpv hrd;obtain⟨pa,pc,rfl⟩:=aq.slice hpv;generalize P.length=pn at*;have o4:=ae (al.mono hpv FRw6.out.size:aq w7 w.heap.size (.slice pa pn pc) P);have pM:=ae (hrd.set (j:=3) qz.out.symm lp.out (.slice pa pn pc));have kE:=ae (heap_setCell Lz.out (j:=3) (.slice pa pn pc));have FR8:=ae ((FRw6.out.trans (Fr.only ho) (fun k _ hk=>.inr hk)).trans (G:=fun k=>k=lb) (Fr.set (j:=3) (v:=.slice pa pn pc) rfl) (fun k _ hk=>.inl hk));have lm:=ae (show lb<w.heap.size from(Array.getElem?_eq_some_iff.1 KL.out).1);clear hpv hrd ho Lz JF IM IJ RDw6 RDw4 RDw2;go_wp2_with fail;go_end0;refine⟨rfl,_,kE.out,?_,pM.out,FR8.out⟩;exact al.heap o4.out (fun g x hx hg=>cK hx (by have:=lm.out;omega) _)
end Go.Proofs.YtcclpdfmmdonpaaGreat
