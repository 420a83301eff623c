/- Texts of the seat Yteanlcefdoigcaa, turned to this one by wip/port.py: DecM DecX Sum DecY RtM. -/
import Derived.Test.YtcclpdfmmdonpaaGreatTEnc
namespace Go.Proofs.YtcclpdfmmdonpaaGreat
set_option maxHeartbeats 12800000
set_option maxRecDepth 100000
open Go.RowKit
theorem jl (s:St):0<=(bi false s).1 /\(bi false s).1 <=4611686018427387903:=by
 have h:=nr s.g s.m;unfold bi;simp only[Bool.false_eq_true,if_false]
 split
 ·exact h
 ·exact⟨Int.le_refl _,show(0:Int)<=_ by decide⟩
theorem td (s:St): -2305843009213693952<=(bi true s).1 /\(bi true s).1 <=2305843009213693951:=by
 have h:=nr s.g s.m;unfold bi;simp only[if_true]
 split
 ·unfold dZ
  split
  ·split<;>simp only<;>omega
  ·simp only;omega
 ·show-2305843009213693952<=(0:Int)/\(0:Int)<=2305843009213693951;omega
def St.mark (s:St):St:=⟨s.g,s.m,true⟩
def zS (l:Int) (s:St):Pt×St:=
 let r0:=bi false s;let r1:=bi true r0.2;let r2:=bi true r1.2;let r3:=bi true r2.2;let r4:=bi false r3.2;let r5:=bi false r4.2;let r6:=bi false r5.2;let r7:=bi false r6.2;let r8:=bi false r7.2
 (⟨l+r0.1,r1.1,r2.1,r3.1,r3.1+r4.1,r5.1,r6.1,r7.1,r8.1⟩,if 1152921504606846976<l+r0.1 then r8.2.mark else r8.2)
def kH:Nat->Int->St->List Pt×St
 |0,_,s=>([],s)
 |f+1,l,s=>if s.bad=true then([],s) else((zS l s).1 ::(kH f (zS l s).1.id (zS l s).2).1,(kH f (zS l s).1.id (zS l s).2).2)
theorem rX (f:Nat) (l:Int) (s:St) (h:s.bad=true):kH f l s=([],s):=by
 cases f with
 |zero=>rfl
 |succ f=>unfold kH;rw[if_pos h]
theorem lO {f:Nat} {l:Int} {s:St} {p:Pt} {s':St} (h:s.bad=false) (hp:zS l s=(p,s')):kH (f+1) l s=(p::(kH f p.id s').1,(kH f p.id s').2):=by
 show(if s.bad=true then _ else _)=_;rw[if_neg (by simp[h]),hp]
def gt (s:St):List Pt×St:=kH (bi false s).1.toNat 0 (if 1024<(bi false s).1 then(bi false s).2.mark else(bi false s).2)
theorem dm {rb b:Nat} {s s':St} {v:Int} (w:World) (hn:bi false s=(v,s')) (h:aZ w rb 146 b s):
 Calls Tryz.prog 99 #[.pointer (some ⟨rb,0,none⟩)] w fun r w'=>r=.returned (.int .i64 v)/\aZ w' rb 146 b s'/\bM rb w.heap.size w w':=by
 have:=oW rb b s w h;rw[hn] at this;exact this
theorem lz {rb b:Nat} {s s':St} {v:Int} (w:World) (hn:bi true s=(v,s')) (h:aZ w rb 146 b s):
 Calls Tryz.prog 135 #[.pointer (some ⟨rb,0,none⟩)] w fun r w'=>r=.returned (.int .i64 v)/\aZ w' rb 146 b s'/\bM rb w.heap.size w w':=by
 have:=uZ rb b s w h;rw[hn] at this;exact this
theorem bM.alloc {rb B:Nat} {w W:World} (h:bM rb B w W) (hB:B<=W.heap.size) (o:Obj):bM rb B w (W.alloc o):=by
 refine⟨h.os,h.tape,h.output,by have:=h.size;simp;omega,fun k hk hne=>?_⟩;rw[Below.heap_alloc W o k (by omega)];exact h.block k hk hne
theorem bM.set {rb B g j:Nat} {w W:World} (h:bM rb B w W) (hB:B<=g) (v:Value):bM rb B w (W.setCell ⟨g,j,none⟩ v):=by
 refine⟨h.os,h.tape,h.output,by simpa using h.size,fun k hk hne=>?_⟩;rw[Below.heap_setCell W ⟨g,j,none⟩ v k (by show k≠g;omega)];exact h.block k hk hne
theorem aZ.same {w w':World} {rb ty b:Nat} {s:St} (h:aZ w rb ty b s) (h1:w'.heap[rb]? =w.heap[rb]?) (h2:w'.heap[b]? =w.heap[b]?) (h3:w.heap.size<=w'.heap.size):aZ w' rb ty b s:=by
 obtain⟨o,c,hr,hm,hc,hb,hne,hg,hbw⟩:=h;refine⟨o,c,h1.trans hr,hm,hc,fun i hi=>?_,hne,hg,by omega⟩;rw[World.cell?_of_block (w:=w) (w':=w') (a:=⟨b,o+i,none⟩) h2];exact hb i hi
theorem aZ.rb_lt {w:World} {rb ty b:Nat} {s:St} (h:aZ w rb ty b s):rb<w.heap.size:=by
 obtain⟨o,c,hr,_⟩:=h;exact(Array.getElem?_eq_some_iff.1 hr).1
theorem aZ.b_lt {w:World} {rb ty b:Nat} {s:St} (h:aZ w rb ty b s):b<w.heap.size:=by
 obtain⟨o,c,hr,hm,hc,hb,hne,hg,hbw⟩:=h;exact hbw
theorem aZ.apart {w:World} {rb ty b:Nat} {s:St} (h:aZ w rb ty b s):rb≠b:=by
 obtain⟨o,c,hr,hm,hc,hb,hne,hg,hbw⟩:=h;exact hne
theorem aZ.alloc {w:World} {rb ty b:Nat} {s:St} (h:aZ w rb ty b s) (o:Obj):aZ (w.alloc o) rb ty b s:=
 h.same (Below.heap_alloc w o rb h.rb_lt) (Below.heap_alloc w o b h.b_lt) (by simp)
theorem aZ.grow {w w':World} {rb ty b:Nat} {s:St} (h:aZ w rb ty b s) (hb:Below w.heap.size w w'):aZ w' rb ty b s:=
 h.same (hb.block rb h.rb_lt) (hb.block b h.b_lt) hb.size
theorem aZ.set {w:World} {rb ty b g j:Nat} {s:St} (h:aZ w rb ty b s) (h1:rb≠g) (h2:b≠g) (v:Value):aZ (w.setCell ⟨g,j,none⟩ v) rb ty b s:=
 h.same (Below.heap_setCell w ⟨g,j,none⟩ v rb h1) (Below.heap_setCell w ⟨g,j,none⟩ v b h2) (by simp)
theorem cK {w:World} {g j n:Nat} {x:Obj} (h:w.heap[n]? =some x) (hne:n≠g) (v:Value):(w.setCell ⟨g,j,none⟩ v).heap[n]? =some x:=by
 rw[Below.heap_setCell w ⟨g,j,none⟩ v n hne];exact h
theorem aZ.flag {w:World} {rb ty b:Nat} {s:St} (h:aZ w rb ty b s):w.cell? ⟨rb,1,none⟩=some (.bool s.bad)/\w.frozen? ⟨rb,1,none⟩=false:=by
 obtain⟨o,c,hr,_⟩:=h;exact⟨(af (j:=1) hr).trans rfl,by simp[World.frozen?,hr]⟩
theorem aZ.mark {w:World} {rb ty b:Nat} {s:St} (h:aZ w rb ty b s):aZ (w.setCell ⟨rb,1,none⟩ (.bool true)) rb ty b s.mark:=by
 obtain⟨o,c,hr,hm,hc,hb,hne,hg,hbw⟩:=h;refine⟨o,c,heap_setCell hr _,hm,hc,fun i hi=>?_,hne,hg,by simpa using hbw⟩;rw[World.cell?_of_block (w:=w) (w':=w.setCell ⟨rb,1,none⟩ (.bool true)) (a:=⟨b,o+i,none⟩) (Below.heap_setCell w ⟨rb,1,none⟩ _ b (fun e=>hne e.symm))];exact hb i hi
theorem aq.only {w w':World} {rb B base:Nat} {v:Value} {l:List Pt} (h:aq w base v l) (ho:bM rb B w w') (hB:w.heap.size<=B) (hb:rb<base):aq w' base v l:=by
 refine al.heap h fun g x hx hg=>?_
 rw[ho.block g (by have:=(Array.getElem?_eq_some_iff.1 hx).1;omega) (by omega)];exact hx
structure pt (w:World) (rb b pb B:Nat) (s s':St) (ws:List Value) (C C':Array Value) (L:Nat->Bool) (us:Nat->Value) (W:World):Prop where
 only:bM rb B w W
 vals:∀j,j<8->L j=true->us j=ws.getD j undef
 rd:aZ W rb 146 b (if L 4=true then s' else s)
 row:W.heap[pb]? =some (.cells (if L 8=true then C' else C) 106)
theorem pt.pure {w W:World} {rb b pb B k:Nat} {s s':St} {ws:List Value} {C C':Array Value} {L:Nat->Bool} {us:Nat->Value} {v:Value} (h:pt w rb b pb B s s' ws C C' L us W) (hk:k<8) (h4:k≠4) (hv:v=ws.getD k undef):
 pt w rb b pb B s s' ws C C' (fun j=>j == k || L j) (ct us k v) W:=by
 refine⟨h.only,fun j hj hl=>?_,?_,?_⟩
 ·by_cases e:j=k
  ·subst e;simp[ct,hv]
  ·simp only[ct,if_neg e];exact h.vals j hj (by simpa[e] using hl)
 ·have:((4 == k) || L 4)=L 4:=by rw[show((4:Nat) == k)=false from beq_false_of_ne (fun e=>h4 e.symm),Bool.false_or]
  rw[this];exact h.rd
 ·have:((8 == k) || L 8)=L 8:=by rw[show((8:Nat) == k)=false from beq_false_of_ne (by omega),Bool.false_or]
  rw[this];exact h.row
theorem pt.call {w W W':World} {rb b pb B:Nat} {s s':St} {ws:List Value} {C C':Array Value} {L:Nat->Bool} {us:Nat->Value} {v:Value} (h:pt w rb b pb B s s' ws C C' L us W) (hpb:pb≠rb) (hB:B<=W.heap.size) (hv:v=ws.getD 4 undef)
 (hR:aZ W' rb 146 b s') (ho:bM rb W.heap.size W W'):pt w rb b pb B s s' ws C C' (fun j=>j == 4 || L j) (ct us 4 v) W':=by
 refine⟨h.only.trans ho hB,fun j hj hl=>?_,?_,?_⟩
 ·by_cases e:j=4
  ·subst e;simp[ct,hv]
  ·simp only[ct,if_neg e];exact h.vals j hj (by simpa[e] using hl)
 ·simpa using hR
 ·exact ho.heap hpb h.row
theorem pt.store {w W:World} {rb b pb B:Nat} {s s':St} {ws:List Value} {C C':Array Value} {L:Nat->Bool} {us:Nat->Value} {u v:Value} (h:pt w rb b pb B s s' ws C C' L us W) (h1:rb≠pb) (h2:b≠pb) (hB:B<=pb) (h8:L 8=false)
 (hC:C'=C.setIfInBounds 4 u):pt w rb b pb B s s' ws C C' (fun j=>j == 8 || L j) (ct us 8 v) (W.setCell ⟨pb,4,none⟩ u):=by
 refine⟨h.only.set hB _,fun j hj hl=>?_,?_,?_⟩
 ·have e:j≠8:=by omega
  simp only[ct,if_neg e];exact h.vals j hj (by simpa[e] using hl)
 ·exact h.rd.set h1 h2 _
 ·have:=h.row;rw[h8] at this;have h3:=heap_setCell (j:=4) this u;simpa[hC] using h3
open Go.RowKit
theorem Cx (p0 p1 p2 p3 p4 p5 p6 p7 p8:Int):bF 9 [[Value.int .i64 p0,.int .i64 p1,.int .i64 p2,.int .i64 p3,.int .i64 p4,.int .i64 p5,.int .i64 p6,.int .i64 p7,.int .i64 p8]]:=bF.one rfl (Pt.row_one ⟨p0,p1,p2,p3,p4,p5,p6,p7,p8⟩)
theorem aZ.kept {w w':World} {rb ty b:Nat} {s:St} {row:Option Nat} (h:aZ w rb ty b s) (hg:w.grownBy w' row) (h1:some rb≠row) (h2:some b≠row):aZ w' rb ty b s:=
 h.same (hg.block rb h.rb_lt h1) (hg.block b h.b_lt h2) hg.size
theorem bM.kept {rb B:Nat} {w W W':World} {row:Option Nat} (h:bM rb B w W) (hg:W.grownBy W' row) (hB:B<=W.heap.size) (hr:∀k,row=some k->B<=k):bM rb B w W':=
 h.trans (bM.of_below (B:=B) ((Below.refl B W).grown hg hB hr)) (Nat.le_refl _)
theorem oN (rb b:Nat) (s:St) (w:World) (h:aZ w rb 146 b s):
 Calls Tryz.prog 100 #[.pointer (some ⟨rb,0,none⟩)] w fun r w'=>(∃v,r=.returned v/\aq w' w.heap.size v (gt s).1 /\(gt s).1.length <=1024)/\aZ w' rb 146 b (gt s).2 /\bM rb w.heap.size w w':=by
 have hrb:=h.rb_lt;have hbl:=h.b_lt;have hne:=h.apart;obtain⟨i0,hi,hz0,hz1,hz2⟩:=aF ix;have HI:=ae hi;have HZ0:=ae hz0;have HZ1:=ae hz1;have HZ2:=ae hz2;have HR:=ae (oW rb b s w h);have ib:=ae (show gt s=kH (bi false s).1.toNat 0 (if 1024<(bi false s).1 then(bi false s).2.mark else(bi false s).2) from rfl);rw[ib.out];have hv:=jl s;clear h hi hz0 hz1 hz2 ib
 rcases hns:bi false s with⟨n,s1⟩
 rw[hns] at HR hv;simp only at hv HR⊢;obtain⟨N,rfl⟩:∃N:Nat,n=N:=⟨n.toNat,by omega⟩;rw[Int.toNat_natCast];clear hns;by_cases hN:1024<(N:Int)
 ·have d0:decide ((1024:Int)<(N:Int))=true:=decide_eq_true hN;have HD:=ae (show(if(1024:Int)<(N:Int) then s1.mark else s1)=s1.mark from if_pos hN);rw[HD.out,rX _ _ _ rfl];have HN:=ae hN;clear hN;go_enter Tryz.func100,Tryz.ntmps100;go_wp2_with fail;refine HR.out.mono ?_;rintro r w1 ⟨rfl,hrd,hol⟩;have R1:=ae hrd;have O1:=ae hol;have f1:=hrd.flag.1;have f2:=hrd.flag.2;have hz1:=hol.size;clear hrd hol;go_wp2_with fail;have RM:=ae R1.out.mark;have OM:=ae (cG (j:=1) O1.out (.bool true));have g1:=RM.out.flag.1;generalize w1.setCell ⟨rb,1,none⟩ (.bool true)=W at*;have d1:decide ((0:Int)<(N:Int))=true:=decide_eq_true (by have:=HN.out;omega);refine wp_loop_rounds 1 ?_;rw[rounds_succ];go_wp2_with fail
  all_goals(go_ret;exact⟨⟨_,rfl,al.nil _ _ _ _,by simp⟩,RM.out,OM.out⟩)
 ·have d0:decide ((1024:Int)<(N:Int))=false:=decide_eq_false hN;have HD:=ae (show(if(1024:Int)<(N:Int) then s1.mark else s1)=s1 from if_neg hN);rw[HD.out];have RP:N<=1024:=by omega
  clear hN;go_enter Tryz.func100,Tryz.ntmps100;go_wp2_with fail;refine HR.out.mono ?_;rintro r w1 ⟨rfl,hrd,hol⟩;have R1:=ae hrd;have O1:=ae hol;have hz1:=hol.size;clear hrd hol;go_wp2_with fail
  go_loopw [4,5,6] (fun ov' lv iv W=>∃(i:Nat) (A:List Pt) (l:Int) (s2:St) (oa:Option Addr) (on oc:Nat),ov'=.slice oa on oc/\i<=N/\A.length=i/\iv=.int .i64 (i:Int)/\lv=.int .i64 l/\aq W w.heap.size (.slice oa on oc) A/\aZ W rb 146 b s2/\bM rb w.heap.size w W/\(s2.bad=false->0<=l/\l<=1152921504606846976)/\kH N 0 s1=(A++(kH (N-i) l s2).1,(kH (N-i) l s2).2)) (fun _ _ iv _=>N-(intOf iv).toNat)
  case atStart=>exact⟨0,[],0,s1,none,0,0,rfl,by omega,rfl,rfl,rfl,al.nil _ _ _ _,R1.out,O1.out,fun _=>⟨Int.le_refl _,by decide⟩,rfl⟩
  case round=>
   obtain⟨i,A,l,s2,oa,on,oc,rfl,hi,hA,rfl,rfl,hown,hrd,hol,hl,he⟩:=hrel;have HA:=ae hA;have HO:=ae hown;have R2:=ae hrd;have O2:=ae hol;have HL:=ae hl;have HE:=ae he;have hz2:=hol.size;have fb:=hrd.flag.1;clear hA hown hrd hol hl he;by_cases hlt:i<N
   ·have d1:decide ((i:Int)<(N:Int))=true:=decide_eq_true (by omega)
    cases hbad:s2.bad
    ·rw[hbad] at fb;have hl:=HL.out hbad;have EZ:=ae hbad;clear hbad HL
     rcases e0:bi false s2 with⟨v0,t1⟩
     rcases e1:bi true t1 with⟨v1,t2⟩
     rcases e2:bi true t2 with⟨v2,t3⟩
     rcases e3:bi true t3 with⟨v3,t4⟩
     rcases e4:bi false t4 with⟨v4,t5⟩
     rcases e5:bi false t5 with⟨v5,t6⟩
     rcases e6:bi false t6 with⟨v6,t7⟩
     rcases e7:bi false t7 with⟨v7,t8⟩
     rcases e8:bi false t8 with⟨v8,t9⟩
     have wG:=ae (show zS l s2=(⟨l+v0,v1,v2,v3,v3+v4,v5,v6,v7,v8⟩,if 1152921504606846976<l+v0 then t9.mark else t9) by
      unfold zS
      simp only[e0,e1,e2,e3,e4,e5,e6,e7,e8])
     have q0:=jl s2;have q3:=td t3;have q4:=jl t4;rw[e0] at q0;rw[e3] at q3;rw[e4] at q4;simp only at q0 q3 q4;have E0:=ae e0;have E1:=ae e1;have E2:=ae e2;have E3:=ae e3;have E4:=ae e4;have E5:=ae e5;have E6:=ae e6;have E7:=ae e7;have E8:=ae e8;clear e0 e1 e2 e3 e4 e5 e6 e7 e8;go_wp2_with fail;refine(dm _ E0.out R2.out).mono ?_;rintro r w2 ⟨rfl,hrd,hol⟩;have R3:=ae hrd;have O3:=ae hol;have hz3:=hol.size;clear hrd hol fb;go_wp2_with fail;obtain⟨pb,hpb⟩:∃pb,pb=w2.heap.size:=⟨_,rfl⟩;rw[<-hpb];have F3:=ae (ai w2 (.cells #[.int .i64 (l+v0),.int .i64 0,.int .i64 0,.int .i64 0,.int .i64 0,.int .i64 0,.int .i64 0,.int .i64 0,.int .i64 0] 106) pb hpb);have R4:=ae (R3.out.alloc (.cells #[.int .i64 (l+v0),.int .i64 0,.int .i64 0,.int .i64 0,.int .i64 0,.int .i64 0,.int .i64 0,.int .i64 0,.int .i64 0] 106));have O4:=ae (O3.out.alloc O3.out.size (.cells #[.int .i64 (l+v0),.int .i64 0,.int .i64 0,.int .i64 0,.int .i64 0,.int .i64 0,.int .i64 0,.int .i64 0,.int .i64 0] 106));have fT:(w2.alloc (.cells #[.int .i64 (l+v0),.int .i64 0,.int .i64 0,.int .i64 0,.int .i64 0,.int .i64 0,.int .i64 0,.int .i64 0,.int .i64 0] 106)).heap.size =pb+1:=by simp[hpb]
     have hpw:wr.heap.size<=pb:=by omega
     clear hpb R3 O3;generalize w2.alloc (.cells #[.int .i64 (l+v0),.int .i64 0,.int .i64 0,.int .i64 0,.int .i64 0,.int .i64 0,.int .i64 0,.int .i64 0,.int .i64 0] 106)=W3 at*;refine(lz _ E1.out R4.out).mono ?_;rintro r w5 ⟨rfl,hrd,hol⟩;have R5:=ae hrd;have F5:=ae (show w5.heap[pb]? =some (.cells #[.int .i64 (l+v0),.int .i64 0,.int .i64 0,.int .i64 0,.int .i64 0,.int .i64 0,.int .i64 0,.int .i64 0,.int .i64 0] 106) from hol.heap (by omega) F3.out);have O5:=ae (O4.out.trans hol (by first|omega| (simp;omega)));have NC:pb<w5.heap.size:=(Array.getElem?_eq_some_iff.1 F5.out).1;have c5:w5.cell? ⟨pb,1,none⟩=some (.int .i64 0):=(af (j:=1) F5.out).trans rfl;have f5:w5.frozen? ⟨pb,1,none⟩=false:=by have hh:=F5.out;simp[World.frozen?,hh]
     clear hrd hol;go_wp2_with fail;refine(lz _ E2.out (R5.out.set (by omega) (by omega) _)).mono ?_;rintro r w6 ⟨rfl,hrd,hol⟩;have R6:=ae hrd;have F6:=ae (show w6.heap[pb]? =some (.cells #[.int .i64 (l+v0),.int .i64 v1,.int .i64 0,.int .i64 0,.int .i64 0,.int .i64 0,.int .i64 0,.int .i64 0,.int .i64 0] 106) from hol.heap (by omega) (heap_setCell F5.out _));have O6:=ae ((O5.out.set (by omega) _).trans hol (by first|omega| (simp;omega)));have Kq:pb<w6.heap.size:=(Array.getElem?_eq_some_iff.1 F6.out).1;have c6:w6.cell? ⟨pb,2,none⟩=some (.int .i64 0):=(af (j:=2) F6.out).trans rfl;have f6:w6.frozen? ⟨pb,2,none⟩=false:=by have hh:=F6.out;simp[World.frozen?,hh]
     clear hrd hol;go_wp2_with fail;refine(lz _ E3.out (R6.out.set (by omega) (by omega) _)).mono ?_;rintro r w7 ⟨rfl,hrd,hol⟩;have R7:=ae hrd;have F7:=ae (show w7.heap[pb]? =some (.cells #[.int .i64 (l+v0),.int .i64 v1,.int .i64 v2,.int .i64 0,.int .i64 0,.int .i64 0,.int .i64 0,.int .i64 0,.int .i64 0] 106) from hol.heap (by omega) (heap_setCell F6.out _));have O7:=ae ((O6.out.set (by omega) _).trans hol (by first|omega| (simp;omega)));have Nk:pb<w7.heap.size:=(Array.getElem?_eq_some_iff.1 F7.out).1;have c7:w7.cell? ⟨pb,3,none⟩=some (.int .i64 0):=(af (j:=3) F7.out).trans rfl;have f7:w7.frozen? ⟨pb,3,none⟩=false:=by have hh:=F7.out;simp[World.frozen?,hh]
     clear hrd hol;go_wp2_with fail;have R20:=ae (show aZ (w7.setCell ⟨pb,3,none⟩ (.int .i64 v3)) rb 146 b t4 from(R7.out.set (by omega) (by omega) _));have F20:=ae (show(w7.setCell ⟨pb,3,none⟩ (.int .i64 v3)).heap[pb]? =some (.cells #[.int .i64 (l+v0),.int .i64 v1,.int .i64 v2,.int .i64 v3,.int .i64 0,.int .i64 0,.int .i64 0,.int .i64 0,.int .i64 0] 106) from(heap_setCell F7.out _));have O20:=ae (show bM rb wr.heap.size wr (w7.setCell ⟨pb,3,none⟩ (.int .i64 v3)) from(O7.out.set (by omega) _));clear c5 f5 c6 f6 c7 f7;refine au (fun W20 KC=>?_);rw[<-KC] at R20 F20 O20;clear KC;refine bf (fun A0 hA=>?_);refine bD (by kernel_rfl) (by kernel_rfl) [some 42,some 43,some 44,some 45,some 46,some 47,some 48,some 49,none] rfl (by decide) (pt wr rb b pb wr.heap.size t4 t5 [.pointer (some ⟨pb,3,none⟩),.pointer (some ⟨pb,3,none⟩),.int .i64 v3,.pointer (some ⟨rb,0,none⟩),.int .i64 v4,.int .i64 (v3+v4),.pointer (some ⟨pb,3,none⟩),.pointer (some ⟨pb,4,none⟩)] #[.int .i64 (l+v0),.int .i64 v1,.int .i64 v2,.int .i64 v3,.int .i64 0,.int .i64 0,.int .i64 0,.int .i64 0,.int .i64 0] #[.int .i64 (l+v0),.int .i64 v1,.int .i64 v2,.int .i64 v3,.int .i64 (v3+v4),.int .i64 0,.int .i64 0,.int .i64 0,.int .i64 0]) (fy A0 _) (ci A0 _)
      ⟨O20.out.trans (bM.of_below ((Below.refl W20.heap.size W20).drew)) (by have:=O20.out.size;omega),fun _ _ h=>(Bool.false_ne_true h).elim,R20.out.grow ((Below.refl _ _).drew),aj ((Below.refl _ _).drew) F20.out⟩ ?hsA ?hendA
     case hsA=>
      refine⟨?_,?_,?_,?_,?_,?_,?_,?_,?_,trivial⟩
      ·intro K L us W ak hL hd hR;clear hd;have hK:=ae (fun v A' h1 h2=>ak v A' W h1 (hR.pure (by decide) (by decide) h2));clear ak;simp only[ah];rw[hA];go_frame;go_wp2_with fail;exact hK.out _ _ (by rw[hA];simp only[ah];kernel_rfl) rfl
      ·intro K L us W ak hL hd hR;simp[Region.binds] at hd;have e0:us 0=.pointer (some ⟨pb,3,none⟩):=hR.vals 0 (by decide) (by simp[hd]);clear hd;have hK:=ae (fun v A' h1 h2=>ak v A' W h1 (hR.pure (by decide) (by decide) h2));clear ak;simp only[ah];rw[hA,e0];go_frame;go_wp2_with fail;exact hK.out _ _ (by rw[hA];simp only[ah];rw[e0];kernel_rfl) rfl
      ·intro K L us W ak hL hd hR;simp[Region.binds] at hd;have e1:us 1=.pointer (some ⟨pb,3,none⟩):=hR.vals 1 (by decide) (by simp[hd]);clear hd;have c0:W.cell? ⟨pb,3,none⟩=some (.int .i64 v3):=(af (j:=3) hR.row).trans (by split<;>rfl);have hK:=ae (fun v A' h1 h2=>ak v A' W h1 (hR.pure (by decide) (by decide) h2));clear ak;simp only[ah];rw[hA,e1];go_frame;go_wp2_with fail;exact hK.out _ _ (by rw[hA];simp only[ah];rw[e1];kernel_rfl) rfl
      ·intro K L us W ak hL hd hR;clear hd;have hK:=ae (fun v A' h1 h2=>ak v A' W h1 (hR.pure (by decide) (by decide) h2));clear ak;simp only[ah];rw[hA];go_frame;go_wp2_with fail;exact hK.out _ _ (by rw[hA];simp only[ah];kernel_rfl) rfl
      ·intro K L us W ak hL hd hR;simp[Region.binds] at hd;have e3:us 3=.pointer (some ⟨rb,0,none⟩):=hR.vals 3 (by decide) (by simp[hd]);clear hd;have pM:=ae (show aZ W rb 146 b t4 by simpa[hL] using hR.rd);have QX:=hR.only.size;have hK:=ae (fun A' W' h1 h2 h3=>ak (.int .i64 v4) A' W' h1 (hR.call (by omega) QX rfl h2 h3));clear ak;simp only[ah];rw[hA,e3];go_frame;go_wp2_with fail;refine(dm W E4.out pM.out).mono ?_;rintro r W' ⟨rfl,hrd,hol⟩;have Nt:=ae hrd;have Gj:=ae hol;clear hrd hol;go_wp2_with fail;exact hK.out _ _ (by rw[hA];simp only[ah];rw[e3];kernel_rfl) Nt.out Gj.out
      ·intro K L us W ak hL hd hR;simp[Region.binds] at hd;have e2:us 2=.int .i64 v3:=hR.vals 2 (by decide) (by simp[hd]);have e4:us 4=.int .i64 v4:=hR.vals 4 (by decide) (by simp[hd]);clear hd;have hK:=ae (fun v A' h1 h2=>ak v A' W h1 (hR.pure (by decide) (by decide) h2));clear ak;simp only[ah];rw[hA,e2,e4];go_frame;go_wp2_with fail;exact hK.out _ _ (by rw[hA];simp only[ah];rw[e2];rw[e4];kernel_rfl) rfl
      ·intro K L us W ak hL hd hR;clear hd;have hK:=ae (fun v A' h1 h2=>ak v A' W h1 (hR.pure (by decide) (by decide) h2));clear ak;simp only[ah];rw[hA];go_frame;go_wp2_with fail;exact hK.out _ _ (by rw[hA];simp only[ah];kernel_rfl) rfl
      ·intro K L us W ak hL hd hR;simp[Region.binds] at hd;have e6:us 6=.pointer (some ⟨pb,3,none⟩):=hR.vals 6 (by decide) (by simp[hd]);clear hd;have hK:=ae (fun v A' h1 h2=>ak v A' W h1 (hR.pure (by decide) (by decide) h2));clear ak;simp only[ah];rw[hA,e6];go_frame;go_wp2_with fail;exact hK.out _ _ (by rw[hA];simp only[ah];rw[e6];kernel_rfl) rfl
      ·intro K L us W ak hL hd hR;simp[Region.binds] at hd;have e5:us 5=.int .i64 (v3+v4):=hR.vals 5 (by decide) (by simp[hd]);have e7:us 7=.pointer (some ⟨pb,4,none⟩):=hR.vals 7 (by decide) (by simp[hd]);clear hd;have hrw:=hR.row;rw[hL,if_neg Bool.false_ne_true] at hrw;have c0:W.cell? ⟨pb,4,none⟩=some (.int .i64 0):=(af (j:=4) hrw).trans rfl;have f0:W.frozen? ⟨pb,4,none⟩=false:=by simp[World.frozen?,hrw]
       have hK:=ae (fun v A' h1=>ak v A' (W.setCell ⟨pb,4,none⟩ (.int .i64 (v3+v4))) h1 (hR.store (by omega) (by omega) hpw hL rfl));clear ak hrw;simp only[ah];rw[hA,e5,e7];go_frame;go_wp2_with fail;exact hK.out undef _ (by rw[hA];simp only[ah];rw[e5];rw[e7];kernel_rfl)
     case hendA=>
     intro L us W21 hL hR;have u0:us 0=.pointer (some ⟨pb,3,none⟩):=hR.vals 0 (by decide) (hL 0 (by decide));have u1:us 1=.pointer (some ⟨pb,3,none⟩):=hR.vals 1 (by decide) (hL 1 (by decide));have u2:us 2=.int .i64 v3:=hR.vals 2 (by decide) (hL 2 (by decide));have u3:us 3=.pointer (some ⟨rb,0,none⟩):=hR.vals 3 (by decide) (hL 3 (by decide));have u4:us 4=.int .i64 v4:=hR.vals 4 (by decide) (hL 4 (by decide));have u5:us 5=.int .i64 (v3+v4):=hR.vals 5 (by decide) (hL 5 (by decide));have u6:us 6=.pointer (some ⟨pb,3,none⟩):=hR.vals 6 (by decide) (hL 6 (by decide));have u7:us 7=.pointer (some ⟨pb,4,none⟩):=hR.vals 7 (by decide) (hL 7 (by decide));have R21:=ae (show aZ W21 rb 146 b t5 by have h:=hR.rd;rw[hL 4 (by decide),if_pos rfl] at h;exact h);have F21:=ae (show W21.heap[pb]? =some (.cells #[.int .i64 (l+v0),.int .i64 v1,.int .i64 v2,.int .i64 v3,.int .i64 (v3+v4),.int .i64 0,.int .i64 0,.int .i64 0,.int .i64 0] 106) by have h:=hR.row;rw[hL 8 (by decide),if_pos rfl] at h;exact h);have O21:=ae hR.only;clear hL hR;simp only[ah];rw[hA,u0,u1,u2,u3,u4,u5,u6,u7];clear u0 u1 u2 u3 u4 u5 u6 u7;have Pw:pb<W21.heap.size:=(Array.getElem?_eq_some_iff.1 F21.out).1;go_frame;go_wp2_with fail;refine(dm _ E5.out R21.out).mono ?_;rintro r w22 ⟨rfl,hrd,hol⟩;have R22:=ae hrd;have F22:=ae (show w22.heap[pb]? =some (.cells #[.int .i64 (l+v0),.int .i64 v1,.int .i64 v2,.int .i64 v3,.int .i64 (v3+v4),.int .i64 0,.int .i64 0,.int .i64 0,.int .i64 0] 106) from hol.heap (by omega) F21.out);have O22:=ae (O21.out.trans hol (by first|omega| (simp;omega)));have QG:pb<w22.heap.size:=(Array.getElem?_eq_some_iff.1 F22.out).1;have c22:w22.cell? ⟨pb,5,none⟩=some (.int .i64 0):=(af (j:=5) F22.out).trans rfl;have f22:w22.frozen? ⟨pb,5,none⟩=false:=by have hh:=F22.out;simp[World.frozen?,hh]
     clear hrd hol;go_wp2_with fail;refine(dm _ E6.out (R22.out.set (by omega) (by omega) _)).mono ?_;rintro r w23 ⟨rfl,hrd,hol⟩;have R23:=ae hrd;have F23:=ae (show w23.heap[pb]? =some (.cells #[.int .i64 (l+v0),.int .i64 v1,.int .i64 v2,.int .i64 v3,.int .i64 (v3+v4),.int .i64 v5,.int .i64 0,.int .i64 0,.int .i64 0] 106) from hol.heap (by omega) (heap_setCell F22.out _));have O23:=ae ((O22.out.set (by omega) _).trans hol (by first|omega| (simp;omega)));have Ql:pb<w23.heap.size:=(Array.getElem?_eq_some_iff.1 F23.out).1;have c23:w23.cell? ⟨pb,6,none⟩=some (.int .i64 0):=(af (j:=6) F23.out).trans rfl;have f23:w23.frozen? ⟨pb,6,none⟩=false:=by have hh:=F23.out;simp[World.frozen?,hh]
     clear hrd hol;go_wp2_with fail;refine(dm _ E7.out (R23.out.set (by omega) (by omega) _)).mono ?_;rintro r w24 ⟨rfl,hrd,hol⟩;have R24:=ae hrd;have F24:=ae (show w24.heap[pb]? =some (.cells #[.int .i64 (l+v0),.int .i64 v1,.int .i64 v2,.int .i64 v3,.int .i64 (v3+v4),.int .i64 v5,.int .i64 v6,.int .i64 0,.int .i64 0] 106) from hol.heap (by omega) (heap_setCell F23.out _));have O24:=ae ((O23.out.set (by omega) _).trans hol (by first|omega| (simp;omega)));have Rm:pb<w24.heap.size:=(Array.getElem?_eq_some_iff.1 F24.out).1;have c24:w24.cell? ⟨pb,7,none⟩=some (.int .i64 0):=(af (j:=7) F24.out).trans rfl;have f24:w24.frozen? ⟨pb,7,none⟩=false:=by have hh:=F24.out;simp[World.frozen?,hh]
     clear hrd hol;go_wp2_with fail;refine(dm _ E8.out (R24.out.set (by omega) (by omega) _)).mono ?_;rintro r w25 ⟨rfl,hrd,hol⟩;have R25:=ae hrd;have F25:=ae (show w25.heap[pb]? =some (.cells #[.int .i64 (l+v0),.int .i64 v1,.int .i64 v2,.int .i64 v3,.int .i64 (v3+v4),.int .i64 v5,.int .i64 v6,.int .i64 v7,.int .i64 0] 106) from hol.heap (by omega) (heap_setCell F24.out _));have O25:=ae ((O24.out.set (by omega) _).trans hol (by first|omega| (simp;omega)));have QV:pb<w25.heap.size:=(Array.getElem?_eq_some_iff.1 F25.out).1;have c25:w25.cell? ⟨pb,8,none⟩=some (.int .i64 0):=(af (j:=8) F25.out).trans rfl;have f25:w25.frozen? ⟨pb,8,none⟩=false:=by have hh:=F25.out;simp[World.frozen?,hh]
     clear hrd hol;have RX:=ae (show aZ (w25.setCell ⟨pb,8,none⟩ (.int .i64 v8)) rb 146 b t9 from(R25.out.set (by omega) (by omega) _));have FX:=ae (show(w25.setCell ⟨pb,8,none⟩ (.int .i64 v8)).heap[pb]? =some (.cells #[.int .i64 (l+v0),.int .i64 v1,.int .i64 v2,.int .i64 v3,.int .i64 (v3+v4),.int .i64 v5,.int .i64 v6,.int .i64 v7,.int .i64 v8] 106) from(heap_setCell F25.out _));have OX:=ae (show bM rb wr.heap.size wr (w25.setCell ⟨pb,8,none⟩ (.int .i64 v8)) from(O25.out.set (by omega) _));by_cases hbig:1152921504606846976<l+v0
     ·have CT:=ae (show zS l s2=(⟨l+v0,v1,v2,v3,v3+v4,v5,v6,v7,v8⟩,t9.mark) by rw[wG.out,if_pos hbig]);have dg:decide ((1152921504606846976:Int)<l+v0)=true:=decide_eq_true hbig;have y0:(w25.setCell ⟨pb,8,none⟩ (.int .i64 v8)).cell? ⟨pb,0,none⟩=some (.int .i64 (l+v0)):=(af (j:=0) FX.out).trans rfl;have yb:=RX.out.flag.1;have yf:=RX.out.flag.2;have RY:=ae RX.out.mark;have FY:=ae (cK (j:=1) (g:=rb) FX.out (by omega) (.bool true));have OY:=ae (cG (j:=1) OX.out (.bool true));have d0:((w25.setCell ⟨pb,8,none⟩ (.int .i64 v8)).setCell ⟨rb,1,none⟩ (.bool true)).cell? ⟨pb,0,none⟩=some (.int .i64 (l+v0)):=(af (j:=0) FY.out).trans rfl;have d1:((w25.setCell ⟨pb,8,none⟩ (.int .i64 v8)).setCell ⟨rb,1,none⟩ (.bool true)).cell? ⟨pb,1,none⟩=some (.int .i64 v1):=(af (j:=1) FY.out).trans rfl;have d2:((w25.setCell ⟨pb,8,none⟩ (.int .i64 v8)).setCell ⟨rb,1,none⟩ (.bool true)).cell? ⟨pb,2,none⟩=some (.int .i64 v2):=(af (j:=2) FY.out).trans rfl;have d3:((w25.setCell ⟨pb,8,none⟩ (.int .i64 v8)).setCell ⟨rb,1,none⟩ (.bool true)).cell? ⟨pb,3,none⟩=some (.int .i64 v3):=(af (j:=3) FY.out).trans rfl;have d4:((w25.setCell ⟨pb,8,none⟩ (.int .i64 v8)).setCell ⟨rb,1,none⟩ (.bool true)).cell? ⟨pb,4,none⟩=some (.int .i64 (v3+v4)):=(af (j:=4) FY.out).trans rfl;have d5:((w25.setCell ⟨pb,8,none⟩ (.int .i64 v8)).setCell ⟨rb,1,none⟩ (.bool true)).cell? ⟨pb,5,none⟩=some (.int .i64 v5):=(af (j:=5) FY.out).trans rfl;have d6:((w25.setCell ⟨pb,8,none⟩ (.int .i64 v8)).setCell ⟨rb,1,none⟩ (.bool true)).cell? ⟨pb,6,none⟩=some (.int .i64 v6):=(af (j:=6) FY.out).trans rfl;have d7:((w25.setCell ⟨pb,8,none⟩ (.int .i64 v8)).setCell ⟨rb,1,none⟩ (.bool true)).cell? ⟨pb,7,none⟩=some (.int .i64 v7):=(af (j:=7) FY.out).trans rfl;have d8:((w25.setCell ⟨pb,8,none⟩ (.int .i64 v8)).setCell ⟨rb,1,none⟩ (.bool true)).cell? ⟨pb,8,none⟩=some (.int .i64 v8):=(af (j:=8) FY.out).trans rfl;have kP:=ae (aB.one (ai ((w25.setCell ⟨pb,8,none⟩ (.int .i64 v8)).setCell ⟨rb,1,none⟩ (.bool true)) _ _ (by simp)):aB (((w25.setCell ⟨pb,8,none⟩ (.int .i64 v8)).setCell ⟨rb,1,none⟩ (.bool true)).alloc (.cells #[.int .i64 (l+v0),.int .i64 v1,.int .i64 v2,.int .i64 v3,.int .i64 (v3+v4),.int .i64 v5,.int .i64 v6,.int .i64 v7,.int .i64 v8] 106)) w25.heap.size 0 9 [[.int .i64 (l+v0),.int .i64 v1,.int .i64 v2,.int .i64 v3,.int .i64 (v3+v4),.int .i64 v5,.int .i64 v6,.int .i64 v7,.int .i64 v8]]);have eK:=ae (al.grow (W':=((w25.setCell ⟨pb,8,none⟩ (.int .i64 v8)).setCell ⟨rb,1,none⟩ (.bool true)).alloc (.cells #[.int .i64 (l+v0),.int .i64 v1,.int .i64 v2,.int .i64 v3,.int .i64 (v3+v4),.int .i64 v5,.int .i64 v6,.int .i64 v7,.int .i64 v8] 106)) (HO.out.only OY.out (Nat.le_refl _) hrb) ((Below.refl _ _).alloc (Nat.le_refl _) _):al _ w.heap.size 106 9 (.slice oa on oc) (A.map Pt.row));have RA:=ae (RY.out.alloc (.cells #[.int .i64 (l+v0),.int .i64 v1,.int .i64 v2,.int .i64 v3,.int .i64 (v3+v4),.int .i64 v5,.int .i64 v6,.int .i64 v7,.int .i64 v8] 106));have OA:=ae ((O2.out.trans OY.out O2.out.size).alloc (by have:=O2.out.size;simp;omega) (.cells #[.int .i64 (l+v0),.int .i64 v1,.int .i64 v2,.int .i64 v3,.int .i64 (v3+v4),.int .i64 v5,.int .i64 v6,.int .i64 v7,.int .i64 v8] 106));have ez:=ae (show(A.map Pt.row).length +1<=maxLen by rw[List.length_map,HA.out];unfold maxLen;omega);have HL2:=ae (show((A.map Pt.row).length +1)*72<=140737488355328 by rw[List.length_map,HA.out];omega);have ni:=ae (show w.heap.size<=(((w25.setCell ⟨pb,8,none⟩ (.int .i64 v8)).setCell ⟨rb,1,none⟩ (.bool true)).alloc (.cells #[.int .i64 (l+v0),.int .i64 v1,.int .i64 v2,.int .i64 v3,.int .i64 (v3+v4),.int .i64 v5,.int .i64 v6,.int .i64 v7,.int .i64 v8] 106)).heap.size by have:=O2.out.size;simp;omega)
      go_wp2_with (first
       | (at_builtin
          go_loud (refine ar rfl (.tmp 70) (.tmp 72) 35 rfl w.heap.size 106 i0 _ 9 72 Tryz.underlying35 HI.out HZ0.out HZ1.out HZ2.out rfl (by decide) _ (A.map Pt.row) [[.int .i64 (l+v0),.int .i64 v1,.int .i64 v2,.int .i64 v3,.int .i64 (v3+v4),.int .i64 v5,.int .i64 v6,.int .i64 v7,.int .i64 v8]] rfl eK.out w25.heap.size 0 1 1 rfl rfl kP.out (Cx _ _ _ _ _ _ _ _ _) ez.out HL2.out ni.out ?_)
          intro v10 W6 aV da z6;clear z6;have fD:=ae (show aq W6 w.heap.size v10 (A++[⟨l+v0,v1,v2,v3,v3+v4,v5,v6,v7,v8⟩]) by unfold aq;rw[List.map_append];exact aV);have R6:=ae (RA.out.kept da (fun e=>by have:=al.ownBlock eK.out rb e.symm;omega) (fun e=>by have:=al.ownBlock eK.out b e.symm;omega));have O6:=ae (OA.out.kept da (by have:=O2.out.size;simp;omega) (fun k e=>al.ownBlock eK.out k e))
          clear aV da))
      obtain⟨oa6,oc6,I8⟩:=fD.out.slice;refine⟨⟨i+1,A++[⟨l+v0,v1,v2,v3,v3+v4,v5,v6,v7,v8⟩],l+v0,t9.mark,oa6,_,oc6,I8,by omega,by simp[HA.out],by go_num,rfl,I8▸fD.out,R6.out,O6.out,fun hb=>?_,?_⟩,by simp[intOf];omega⟩
      ·exact absurd hb (by simp[St.mark])
      ·rw[HE.out,show N-i=(N-(i+1))+1 by omega,lO EZ.out CT.out];simp
     ·have CT:=ae (show zS l s2=(⟨l+v0,v1,v2,v3,v3+v4,v5,v6,v7,v8⟩,t9) by rw[wG.out,if_neg hbig]);have dg:decide ((1152921504606846976:Int)<l+v0)=false:=decide_eq_false hbig;have RY:=ae RX.out;have FY:=ae FX.out;have OY:=ae OX.out;have d0:(w25.setCell ⟨pb,8,none⟩ (.int .i64 v8)).cell? ⟨pb,0,none⟩=some (.int .i64 (l+v0)):=(af (j:=0) FY.out).trans rfl;have d1:(w25.setCell ⟨pb,8,none⟩ (.int .i64 v8)).cell? ⟨pb,1,none⟩=some (.int .i64 v1):=(af (j:=1) FY.out).trans rfl;have d2:(w25.setCell ⟨pb,8,none⟩ (.int .i64 v8)).cell? ⟨pb,2,none⟩=some (.int .i64 v2):=(af (j:=2) FY.out).trans rfl;have d3:(w25.setCell ⟨pb,8,none⟩ (.int .i64 v8)).cell? ⟨pb,3,none⟩=some (.int .i64 v3):=(af (j:=3) FY.out).trans rfl;have d4:(w25.setCell ⟨pb,8,none⟩ (.int .i64 v8)).cell? ⟨pb,4,none⟩=some (.int .i64 (v3+v4)):=(af (j:=4) FY.out).trans rfl;have d5:(w25.setCell ⟨pb,8,none⟩ (.int .i64 v8)).cell? ⟨pb,5,none⟩=some (.int .i64 v5):=(af (j:=5) FY.out).trans rfl;have d6:(w25.setCell ⟨pb,8,none⟩ (.int .i64 v8)).cell? ⟨pb,6,none⟩=some (.int .i64 v6):=(af (j:=6) FY.out).trans rfl;have d7:(w25.setCell ⟨pb,8,none⟩ (.int .i64 v8)).cell? ⟨pb,7,none⟩=some (.int .i64 v7):=(af (j:=7) FY.out).trans rfl;have d8:(w25.setCell ⟨pb,8,none⟩ (.int .i64 v8)).cell? ⟨pb,8,none⟩=some (.int .i64 v8):=(af (j:=8) FY.out).trans rfl;have kP:=ae (aB.one (ai (w25.setCell ⟨pb,8,none⟩ (.int .i64 v8)) _ _ (by simp)):aB ((w25.setCell ⟨pb,8,none⟩ (.int .i64 v8)).alloc (.cells #[.int .i64 (l+v0),.int .i64 v1,.int .i64 v2,.int .i64 v3,.int .i64 (v3+v4),.int .i64 v5,.int .i64 v6,.int .i64 v7,.int .i64 v8] 106)) w25.heap.size 0 9 [[.int .i64 (l+v0),.int .i64 v1,.int .i64 v2,.int .i64 v3,.int .i64 (v3+v4),.int .i64 v5,.int .i64 v6,.int .i64 v7,.int .i64 v8]]);have eK:=ae (al.grow (W':=(w25.setCell ⟨pb,8,none⟩ (.int .i64 v8)).alloc (.cells #[.int .i64 (l+v0),.int .i64 v1,.int .i64 v2,.int .i64 v3,.int .i64 (v3+v4),.int .i64 v5,.int .i64 v6,.int .i64 v7,.int .i64 v8] 106)) (HO.out.only OY.out (Nat.le_refl _) hrb) ((Below.refl _ _).alloc (Nat.le_refl _) _):al _ w.heap.size 106 9 (.slice oa on oc) (A.map Pt.row));have RA:=ae (RY.out.alloc (.cells #[.int .i64 (l+v0),.int .i64 v1,.int .i64 v2,.int .i64 v3,.int .i64 (v3+v4),.int .i64 v5,.int .i64 v6,.int .i64 v7,.int .i64 v8] 106));have OA:=ae ((O2.out.trans OY.out O2.out.size).alloc (by have:=O2.out.size;simp;omega) (.cells #[.int .i64 (l+v0),.int .i64 v1,.int .i64 v2,.int .i64 v3,.int .i64 (v3+v4),.int .i64 v5,.int .i64 v6,.int .i64 v7,.int .i64 v8] 106));have ez:=ae (show(A.map Pt.row).length +1<=maxLen by rw[List.length_map,HA.out];unfold maxLen;omega);have HL2:=ae (show((A.map Pt.row).length +1)*72<=140737488355328 by rw[List.length_map,HA.out];omega);have ni:=ae (show w.heap.size<=((w25.setCell ⟨pb,8,none⟩ (.int .i64 v8)).alloc (.cells #[.int .i64 (l+v0),.int .i64 v1,.int .i64 v2,.int .i64 v3,.int .i64 (v3+v4),.int .i64 v5,.int .i64 v6,.int .i64 v7,.int .i64 v8] 106)).heap.size by have:=O2.out.size;simp;omega)
      go_wp2_with (first
       | (at_builtin
          go_loud (refine ar rfl (.tmp 70) (.tmp 72) 35 rfl w.heap.size 106 i0 _ 9 72 Tryz.underlying35 HI.out HZ0.out HZ1.out HZ2.out rfl (by decide) _ (A.map Pt.row) [[.int .i64 (l+v0),.int .i64 v1,.int .i64 v2,.int .i64 v3,.int .i64 (v3+v4),.int .i64 v5,.int .i64 v6,.int .i64 v7,.int .i64 v8]] rfl eK.out w25.heap.size 0 1 1 rfl rfl kP.out (Cx _ _ _ _ _ _ _ _ _) ez.out HL2.out ni.out ?_)
          intro v10 W6 aV da z6;clear z6;have fD:=ae (show aq W6 w.heap.size v10 (A++[⟨l+v0,v1,v2,v3,v3+v4,v5,v6,v7,v8⟩]) by unfold aq;rw[List.map_append];exact aV);have R6:=ae (RA.out.kept da (fun e=>by have:=al.ownBlock eK.out rb e.symm;omega) (fun e=>by have:=al.ownBlock eK.out b e.symm;omega));have O6:=ae (OA.out.kept da (by have:=O2.out.size;simp;omega) (fun k e=>al.ownBlock eK.out k e))
          clear aV da))
      obtain⟨oa6,oc6,I8⟩:=fD.out.slice;refine⟨⟨i+1,A++[⟨l+v0,v1,v2,v3,v3+v4,v5,v6,v7,v8⟩],l+v0,t9,oa6,_,oc6,I8,by omega,by simp[HA.out],by go_num,rfl,I8▸fD.out,R6.out,O6.out,fun hb=>?_,?_⟩,by simp[intOf];omega⟩
      ·exact⟨by omega,by omega⟩
      ·rw[HE.out,show N-i=(N-(i+1))+1 by omega,lO EZ.out CT.out];simp
    ·have HF:=ae (rX (N-i) l s2 hbad);rw[hbad] at fb;clear hbad;go_wp2_with fail;go_ret;rw[HE.out,HF.out,List.append_nil];exact⟨⟨_,rfl,HO.out,by rw[HA.out];omega⟩,R2.out,O2.out⟩
   ·obtain rfl:i=N:=by omega
    have HF:=ae (show kH (i-i) l s2=([],s2) by rw[Nat.sub_self];rfl);have d1:decide ((i:Int)<(i:Int))=false:=by simp
    go_wp2_with fail;go_ret;rw[HE.out,HF.out,List.append_nil];exact⟨⟨_,rfl,HO.out,by rw[HA.out];omega⟩,R2.out,O2.out⟩
open Go.RowKit
def be (g:Nat->Nat):Nat->BitVec 32
 |0=>0#32
 |k+1=>(be g k <<<8) |||BitVec.ofNat 32 (g k)
theorem El (x:BitVec 32) {y:Nat} (hy:y<256):bits .or .u32 ((x.toNat:Int)*(256:Int)%(4294967296:Int)) (y:Int)=(((x <<<8) |||BitVec.ofNat 32 y).toNat :Int):=by
 have h1:(x <<<8).toNat =x.toNat*256%4294967296:=by rw[BitVec.toNat_shiftLeft,Nat.shiftLeft_eq]
 have h2:=u32_or_nat (x <<<8).toNat y (x <<<8).isLt (by omega);rw[show(x.toNat:Int)*(256:Int)%(4294967296:Int)=((x <<<8).toNat :Int) by rw[h1];omega,h2,BitVec.toNat_or,BitVec.toNat_ofNat,Nat.mod_eq_of_lt (by omega)]
theorem DE (a c:Nat):((a:Int) == (c:Int))=decide (a=c):=by
 rw[Bool.eq_iff_iff,beq_iff_eq,decide_eq_true_eq];omega
theorem tH (b off n cap:Nat) (g:Nat->Nat) (w:World) (hn:n+4<=cap) (hc:cap<=9223372036854775807) (hg:∀i,g i<256) (hb:cY w b off (n+4) g):
 Calls Tryz.prog 103 #[.slice (some ⟨b,off,none⟩) (n+4:Nat) cap] w fun r w'=>r=.returned (.tuple #[.slice (some ⟨b,off,none⟩) n cap,.bool (decide ((be (fun i=>g (n+i)) 4).toNat =nK g n))])/\Below w.heap.size w w':=by
 have HG:=ae hg;have HB:=ae hb
 have HS:=ae (fun W (h:Below w.heap.size w W)=>tK b off n cap g W (by omega) hg (fun i hi=>by
  rw[h.cell (by
   have:=hb i (by omega);unfold World.cell? at this
   split at this
   ·rename_i hx;exact(Array.getElem?_eq_some_iff.1 hx).1
   ·simp at this)]
  exact hb i (by omega)))
 clear hg hb;have d9:decide ((n:Int)<0)=false:=decide_eq_false (by omega);go_enter Tryz.func103,Tryz.ntmps103;go_wp2_with fail
 go_loopw [5,17] (fun cv iv W=>∃k:Nat,k<=4/\iv=.int .i64 (k:Int)/\cv=.int .u32 ((be (fun i=>g (n+i)) k).toNat :Int)/\w=W) (fun _ iv _=>4-(intOf iv).toNat)
 case atStart=>exact⟨0,by omega,rfl,rfl,rfl⟩
 case round=>
  obtain⟨k,hk,rfl,rfl,rfl⟩:=hrel;by_cases hlt:k<4
  ·have c0:w.cell? ⟨b,off+n+k,none⟩=some (.int .u8 (g (n+k):Nat)):=by have:=HB.out (n+k) (by omega);rwa[<-Nat.add_assoc] at this
   have hgb:=HG.out (n+k);have d1:decide ((k:Int)<4)=true:=decide_eq_true (by omega);have HN:=ae (show be (fun i=>g (n+i)) (k+1)=(be (fun i=>g (n+i)) k <<<8) |||BitVec.ofNat 32 (g (n+k)) from rfl);generalize be (fun i=>g (n+i)) k=x at*;have hxb:=x.isLt;generalize g (n+k)=y at*;go_wp2_with fail;exact⟨⟨k+1,by omega,by go_num,by rw[HN.out,El x hgb],trivial⟩,by simp[intOf];omega⟩
  ·have HX0:=ae (show k=4 by omega);have d1:decide ((k:Int)<4)=false:=decide_eq_false (by omega);generalize hx:be (fun i=>g (n+i)) k=x at*;have HX:=ae (show be (fun i=>g (n+i)) 4=x by rw[<-HX0.out];exact hx);clear hx;have hxb:=x.isLt;go_wp2_with fail;refine au (fun V hV=>?_);have cr:=ae (show Below w.heap.size w V by rw[hV];exact Below.refl _ _);clear hV;refine bf (fun A0 hA=>?_);refine ry (by kernel_rfl) (by kernel_rfl) [some 27,some 28,some 29,some 30,some 31,some 32,some 33,some 34,some 35,some 2,some 3] rfl (by decide)
    [aw (.slice (some ⟨b,off,none⟩) (n+4) cap),aw (.int .i64 (n:Int)),aw (.slice (some ⟨b,off,none⟩) n cap),aw (.int .u32 (x.toNat:Int)),aw (.slice (some ⟨b,off,none⟩) (n+4) cap),aw (.int .i64 (n:Int)),aw (.slice (some ⟨b,off,none⟩) n cap),aw (.int .u32 (nK g n:Int)),aw (.bool ((x.toNat:Int) == (nK g n:Int))),aw (.slice (some ⟨b,off,none⟩) n cap),aw (.bool ((x.toNat:Int) == (nK g n:Int)))]
    ⟨aw.stb _,aw.stb _,aw.stb _,aw.stb _,aw.stb _,aw.stb _,aw.stb _,aw.stb _,aw.stb _,aw.stb _,aw.stb _,trivial⟩ ?hs1_10_V1 ?hend_10_V1
   case hs1_10_V1=>
    refine⟨?_,?_,?_,?_,?_,?_,?_,?_,?_,?_,?_,trivial⟩
    iterate 2 (·intro K us W ak hB hd;have hK:=ae ak;clear ak;have aA:=ae hB;have fg:=hB.size;have GB:=ae (cr.out.trans (hB.mono cr.out.size));clear hd;simp only[ah];rw[hA];go_frame;go_wp2_with fail;exact hK.out _ _ _ (by rw[hA];simp only[ah];kernel_rfl) (Below.refl _ _) rfl)
    ·intro K us W ak hB hd;have hK:=ae ak;clear ak;have aA:=ae hB;have fg:=hB.size;have GB:=ae (cr.out.trans (hB.mono cr.out.size));have e0:us 0=_:=hd ⟨0,Ground.data⟩ (by simp) rfl;have e1:us 1=_:=hd ⟨1,Ground.data⟩ (by simp) rfl;clear hd;simp only[ah];rw[hA,e0,e1];go_frame;go_wp2_with fail;exact hK.out _ _ _ (by rw[hA];simp only[ah];rw[e0,e1];kernel_rfl) (Below.refl _ _) rfl
    iterate 3 (·intro K us W ak hB hd;have hK:=ae ak;clear ak;have aA:=ae hB;have fg:=hB.size;have GB:=ae (cr.out.trans (hB.mono cr.out.size));clear hd;simp only[ah];rw[hA];go_frame;go_wp2_with fail;exact hK.out _ _ _ (by rw[hA];simp only[ah];kernel_rfl) (Below.refl _ _) rfl)
    ·intro K us W ak hB hd;have hK:=ae ak;clear ak;have aA:=ae hB;have fg:=hB.size;have GB:=ae (cr.out.trans (hB.mono cr.out.size));have e4:us 4=_:=hd ⟨4,Ground.data⟩ (by simp) rfl;have e5:us 5=_:=hd ⟨5,Ground.data⟩ (by simp) rfl;clear hd;simp only[ah];rw[hA,e4,e5];go_frame;go_wp2_with fail;exact hK.out _ _ _ (by rw[hA];simp only[ah];rw[e4,e5];kernel_rfl) (Below.refl _ _) rfl
    ·intro K us W ak hB hd;have hK:=ae ak;clear ak;have aA:=ae hB;have fg:=hB.size;have GB:=ae (cr.out.trans (hB.mono cr.out.size));have e6:us 6=_:=hd ⟨6,Ground.data⟩ (by simp) rfl;clear hd;simp only[ah];rw[hA,e6];go_frame;go_wp2_with fail;refine(HS.out W GB.out).mono ?_;rintro r W' ⟨rfl,rfl⟩;go_wp2_with fail;exact hK.out _ _ _ (by rw[hA];simp only[ah];rw[e6];kernel_rfl) (Below.refl _ _) rfl
    ·intro K us W ak hB hd;have hK:=ae ak;clear ak;have aA:=ae hB;have fg:=hB.size;have GB:=ae (cr.out.trans (hB.mono cr.out.size));have e3:us 3=_:=hd ⟨3,Ground.data⟩ (by simp) rfl;have e7:us 7=_:=hd ⟨7,Ground.data⟩ (by simp) rfl;clear hd;simp only[ah];rw[hA,e3,e7];go_frame;go_wp2_with fail;exact hK.out _ _ _ (by rw[hA];simp only[ah];rw[e3,e7];kernel_rfl) (Below.refl _ _) rfl
    ·intro K us W ak hB hd;have hK:=ae ak;clear ak;have aA:=ae hB;have fg:=hB.size;have GB:=ae (cr.out.trans (hB.mono cr.out.size));have e2:us 2=_:=hd ⟨2,Ground.data⟩ (by simp) rfl;clear hd;simp only[ah];rw[hA,e2];go_frame;go_wp2_with fail;exact hK.out _ _ _ (by rw[hA];simp only[ah];rw[e2];kernel_rfl) (Below.refl _ _) rfl
    ·intro K us W ak hB hd;have hK:=ae ak;clear ak;have aA:=ae hB;have fg:=hB.size;have GB:=ae (cr.out.trans (hB.mono cr.out.size));have e8:us 8=_:=hd ⟨8,Ground.data⟩ (by simp) rfl;clear hd;simp only[ah];rw[hA,e8];go_frame;go_wp2_with fail;exact hK.out _ _ _ (by rw[hA];simp only[ah];rw[e8];kernel_rfl) (Below.refl _ _) rfl
   intro us V1 hB hp;have e9:us 9=_:=hp 9 (by decide);have e10:us 10=_:=hp 10 (by decide);have HB1:=ae (cr.out.trans (hB.mono cr.out.size));have Qt:=ae (fun n x=>@aj _ _ n x hB);have Rv:=hB.size;have RE:=ae hB;clear hp;clear hB;simp only[ah];rw[hA,e9,e10];clear hA e9 e10;go_frame;go_wp2_with fail;go_ret2;refine⟨?_,HB1.out⟩;rw[HX.out,DE];rfl
open Go.RowKit
def ir (l:List Nat):St:=⟨fun i=>l.getD i 0,l.length,false⟩
open Go.RowKit
theorem wR (g:Nat->Nat) (n z:Nat) (hz:z<=4611686018427387903):∀(f q i:Nat),(∀j,j<(ck q).length ->g (i+j)=(ck q).getD j 0)->i+(ck q).length <=n->(ck q).length <=f->
 gm g i+128 ^ i*q=z->(i=0∨q≠0)->rd g n f i=(((z:Nat):Int),((i+(ck q).length :Nat):Int),0)
 |0,q,i,_,_,hf,_,_=>by have:=oC q;omega
 |f+1,q,i,hg,hn,hf,hv,hq=>by
  have hp:=oC q;have h0:=hg 0 hp;rw[Nat.add_zero] at h0;unfold rd;rw[if_neg (by omega)];by_cases h:128<=q
  ·have he:=ie h;rw[he] at h0 hn hf hg⊢;rw[show((q%128+128)::ck (q/128)).getD 0 0=q%128+128 from rfl] at h0;rw[if_pos (by omega)];have hv1:gm g (i+1)=gm g i+q%128*128 ^ i:=by
    show gm g i+g i%128*128 ^ i=_;rw[h0,show(q%128+128)%128=q%128 by omega]
   have hr:=wR g n z hz f (q/128) (i+1) (fun j hj=>by
    have:=hg (j+1) (by simpa using hj);rw[show i+1+j=i+(j+1) by omega]
    simpa using this) (by simp at hn;omega) (by simp at hf;omega) (by
    rw[hv1,Nat.pow_succ,<-hv];have:q=128*(q/128)+q%128:=by omega
    generalize 128 ^ i=P at*;generalize q/128=a at*;generalize q%128=b at*;subst this;rw[Nat.mul_add,Nat.mul_comm b P,Nat.mul_assoc P 128 a]
    omega) (Or.inr (by omega))
   rw[hr];simp;omega
  ·have he:=fI h;rw[he] at h0 hn hf hg⊢;rw[show [q].getD 0 0=q from rfl] at h0;have hv1:gm g (i+1)=z:=by
    show gm g i+g i%128*128 ^ i=_;rw[h0,show q%128=q by omega,<-hv,Nat.mul_comm]
   rw[if_neg (by omega),if_neg (by rw[h0,hv1];omega),hv1];simp
theorem oT (z:Nat) (r:List Nat) (hz:z<=4611686018427387903):bJ (fun i=>(ck z++r).getD i 0) (ck z++r).length =(((z:Nat):Int),((ck z).length :Int),0):=by
 have h:=wR (fun i=>(ck z++r).getD i 0) (ck z++r).length z hz 9 z 0 (fun j hj=>by
  simp only[Nat.zero_add]
  rw[List.getD_eq_getElem?_getD,List.getD_eq_getElem?_getD,List.getElem?_append_left hj]) (by simp) (ia 8 z (by omega)) (by simp[gm]) (Or.inl rfl)
 unfold bJ;rw[h];simp
theorem nH (x r:List Nat):(fun i=>(x++r).getD (i+x.length) 0)=fun i=>r.getD i 0:=by
 funext i;rw[List.getD_eq_getElem?_getD,List.getD_eq_getElem?_getD,List.getElem?_append_right (by omega)];congr 2;omega
theorem DU (l:List Nat):(ir l).bad =false:=rfl
theorem cR (z:Int) (r:List Nat) (hz:0<=z/\z<=4611686018427387903):bi false (ir (aQ z++r))=(z,ir r):=by
 have h:=oT z.toNat r (by omega);have h1:(bJ (ir (aQ z++r)).g (ir (aQ z++r)).m)=(((z.toNat:Nat):Int),((ck z.toNat).length :Int),0):=h;rw[iC (k:=(ck z.toNat).length) (by rw[h1]) rfl (by rw[h1]),h1];refine Prod.ext (by simp;omega) ?_;show(⟨fun i=>(aQ z++r).getD (i+(ck z.toNat).length) 0,(aQ z++r).length -(ck z.toNat).length,false⟩:St)=⟨_,_,_⟩;rw[show(fun i=>(aQ z++r).getD (i+(ck z.toNat).length) 0)=fun i=>r.getD i 0 from nH _ _];congr 1;simp[aQ]
theorem zv (z:Int) (k:Int) (hz: -2305843009213693952<=z/\z<=2305843009213693951):dZ (((l6 z:Nat):Int),k,0)=(z,k,0):=by
 by_cases h:z<0
 ·have hx:((l6 z:Nat):Int)= -2*z-1:=by unfold l6;rw[if_pos h];omega
  rw[hx];show(if(0:Int)=0 then(if(-2*z-1)%2=1 then(-((-2*z-1)/2)-1,k,0) else((-2*z-1)/2,k,0)) else(0,0,0))=(z,k,0);rw[if_pos rfl,if_pos (by omega),show-((-2*z-1)/2)-1=z by omega]
 ·have hx:((l6 z:Nat):Int)=2*z:=by unfold l6;rw[if_neg h];omega
  rw[hx];show(if(0:Int)=0 then(if(2*z)%2=1 then(-((2*z)/2)-1,k,0) else((2*z)/2,k,0)) else(0,0,0))=(z,k,0);rw[if_pos rfl,if_neg (by omega),show(2*z)/2=z by omega]
theorem j6 (z:Int) (r:List Nat) (hz: -2305843009213693952<=z/\z<=2305843009213693951):bi true (ir (fh z++r))=(z,ir r):=by
 have h:=oT (l6 z) r (by unfold l6;split<;>omega);have h1:(bJ (ir (fh z++r)).g (ir (fh z++r)).m)=(((l6 z:Nat):Int),((ck (l6 z)).length :Int),0):=h;rw[iC (k:=(ck (l6 z)).length) (by rw[h1]) rfl (by rw[h1]),h1];refine Prod.ext (by simp[zv z _ hz]) ?_;show(⟨fun i=>(fh z++r).getD (i+(ck (l6 z)).length) 0,(fh z++r).length -(ck (l6 z)).length,false⟩:St)=⟨_,_,_⟩;rw[show(fun i=>(fh z++r).getD (i+(ck (l6 z)).length) 0)=fun i=>r.getD i 0 from nH _ _];congr 1;simp[fh]
theorem yx (l:Int) (p:Pt) (r:List Nat):om l p++r=aQ (p.id-l)++(fh p.x++(fh p.y++(fh p.zl++(aQ (p.zh-p.zl)++(aQ p.wd++(aQ p.nm++(aQ p.of++(aQ p.cl++r)))))))):=by
 simp[om,bO]
def Ia:Int->List Pt->Prop
 |_,[]=>True
 |l,p::P=>BC l p/\Ia p.id P
theorem wV:∀(l:Int) (P:List Pt),(∀k p,P[k]? =some p->BC (lx l (P.take k)) p)->Ia l P
 |_,[],_=>trivial
 |_,p::P,h=>⟨h 0 p rfl,wV p.id P (fun k q hq=>h (k+1) q hq)⟩
theorem AZ {l:Int} {p:Pt} (h:BC l p) (r:List Nat):zS l (ir (om l p++r))=(p,ir r):=by
 rw[yx];have a0:=cR (p.id-l) (fh p.x++(fh p.y++(fh p.zl++(aQ (p.zh-p.zl)++(aQ p.wd++(aQ p.nm++(aQ p.of++(aQ p.cl++r)))))))) (by have:=h.id;omega);have a1:=j6 p.x (fh p.y++(fh p.zl++(aQ (p.zh-p.zl)++(aQ p.wd++(aQ p.nm++(aQ p.of++(aQ p.cl++r))))))) (by have:=h.x;omega);have a2:=j6 p.y (fh p.zl++(aQ (p.zh-p.zl)++(aQ p.wd++(aQ p.nm++(aQ p.of++(aQ p.cl++r)))))) (by have:=h.y;omega);have a3:=j6 p.zl (aQ (p.zh-p.zl)++(aQ p.wd++(aQ p.nm++(aQ p.of++(aQ p.cl++r))))) (by have:=h.z;omega);have a4:=cR (p.zh-p.zl) (aQ p.wd++(aQ p.nm++(aQ p.of++(aQ p.cl++r)))) (by have:=h.z;have:=h.h;omega);have a5:=cR p.wd (aQ p.nm++(aQ p.of++(aQ p.cl++r))) (by have:=h.wd;omega);have a6:=cR p.nm (aQ p.of++(aQ p.cl++r)) (by have:=h.nm;omega);have a7:=cR p.of (aQ p.cl++r) (by have:=h.of;omega);have a8:=cR p.cl r (by have:=h.cl;omega);unfold zS;simp only[a0,a1,a2,a3,a4,a5,a6,a7,a8];have e1:l+(p.id-l)=p.id:=by omega
 have e2:p.zl+(p.zh-p.zl)=p.zh:=by omega
 rw[e1,e2,if_neg (by have:=h.i;omega)]
theorem pN:∀(l:Int) (P:List Pt),Ia l P->∀r,kH P.length l (ir (bZ l P++r))=(P,ir r)
 |_,[],_,r=>rfl
 |l,p::P,h,r=>by
  have h1:=AZ h.1 (bZ p.id P++r);have h2:=lO (f:=P.length) (DU _) h1;rw[show bZ l (p::P)++r=om l p++(bZ p.id P++r) from List.append_assoc _ _ _,List.length_cons,h2,pN p.id P h.2 r]
theorem Rx {g:Nat->Nat} {c:Nat} (hc:c<4294967296) (h0:g 0=c/16777216%256) (h1:g 1=c/65536%256) (h2:g 2=c/256%256) (h3:g 3=c%256):(be g 4).toNat =c:=by
 have step:∀(x:BitVec 32) (y:Nat),y<256->((x <<<8) |||BitVec.ofNat 32 y).toNat =x.toNat*256%4294967296+y:=fun x y hy=>by
  have e1:(x <<<8).toNat =x.toNat*256%4294967296:=by rw[BitVec.toNat_shiftLeft,Nat.shiftLeft_eq]
  rw[BitVec.toNat_or,e1,BitVec.toNat_ofNat,Nat.mod_eq_of_lt (show y<2 ^ 32 by omega)];have e2:x.toNat*256%4294967296=2 ^ 8*(x.toNat%16777216):=by omega
  rw[e2,<-Nat.two_pow_add_eq_or_of_lt (by omega)]
 show((((((((0#32 <<<8) |||BitVec.ofNat 32 (g 0)) <<<8) |||BitVec.ofNat 32 (g 1)) <<<8) |||BitVec.ofNat 32 (g 2)) <<<8) |||BitVec.ofNat 32 (g 3)).toNat =c;rw[step _ _ (by omega),step _ _ (by omega),step _ _ (by omega),step _ _ (by omega)];rw[h0,h1,h2,h3];simp;omega
theorem y8 (l:List Nat) {n:Nat} (hn:n<=l.length):nK (fun i=>l.getD i 0) n=tY (l.take n):=by
 unfold tY nK;rw[List.length_take,Nat.min_eq_left hn];rw[lj n (fun i hi=>show l.getD i 0=(l.take n).getD i 0 by rw[List.getD_eq_getElem?_getD,List.getD_eq_getElem?_getD,List.getElem?_take_of_lt hi])]
end Go.Proofs.YtcclpdfmmdonpaaGreat
