/- The disk told by its files' bytes: what an operation does to it, as plain functions, and the walks of its operations so. What an operation changes is told by the types of the blocks. -/
import Derived.Test.YtcclpdfmmdonpaaGreatTDsl
namespace Go.Proofs.YtcclpdfmmdonpaaGreat
open Go.RowKit
structure bU (M:Nat->Obj->Prop) (W W':World):Prop where
 os:W'.os=W.os
 tape:W'.tape=W.tape
 output:W'.output=W.output
 size:W.heap.size<=W'.heap.size
 block:∀k o,W.heap[k]? =some o->¬M k o->W'.heap[k]? =some o
theorem bU.trans {M:Nat->Obj->Prop} {W W' W'':World} (h:bU M W W') (h2:bU M W' W''):bU M W W'':=
 ⟨h2.os.trans h.os,h2.tape.trans h.tape,h2.output.trans h.output,Nat.le_trans h.size h2.size,fun k o hk hm=>h2.block k o (h.block k o hk hm) hm⟩
theorem bU.mono {M M':Nat->Obj->Prop} {W W':World} (h:bU M W W') (hM:∀k o,M k o->M' k o):bU M' W W':=⟨h.os,h.tape,h.output,h.size,fun k o hk hm=>h.block k o hk (fun e=>hm (hM k o e))⟩
theorem bU.of_below {M:Nat->Obj->Prop} {W W':World} (h:Below W.heap.size W W'):bU M W W':=⟨h.os,h.tape,h.output,h.size,fun k o hk _=>by rw[h.block k (Array.getElem?_eq_some_iff.1 hk).1];exact hk⟩
theorem bU.step {M:Nat->Obj->Prop} {W W' W'':World} (h:bU M W W') (h2:Below W'.heap.size W' W''):bU M W W'':=h.trans (bU.of_below h2)
theorem bU.below {M:Nat->Obj->Prop} {B:Nat} {W W':World} (h:bU M W W') (hM:∀k o,M k o->B<=k) (hB:B<=W.heap.size):Below B W W':=by
 refine⟨h.os,h.tape,h.output,h.size,fun k hk=>?_⟩;have hx:W.heap[k]? =some W.heap[k]:=Array.getElem?_eq_getElem (by omega);rw[hx];exact h.block k _ hx (fun e=>by have:=hM k _ e;omega)
theorem bU.of_fr {M:Nat->Obj->Prop} {F:Nat->Prop} {W W':World} (h:Fr F W W') (hF:∀k o,F k->W.heap[k]? =some o->M k o):bU M W W':=
 ⟨h.os,h.tape,h.output,h.size,fun k o hk hm=>by rw[h.block k (Array.getElem?_eq_some_iff.1 hk).1 (fun e=>hm (hF k o e hk))];exact hk⟩
theorem al.chg {M:Nat->Obj->Prop} {W W':World} {base t sz:Nat} {v:Value} {l:List (List Value)} (h:al W base t sz v l) (hc:bU M W W') (hM:∀k C,base<=k->v.ownBlock=some k->¬M k (.cells C t (0,0))):al W' base t sz v l:=by
 obtain⟨hw,hl,h⟩:=h;refine⟨hw,hl,?_⟩
 rcases h with h| ⟨g,cap,cur,hv,hB,hg,rest⟩
 ·exact .inl h
 ·exact .inr ⟨g,cap,cur,hv,hB,hc.block g _ hg (hM g cur hB (by rw[hv];rfl)),rest⟩
def MT (T:List TypeId) (B:Nat) (k:Nat) (o:Obj):Prop:=B<=k/\∃C t fr,o=.cells C t fr/\t∈T
theorem MT.ge {T:List TypeId} {B:Nat} :∀k o,MT T B k o->B<=k:=fun _ _ h=>h.1
theorem MT.not {T:List TypeId} {B k:Nat} {C:Array Value} {t:TypeId} {fr:Nat×Nat} (h:t∉T):¬MT T B k (.cells C t fr):=fun⟨_,C',t',fr',e,ht⟩=>by
 injection e with _ e2 _
 exact h (e2▸ht)
theorem MT.yes {T:List TypeId} {B k:Nat} {C:Array Value} {t:TypeId} {fr:Nat×Nat} (hB:B<=k) (h:t∈T):MT T B k (.cells C t fr):=⟨hB,C,t,fr,rfl,h⟩
def MD (B:Nat):Nat->Obj->Prop:=MT [68,5] B
structure Fi where
 b:List Nat
 s:Nat
structure Dk where
 dn:Bool
 lf:Int
 f0:Fi
 f1:Fi
def Dk.op (d:Dk) (i:Int) (F:Fi->Fi):Int×Dk:=
 if d.dn=true then(82,d) else if d.lf=1 then(82,{d with dn:=true,lf:=0}) else(0,⟨false,mW d.lf,if i=0 then F d.f0 else d.f0,if i=1 then F d.f1 else d.f1⟩)
def Fi.clr (_:Fi):Fi:=⟨[],0⟩
def Fi.app (bs:List Nat) (f:Fi):Fi:=⟨f.b++bs,f.s⟩
def Fi.syn (f:Fi):Fi:=⟨f.b,f.b.length⟩
def Fi.lost (k:Int) (f:Fi):Fi:=⟨f.b.take (f.s+min k.toNat (f.b.length-f.s)),f.s+min k.toNat (f.b.length-f.s)⟩
def Dk.crash (d:Dk) (k0 k1:Int):Dk:=⟨true,0,d.f0.lost k0,d.f1.lost k1⟩
def Dk.start (d:Dk):Dk:=if d.dn=true then ⟨false,0,d.f0.lost 0,d.f1.lost 0⟩ else d
structure iV (d:Dk):Prop where
 l0:0<=d.lf
 l1:d.lf<=9223372036854775807
 s0:d.f0.s<=d.f0.b.length
 s1:d.f1.s<=d.f1.b.length
 n0:d.f0.b.length<=1000000
 n1:d.f1.b.length<=1000000
def cT (W:World) (B g:Nat) (d:Dk):Prop:=∃v0 v1,DX W B g d.dn d.lf ⟨v0,d.f0.b,d.f0.s⟩ ⟨v1,d.f1.b,d.f1.s⟩
theorem Fl.eq {f:Fl} {x:Fi} (h1:f.b=x.b) (h2:f.s=x.s):f=⟨f.v,x.b,x.s⟩:=by
 cases f
 cases x
 simp at h1 h2;subst h1 h2;rfl
theorem cT.of {W:World} {B g:Nat} {d:Dk} {f0 f1:Fl} (h:DX W B g d.dn d.lf f0 f1) (h1:f0.b=d.f0.b) (h2:f0.s=d.f0.s) (h3:f1.b=d.f1.b) (h4:f1.s=d.f1.s):cT W B g d:=by
 rw[Fl.eq h1 h2,Fl.eq h3 h4] at h;exact⟨_,_,h⟩
theorem iG.foot_ge {W:World} {B g t:Nat} {C:Array Value} {f0 f1:Fl} (h:iG W B g t C f0 f1):∀k,iS g f0 f1 k->B<=k:=by
 rintro k (rfl|hk|hk)
 ·exact h.hB
 ·exact(h.o0.lt k hk).1
 ·exact(h.o1.lt k hk).1
theorem tG {W W':World} {B g:Nat} {dn:Bool} {lf:Int} {f0 f1:Fl} (h:DX W B g dn lf f0 f1) (hf:Fr (iS g f0 f1) W W'):bU (MD B) W W':=by
 refine bU.of_fr hf (fun k o hk ho=>?_);have hge:=iG.foot_ge h k hk;have row:∀{v:Value} {n:Nat} {xs:List Value},W.ownsRow B 5 1 v n xs->v.ownBlock=some k->MD B k o:=fun hr hv=>by
  rcases hr.2 with⟨e,_⟩ | ⟨g',cap,cur,e,_,hg,_⟩
  ·rw[e] at hv;cases hv
  ·rw[e] at hv;injection hv with hv
   have hv:g'=k:=hv;subst hv;rw[ho] at hg;injection hg with hg
   rw[hg];exact MT.yes hge (by decide)
 rcases hk with rfl|hk|hk
 ·rw[iG.hg h] at ho;injection ho with ho
  rw[<-ho];exact MT.yes hge (by decide)
 ·exact row h.o0 hk
 ·exact row h.o1 hk
theorem kQ {W W':World} {B g:Nat} {dn:Bool} {lf:Int} {f0 f1:Fl} (h:DX W B g dn lf f0 f1) (hf:Fr (fun k=>k=g) W W'):bU (MD B) W W':=tG h (hf.mono fun _ _ hk=>.inl hk)
theorem cT.lt {W:World} {B g:Nat} {d:Dk} (h:cT W B g d):g<W.heap.size:=by
 obtain⟨v0,v1,h⟩:=h;exact iG.lt h
theorem tL {M:Nat->Obj->Prop} {W W':World} {B n:Nat} {v:Value} {xs:List Value} (h:W.ownsRow B 5 1 v n xs) (hc:bU M W W') (hM:∀k C,B<=k->¬M k (.cells C 5 (0,0))):W'.ownsRow B 5 1 v n xs:=by
 obtain⟨hl,h⟩:=h;refine⟨hl,?_⟩
 rcases h with h| ⟨g,cap,cur,hv,hB,hg,rest⟩
 ·exact .inl h
 ·exact .inr ⟨g,cap,cur,hv,hB,hc.block g _ hg (hM g cur hB),rest⟩
theorem cT.chg {M:Nat->Obj->Prop} {W W':World} {B g:Nat} {d:Dk} (h:cT W B g d) (hc:bU M W W') (hM:∀k C,B<=k->¬M k (.cells C 5 (0,0))/\¬M k (.cells C 68 (0,0))):cT W' B g d:=by
 obtain⟨v0,v1,h⟩:=h;exact⟨v0,v1,hc.block g _ h.hg (hM g _ h.hB).2,h.hB,tL h.o0 hc (fun k C hk=>(hM k C hk).1),tL h.o1 hc (fun k C hk=>(hM k C hk).1),h.n0,h.n1,h.n01⟩
theorem cT.still {W W':World} {B g:Nat} {d:Dk} (h:cT W B g d) (hb:Below W.heap.size W W'):cT W' B g d:=by
 obtain⟨v0,v1,h⟩:=h;exact⟨v0,v1,DX.still h hb⟩
theorem ou {d:Dk} {i:Int} {F:Fi->Fi} (hi:i=0∨i=1):zM i d.dn d.lf=(d.op i F).2.dn /\zN i d.dn d.lf=(d.op i F).2.lf /\od i d.dn d.lf=(d.op i F).1 :=by
 obtain⟨dn,lf,f0,f1⟩:=d;have hr:cW i dn=if dn=true then 82 else 0:=if_neg (by omega)
 unfold zM zN od Dk.op;rw[hr]
 cases dn
 ·by_cases h1:lf=1
  ·subst h1;simp[mW]
  ·simp[h1]
 ·simp
theorem op_ok {d:Dk} {i:Int} (hi:i=0∨i=1):mZ i d.dn d.lf=(!d.dn && !decide (d.lf=1)):=by
 obtain⟨dn,lf,f0,f1⟩:=d;have hr:cW i dn=if dn=true then 82 else 0:=if_neg (by omega)
 unfold mZ;rw[hr]
 cases dn<;>simp
theorem Fg {d:Dk} {i:Int} {F:Fi->Fi} (hi:i=0∨i=1):(d.op i F).2.f0 =if mZ i d.dn d.lf=true/\i=0 then F d.f0 else d.f0:=by
 rw[op_ok hi];obtain⟨dn,lf,f0,f1⟩:=d;unfold Dk.op
 cases dn
 ·by_cases h1:lf=1
  ·subst h1;simp
  ·simp[h1]
 ·simp
theorem FD {d:Dk} {i:Int} {F:Fi->Fi} (hi:i=0∨i=1):(d.op i F).2.f1 =if mZ i d.dn d.lf=true/\i=1 then F d.f1 else d.f1:=by
 rw[op_ok hi];obtain⟨dn,lf,f0,f1⟩:=d;unfold Dk.op
 cases dn
 ·by_cases h1:lf=1
  ·subst h1;simp
  ·simp[h1]
 ·simp
theorem Gb {W:World} {B g:Nat} {d:Dk} {i:Int} {F:Fi->Fi} (hi:i=0∨i=1) {v0 v1:Value} {g0 g1:Fl} (h:DX W B g (zM i d.dn d.lf) (zN i d.dn d.lf) (C7 i d.dn d.lf ⟨v0,d.f0.b,d.f0.s⟩ g0) (CU i d.dn d.lf ⟨v1,d.f1.b,d.f1.s⟩ g1))
 (h0:g0.b=(F d.f0).b) (h1:g0.s=(F d.f0).s) (h2:g1.b=(F d.f1).b) (h3:g1.s=(F d.f1).s):cT W B g (d.op i F).2 :=by
 rw[(ou (F:=F) hi).1,(ou (F:=F) hi).2.1] at h;have e0:=Fg (d:=d) (F:=F) hi;have e1:=FD (d:=d) (F:=F) hi;refine cT.of h ?_ ?_ ?_ ?_
 iterate 2 (·rw[e0];unfold C7;split<;>simp_all)
 iterate 2 (·rw[e1];unfold CU;split<;>simp_all)
theorem qr (g B:Nat) (d:Dk) (i:Int) (w:World) (h:cT w B g d) (hd:iV d) (hi:i=0∨i=1):
 Calls Tryz.prog 55 #[.pointer (some ⟨g,0,none⟩),.int .i64 i] w fun r w'=>r=.returned (.int .i64 (d.op i Fi.clr).1)/\cT w' B g (d.op i Fi.clr).2 /\bU (MD B) w w':=by
 obtain⟨v0,v1,h⟩:=h;refine(uC g B d.dn d.lf i _ _ w h hd.l0 hd.l1).mono ?_;rintro r w1 ⟨rfl,h1,hf⟩;exact⟨by rw[(ou (F:=Fi.clr) hi).2.2],Gb hi h1 rfl rfl rfl rfl,kQ h hf⟩
theorem sf (g B:Nat) (d:Dk) (i:Int) (w:World) (h:cT w B g d) (hd:iV d) (hi:i=0∨i=1):
 Calls Tryz.prog 81 #[.pointer (some ⟨g,0,none⟩),.int .i64 i] w fun r w'=>r=.returned (.int .i64 (d.op i Fi.syn).1)/\cT w' B g (d.op i Fi.syn).2 /\bU (MD B) w w':=by
 obtain⟨v0,v1,h⟩:=h;refine(zb g B d.dn d.lf i _ _ w h hd.l0 hd.l1).mono ?_;rintro r w1 ⟨rfl,h1,hf⟩;exact⟨by rw[(ou (F:=Fi.syn) hi).2.2],Gb hi h1 rfl rfl rfl rfl,kQ h hf⟩
theorem oU (g B:Nat) (d:Dk) (i:Int) (bv:Value) (bs:List Nat) (w:World) (h:cT w B g d) (hd:iV d) (hi:i=0∨i=1) (hb:Fp w g bv bs) (hn:bs.length<=1000000) (hB:B<=w.heap.size):
 Calls Tryz.prog 79 #[.pointer (some ⟨g,0,none⟩),.int .i64 i,bv] w fun r w'=>r=.returned (.int .i64 (d.op i (Fi.app bs)).1)/\cT w' B g (d.op i (Fi.app bs)).2 /\bU (MD B) w w':=by
 obtain⟨v0,v1,h⟩:=h;refine(sq g B d.dn d.lf i _ _ bv bs w h hd.l0 hd.l1 hb hd.n0 hd.n1 hn hB).mono ?_;rintro r w1 ⟨rfl,f0',f1',e1,e2,e3,e4,h1,hf,_⟩;refine⟨by rw[(ou (F:=Fi.app bs) hi).2.2],?_,tG h hf⟩;rw[(ou (F:=Fi.app bs) hi).1,(ou (F:=Fi.app bs) hi).2.1] at h1;have e0:=Fg (d:=d) (F:=Fi.app bs) hi;have e5:=FD (d:=d) (F:=Fi.app bs) hi;refine cT.of h1 ?_ ?_ ?_ ?_
 ·rw[e0,e1];split<;>rfl
 ·rw[e0,e2];split<;>rfl
 ·rw[e5,e3];split<;>rfl
 ·rw[e5,e4];split<;>rfl
theorem ye (g B:Nat) (d:Dk) (k0 k1:Int) (w:World) (h:cT w B g d) (hd:iV d) (hB:B<=w.heap.size):
 Calls Tryz.prog 45 #[.pointer (some ⟨g,0,none⟩),.agg #[.int .i64 k0,.int .i64 k1]] w fun r w'=>r=.returned (.tuple #[])/\cT w' B g (d.crash k0 k1)/\bU (MD B) w w':=by
 obtain⟨v0,v1,h⟩:=h;refine(oe g B d.dn d.lf k0 k1 _ _ w h hd.s0 hd.n0 hd.s1 hd.n1 hB).mono ?_;rintro r w1 ⟨rfl,u0,u1,h1,hf,_,_⟩;exact⟨rfl,⟨u0,u1,h1⟩,kQ h hf⟩
theorem yL (g B:Nat) (d:Dk) (w:World) (h:cT w B g d) (hd:iV d) (hB:B<=w.heap.size):
 Calls Tryz.prog 46 #[.pointer (some ⟨g,0,none⟩)] w fun r w'=>r=.returned (.tuple #[])/\cT w' B g d.start/\bU (MD B) w w':=by
 obtain⟨v0,v1,h⟩:=h;obtain⟨dn,lf,f0,f1⟩:=d
 cases dn with
 |false=>
  refine(yJ g B lf _ _ w h).mono ?_;rintro r w1 ⟨rfl,hb⟩;exact⟨rfl,⟨v0,v1,DX.still h hb⟩,bU.of_below hb⟩
 |true=>
  refine(sQ g B lf _ _ w h hd.s0 hd.n0 hd.s1 hd.n1 hB).mono ?_;rintro r w1 ⟨rfl,u0,u1,h1,hf,_,_⟩;exact⟨rfl,⟨u0,u1,h1⟩,kQ h hf⟩
theorem tU (g B:Nat) (d:Dk) (w:World) (h:cT w B g d):
 Calls Tryz.prog 32 #[.pointer (some ⟨g,0,none⟩)] w fun r w'=>r=.returned (.bool d.dn)/\Below w.heap.size w w':=by
 obtain⟨v0,v1,h⟩:=h;exact yQ g B d.dn d.lf _ _ w h
theorem oG (g B:Nat) (d:Dk) (w:World) (h:cT w B g d):
 Calls Tryz.prog 21 #[.pointer (some ⟨g,0,none⟩)] w fun r w'=>r=.returned (.bool false)/\Below w.heap.size w w':=by
 obtain⟨v0,v1,h⟩:=h;exact dW g w h.c0
theorem AN (g B:Nat) (d:Dk) (w:World) (h:cT w B g d) (hd:iV d):
 Calls Tryz.prog 18 #[.pointer (some ⟨g,0,none⟩)] w fun r w'=>(∃g2,r=.returned (.pointer (some ⟨g2,0,none⟩))/\cT w' w.heap.size g2 d)/\Below w.heap.size w w':=by
 obtain⟨v0,v1,h⟩:=h;refine(zg g B d.dn d.lf _ _ w h hd.n0 hd.n1).mono ?_;rintro r w1 ⟨⟨g2,u0,u1,rfl,h1⟩,hb⟩;exact⟨⟨g2,rfl,⟨u0,u1,h1⟩⟩,hb⟩
def Dk.new:Dk:=⟨false,0,⟨[],0⟩,⟨[],0⟩⟩
theorem xq (w:World):Calls Tryz.prog 6 #[] w fun r w'=>r=.returned (.pointer (some ⟨w.heap.size,0,none⟩))/\cT w' w.heap.size w.heap.size Dk.new/\Below w.heap.size w w':=by
 refine(Bl w).mono ?_;rintro r w1 ⟨rfl,h1,hb⟩;exact⟨rfl,⟨_,_,h1⟩,hb⟩
end Go.Proofs.YtcclpdfmmdonpaaGreat
