/- Texts of the seat Yteanlcefdoigcaa, turned to this one by wip/port.py: WideX DiskM DiskX DiskY DiskZ DiskA DiskC. -/
import Derived.Test.YtcclpdfmmdonpaaGreatTDec
import Derived.Deep.Cut
namespace Go.Proofs.YtcclpdfmmdonpaaGreat
set_option maxRecDepth 100000
open Go.RowKit
structure Fr (F:Nat->Prop) (W W':World):Prop where
 os:W'.os=W.os
 tape:W'.tape=W.tape
 output:W'.output=W.output
 size:W.heap.size<=W'.heap.size
 block:∀k,k<W.heap.size->¬F k->W'.heap[k]? =W.heap[k]?
theorem Fr.refl (F:Nat->Prop) (W:World):Fr F W W:=⟨rfl,rfl,rfl,Nat.le_refl _,fun _ _ _=>rfl⟩
theorem Fr.trans {F G:Nat->Prop} {W W' W'':World} (h:Fr F W W') (h2:Fr G W' W'') (hG:∀k,k<W.heap.size->G k->F k):Fr F W W'':=
 ⟨h2.os.trans h.os,h2.tape.trans h.tape,h2.output.trans h.output,Nat.le_trans h.size h2.size,fun k hk hF=>(h2.block k (Nat.lt_of_lt_of_le hk h.size) (fun g=>hF (hG k hk g))).trans (h.block k hk hF)⟩
theorem Fr.mono {F G:Nat->Prop} {W W':World} (h:Fr F W W') (hF:∀k,k<W.heap.size->F k->G k):Fr G W W':=
 ⟨h.os,h.tape,h.output,h.size,fun k hk hn=>h.block k hk (fun g=>hn (hF k hk g))⟩
theorem Fr.of_below {F:Nat->Prop} {W W':World} (h:Below W.heap.size W W'):Fr F W W':=⟨h.os,h.tape,h.output,h.size,fun k hk _=>h.block k hk⟩
theorem Fr.below {F:Nat->Prop} {B:Nat} {W W':World} (h:Fr F W W') (hF:∀k,F k->B<=k) (hB:B<=W.heap.size):Below B W W':=
 ⟨h.os,h.tape,h.output,h.size,fun k hk=>h.block k (by omega) (fun g=>by have:=hF k g;omega)⟩
theorem Fr.grown {F:Nat->Prop} {W W':World} {row:Option Nat} (h:W.grownBy W' row) (hr:∀k,row=some k->F k):Fr F W W':=
 ⟨h.os,h.tape,h.output,h.size,fun k hk hn=>h.block k hk (fun e=>hn (hr k e.symm))⟩
theorem Fr.set {F:Nat->Prop} {W:World} {g j:Nat} {v:Value} (hF:F g):Fr F W (W.setCell ⟨g,j,none⟩ v):=by
 have hb:=(Below.refl 0 W).setCell (p:=⟨g,j,none⟩) (Nat.zero_le _) v;exact⟨hb.os,hb.tape,hb.output,hb.size,fun k _ hn=>Below.heap_setCell W ⟨g,j,none⟩ v k (fun e=>hn (by have h1:k=g:=e;rw[h1];exact hF))⟩
theorem Fr.step {F:Nat->Prop} {W W' W'':World} (h:Fr F W W') (h2:Below W'.heap.size W' W''):Fr F W W'':=
 h.trans (G:=fun _=>False) (Fr.of_below h2) (fun _ _ h=>h.elim)
structure Fl where
 v:Value
 b:List Nat
 s:Nat
structure iG (W:World) (B g t:Nat) (C:Array Value) (f0 f1:Fl):Prop where
 hg:W.heap[g]? =some (.cells C t)
 hB:B<=g
 o0:W.ownsRow B 5 1 f0.v f0.b.length (cg f0.b)
 o1:W.ownsRow B 5 1 f1.v f1.b.length (cg f1.b)
 n0:f0.v.ownBlock≠some g
 n1:f1.v.ownBlock≠some g
 n01:∀k,f0.v.ownBlock=some k->f1.v.ownBlock≠some k
def iS (g:Nat) (f0 f1:Fl) (k:Nat):Prop:=k=g∨f0.v.ownBlock=some k∨f1.v.ownBlock=some k
section
variable {W W':World} {B g t:Nat} {C:Array Value} {f0 f1:Fl}
theorem iG.lt (h:iG W B g t C f0 f1):g<W.heap.size:=(Array.getElem?_eq_some_iff.1 h.hg).1
theorem iG.foot_lt (h:iG W B g t C f0 f1):∀k,iS g f0 f1 k->k<W.heap.size:=by
 rintro k (rfl|hk|hk)
 ·exact h.lt
 ·exact(h.o0.lt k hk).2
 ·exact(h.o1.lt k hk).2
theorem dh {v:Value} {n:Nat} {xs:List Value} (h:W.ownsRow B 5 1 v n xs) (hb:∀k,v.ownBlock=some k->W'.heap[k]? =W.heap[k]?):W'.ownsRow B 5 1 v n xs:=by
 obtain⟨h1,h2⟩:=h;refine⟨h1,h2.imp id ?_⟩;rintro⟨k,cap,cur,rfl,h3,h4,h5⟩;exact⟨k,cap,cur,rfl,h3,by rw[hb k rfl];exact h4,h5⟩
theorem iG.frame {F:Nat->Prop} (h:iG W B g t C f0 f1) (hf:Fr F W W') (hF:∀k,iS g f0 f1 k->¬F k):iG W' B g t C f0 f1:=
 ⟨(hf.block g h.lt (hF g (.inl rfl))).trans h.hg,h.hB,dh h.o0 (fun k hk=>hf.block k (h.o0.lt k hk).2 (hF k (.inr (.inl hk)))),dh h.o1 (fun k hk=>hf.block k (h.o1.lt k hk).2 (hF k (.inr (.inr hk)))),h.n0,h.n1,h.n01⟩
theorem iG.still (h:iG W B g t C f0 f1) (hb:Below W.heap.size W W'):iG W' B g t C f0 f1:=h.frame (Fr.of_below (F:=fun _=>False) hb) (fun _ _ h=>h)
theorem iG.set (h:iG W B g t C f0 f1) (j:Nat) (u:Value):iG (W.setCell ⟨g,j,none⟩ u) B g t (C.setIfInBounds j u) f0 f1:=by
 have hn:∀k,k≠g->(W.setCell ⟨g,j,none⟩ u).heap[k]? =W.heap[k]? :=fun k hk=>Below.heap_setCell W ⟨g,j,none⟩ u k hk
 exact⟨heap_setCell h.hg u,h.hB,dh h.o0 (fun k hk=>hn k (fun e=>h.n0 (by rw[hk,e]))),dh h.o1 (fun k hk=>hn k (fun e=>h.n1 (by rw[hk,e]))),h.n0,h.n1,h.n01⟩
end
def GT (dn:Bool) (lf:Int) (f0 f1:Fl):Array Value:=#[.bool true,.bool dn,.int .i64 lf,f0.v,.int .i64 (f0.s:Int),f1.v,.int .i64 (f1.s:Int)]
def DX (W:World) (B g:Nat) (dn:Bool) (lf:Int) (f0 f1:Fl):Prop:=iG W B g 68 (GT dn lf f0 f1) f0 f1
open Go.RowKit
theorem dW (g:Nat) (w:World) (h:w.cell? ⟨g,0,none⟩=some (.bool true)):Calls Tryz.prog 21 #[.pointer (some ⟨g,0,none⟩)] w fun r w'=>r=.returned (.bool false)/\Below w.heap.size w w':=by
 go_enter Tryz.func21,Tryz.ntmps21;go_wp2_with fail;go_ret;exact⟨rfl,Below.refl _ _⟩
section
variable {w:World} {B g:Nat} {dn:Bool} {lf:Int} {f0 f1:Fl}
theorem DX.c0 (h:DX w B g dn lf f0 f1):w.cell? ⟨g,0,none⟩=some (.bool true):=(af (j:=0) h.hg).trans rfl
theorem DX.c1 (h:DX w B g dn lf f0 f1):w.cell? ⟨g,1,none⟩=some (.bool dn):=(af (j:=1) h.hg).trans rfl
theorem DX.c2 (h:DX w B g dn lf f0 f1):w.cell? ⟨g,2,none⟩=some (.int .i64 lf):=(af (j:=2) h.hg).trans rfl
theorem DX.c3 (h:DX w B g dn lf f0 f1):w.cell? ⟨g,3,none⟩=some f0.v:=(af (j:=3) h.hg).trans rfl
theorem DX.c4 (h:DX w B g dn lf f0 f1):w.cell? ⟨g,4,none⟩=some (.int .i64 (f0.s:Int)):=(af (j:=4) h.hg).trans rfl
theorem DX.c5 (h:DX w B g dn lf f0 f1):w.cell? ⟨g,5,none⟩=some f1.v:=(af (j:=5) h.hg).trans rfl
theorem DX.c6 (h:DX w B g dn lf f0 f1):w.cell? ⟨g,6,none⟩=some (.int .i64 (f1.s:Int)):=(af (j:=6) h.hg).trans rfl
end
theorem DX.still {w w':World} {B g:Nat} {dn:Bool} {lf:Int} {f0 f1:Fl} (h:DX w B g dn lf f0 f1) (hb:Below w.heap.size w w'):DX w' B g dn lf f0 f1:=iG.still h hb
def cW (i:Int) (dn:Bool):Int:=if i<0∨2<=i then 2 else if dn=true then 82 else 0
theorem iI (g B:Nat) (dn:Bool) (lf i:Int) (f0 f1:Fl) (w:World) (h:DX w B g dn lf f0 f1):
 Calls Tryz.prog 76 #[.pointer (some ⟨g,0,none⟩),.int .i64 i] w fun r w'=>r=.returned (.int .i64 (cW i dn))/\Below w.heap.size w w':=by
 have H:=ae h;clear h;by_cases h1:i<0
 ·have HV:=ae (show cW i dn=2 by unfold cW;rw[if_pos (.inl h1)]);have d1:decide (i<0)=true:=decide_eq_true h1;go_enter Tryz.func76,Tryz.ntmps76;go_wp2_with fail;refine(dW g _ H.out.c0).mono ?_;rintro r w1 ⟨rfl,hb⟩;go_wp2_with fail;go_ret;exact⟨by rw[HV.out];rfl,hb⟩
 have d1:decide (i<0)=false:=decide_eq_false h1;by_cases h2:2<=i
 ·have HV:=ae (show cW i dn=2 by unfold cW;rw[if_pos (.inr h2)]);have d2:decide (2<=i)=true:=decide_eq_true h2;go_enter Tryz.func76,Tryz.ntmps76;go_wp2_with fail;refine(dW g _ H.out.c0).mono ?_;rintro r w1 ⟨rfl,hb⟩;go_wp2_with fail;go_ret;exact⟨by rw[HV.out];rfl,hb⟩
 have d2:decide (2<=i)=false:=decide_eq_false h2;have HV:=ae (show cW i dn=if dn=true then 82 else 0 by unfold cW;rw[if_neg (by omega)])
 cases dn
 all_goals
  go_enter Tryz.func76,Tryz.ntmps76;go_wp2_with fail;refine(dW g _ H.out.c0).mono ?_;rintro r w1 ⟨rfl,hb⟩;have q1:=(H.out.still hb).c1;go_wp2_with fail;go_ret;exact⟨by rw[HV.out];rfl,hb⟩
theorem yQ (g B:Nat) (dn:Bool) (lf:Int) (f0 f1:Fl) (w:World) (h:DX w B g dn lf f0 f1):
 Calls Tryz.prog 32 #[.pointer (some ⟨g,0,none⟩)] w fun r w'=>r=.returned (.bool dn)/\Below w.heap.size w w':=by
 have H:=ae h;clear h;go_enter Tryz.func32,Tryz.ntmps32;go_wp2_with fail;refine(dW g _ H.out.c0).mono ?_;rintro r w1 ⟨rfl,hb⟩;have q1:=(H.out.still hb).c1;go_wp2_with fail;go_ret;exact⟨rfl,hb⟩
theorem wh (g B:Nat) (lf:Int) (f0 f1:Fl) (w:World) (h:DX w B g false lf f0 f1) (h0:0<=lf) (hb:lf<=9223372036854775807):
 Calls Tryz.prog 106 #[.pointer (some ⟨g,0,none⟩)] w fun r w'=>r=.returned (.bool (!decide (lf=1)))/\DX w' B g (decide (lf=1)) (if 0<lf then lf-1 else lf) f0 f1/\Fr (fun k=>k=g) w w':=by
 have H:=ae h;have c2:=h.c2;clear h;by_cases hp:0<lf
 ·have d0:decide (0<lf)=true:=decide_eq_true hp;have HI:=ae (show(if 0<lf then lf-1 else lf)=lf-1 from if_pos hp);rw[HI.out];by_cases h1:lf=1
  ·have e1:(lf-1 == 0)=true:=by simp;omega
   rw[show decide (lf=1)=true from decide_eq_true h1];clear h1;have z2:w.frozen? ⟨g,2,none⟩=false:=by have hh:=(H.out).hg;simp[World.frozen?,hh]
   go_enter Tryz.func106,Tryz.ntmps106;go_upto_region 3 with fail;clear c2 z2;refine au (fun W1 hW1=>?_);have D1:=ae (show iG W1 B g 68 #[.bool true,.bool false,.int .i64 (lf-1),f0.v,.int .i64 (f0.s:Int),f1.v,.int .i64 (f1.s:Int)] f0 f1 by rw[hW1];exact H.out.set 2 (.int .i64 (lf-1)));have F1:=ae (show Fr (fun k=>k=g) w W1 by rw[hW1];exact Fr.set rfl);clear hW1;have q2:W1.cell? ⟨g,2,none⟩=some (.int .i64 (lf-1)):=(af (j:=2) D1.out.hg).trans rfl;have q1:W1.cell? ⟨g,1,none⟩=some (.bool false):=(af (j:=1) D1.out.hg).trans rfl;have z1:W1.frozen? ⟨g,1,none⟩=false:=by have hh:=(D1.out).hg;simp[World.frozen?,hh]
   go_upto_region 4 with fail;clear q2 q1 z1;refine au (fun W2 hW2=>?_);have D2:=ae (show iG W2 B g 68 #[.bool true,.bool true,.int .i64 (lf-1),f0.v,.int .i64 (f0.s:Int),f1.v,.int .i64 (f1.s:Int)] f0 f1 by rw[hW2];exact D1.out.set 1 (.bool true));have F2:=ae (show Fr (fun k=>k=g) w W2 by rw[hW2];exact F1.out.trans (G:=fun k=>k=g) (Fr.set rfl) (fun _ _ h=>h));clear hW2;have p1:W2.cell? ⟨g,1,none⟩=some (.bool true):=(af (j:=1) D2.out.hg).trans rfl;go_wp2_with fail;go_ret;exact⟨rfl,D2.out,F2.out⟩
  ·have e1:(lf-1 == 0)=false:=by rw[beq_eq_false_iff_ne];omega
   rw[show decide (lf=1)=false from decide_eq_false h1];clear h1;have z2:w.frozen? ⟨g,2,none⟩=false:=by have hh:=(H.out).hg;simp[World.frozen?,hh]
   go_enter Tryz.func106,Tryz.ntmps106;go_upto_region 3 with fail;clear c2 z2;refine au (fun W1 hW1=>?_);have D1:=ae (show iG W1 B g 68 #[.bool true,.bool false,.int .i64 (lf-1),f0.v,.int .i64 (f0.s:Int),f1.v,.int .i64 (f1.s:Int)] f0 f1 by rw[hW1];exact H.out.set 2 (.int .i64 (lf-1)));have F1:=ae (show Fr (fun k=>k=g) w W1 by rw[hW1];exact Fr.set rfl);clear hW1;have q2:W1.cell? ⟨g,2,none⟩=some (.int .i64 (lf-1)):=(af (j:=2) D1.out.hg).trans rfl;have q1:W1.cell? ⟨g,1,none⟩=some (.bool false):=(af (j:=1) D1.out.hg).trans rfl;have z1:W1.frozen? ⟨g,1,none⟩=false:=by have hh:=(D1.out).hg;simp[World.frozen?,hh]
   go_upto_region 4 with fail;clear q2 q1 z1;refine au (fun W2 hW2=>?_);have D2:=ae (show iG W2 B g 68 #[.bool true,.bool false,.int .i64 (lf-1),f0.v,.int .i64 (f0.s:Int),f1.v,.int .i64 (f1.s:Int)] f0 f1 by rw[hW2];exact D1.out.set 1 (.bool false));have F2:=ae (show Fr (fun k=>k=g) w W2 by rw[hW2];exact F1.out.trans (G:=fun k=>k=g) (Fr.set rfl) (fun _ _ h=>h));clear hW2;have p1:W2.cell? ⟨g,1,none⟩=some (.bool false):=(af (j:=1) D2.out.hg).trans rfl;go_wp2_with fail;go_ret;exact⟨rfl,D2.out,F2.out⟩
 ·obtain rfl:lf=0:=by omega
  have c1:=H.out.c1;go_enter Tryz.func106,Tryz.ntmps106;go_wp2_with fail;go_ret;exact⟨rfl,H.out,Fr.refl _ _⟩
open Go.RowKit
def mW (lf:Int):Int:=if 0<lf then lf-1 else lf
theorem kq (g B:Nat) (dn:Bool) (lf i:Int) (f0 f1:Fl) (w:World) (h:DX w B g dn lf f0 f1) (hr:cW i dn≠0):
 Calls Tryz.prog 82 #[.pointer (some ⟨g,0,none⟩),.int .i64 i] w fun r w'=>r=.returned (.tuple #[.pointer none,.int .i64 (cW i dn)])/\Below w.heap.size w w':=by
 have H:=ae h;clear h;generalize hv:cW i dn=e at*;have HC:=ae (fun W (h:DX W B g dn lf f0 f1)=>show Calls Tryz.prog 76 #[.pointer (some ⟨g,0,none⟩),.int .i64 i] W fun r w'=>r=.returned (.int .i64 e)/\Below W.heap.size W w' from hv▸iI g B dn lf i f0 f1 W h);clear hv;have d1:(e != 0)=true:=by simpa using hr
 go_enter Tryz.func82,Tryz.ntmps82;go_wp2_with fail;refine(HC.out _ H.out).mono ?_;rintro r w1 ⟨rfl,hb⟩;go_wp2_with fail;go_ret2;exact⟨rfl,hb⟩
theorem cB (g B:Nat) (lf i:Int) (o:Nat) (f0 f1:Fl) (w:World) (h:DX w B g false lf f0 f1) (h0:0<=lf) (hl:lf<=9223372036854775807) (hio:(i=0/\o=3)∨(i=1/\o=5)):
 Calls Tryz.prog 82 #[.pointer (some ⟨g,0,none⟩),.int .i64 i] w fun r w'=>r=.returned (.tuple #[if lf=1 then .pointer none else .pointer (some ⟨g,o,none⟩),.int .i64 (if lf=1 then 82 else 0)])/\DX w' B g (decide (lf=1)) (mW lf) f0 f1/\Fr (fun k=>k=g) w w':=by
 have HC:=ae (iI g B false lf i f0 f1 w h);have HS:=ae (fun W (hb:Below w.heap.size w W)=>wh g B lf f0 f1 W (h.still hb) h0 hl);have hv:cW i false=0:=by unfold cW;rw[if_neg (by omega)];rfl
 rw[hv] at HC;clear hv h;by_cases h1:lf=1
 ·rw[if_pos h1,if_pos h1];have HD:=ae (show decide (lf=1)=true from decide_eq_true h1)
  rcases hio with⟨rfl,rfl⟩ | ⟨rfl,rfl⟩
  all_goals
   clear h1;go_enter Tryz.func82,Tryz.ntmps82;go_wp2_with fail;refine HC.out.mono ?_;rintro r w1 ⟨rfl,hb⟩;go_wp2_with fail;refine(HS.out _ hb).mono ?_;rintro r w2 ⟨rfl,hd,hf⟩;rw[HD.out];have Nb:=ae hd;have HF:=ae (show Fr (fun k=>k=g) w w2 from(Fr.of_below hb).trans (G:=fun k=>k=g) hf (fun _ _ h=>h));clear hd hf hb;go_wp2_with fail;go_ret2;exact⟨rfl,Nb.out,HF.out⟩
 ·rw[if_neg h1,if_neg h1];have HD:=ae (show decide (lf=1)=false from decide_eq_false h1)
  rcases hio with⟨rfl,rfl⟩ | ⟨rfl,rfl⟩
  all_goals
   clear h1;go_enter Tryz.func82,Tryz.ntmps82;go_wp2_with fail;refine HC.out.mono ?_;rintro r w1 ⟨rfl,hb⟩;go_wp2_with fail;refine(HS.out _ hb).mono ?_;rintro r w2 ⟨rfl,hd,hf⟩;rw[HD.out];have Nb:=ae hd;have HF:=ae (show Fr (fun k=>k=g) w w2 from(Fr.of_below hb).trans (G:=fun k=>k=g) hf (fun _ _ h=>h));clear hd hf hb;go_wp2_with fail;go_ret2;exact⟨rfl,Nb.out,HF.out⟩
open Go.RowKit
def mZ (i:Int) (dn:Bool) (lf:Int):Bool:=decide (cW i dn=0) && !decide (lf=1)
def od (i:Int) (dn:Bool) (lf:Int):Int:=if cW i dn≠0 then cW i dn else if lf=1 then 82 else 0
def zM (i:Int) (dn:Bool) (lf:Int):Bool:=if cW i dn≠0 then dn else decide (lf=1)
def zN (i:Int) (dn:Bool) (lf:Int):Int:=if cW i dn≠0 then lf else mW lf
def C7 (i:Int) (dn:Bool) (lf:Int) (f f':Fl):Fl:=if mZ i dn lf=true/\i=0 then f' else f
def CU (i:Int) (dn:Bool) (lf:Int) (f f':Fl):Fl:=if mZ i dn lf=true/\i=1 then f' else f
section
variable {i lf:Int} {dn:Bool} {f f':Fl}
theorem iy (h:cW i dn=0):dn=false/\(i=0∨i=1):=by
 unfold cW at h
 split at h
 ·omega
 ·split at h
  ·omega
  ·rename_i h1 h2
   exact⟨by simpa using h2,by omega⟩
theorem Cf (h:cW i dn≠0):mZ i dn lf=false:=by simp[mZ,h]
theorem rI (h:mZ i dn lf=false):C7 i dn lf f f'=f:=by simp[C7,h]
theorem re (h:mZ i dn lf=false):CU i dn lf f f'=f:=by simp[CU,h]
end
theorem bt {W:World} {B n:Nat} {v:Value} {xs:List Value} (h:W.ownsRow B 5 1 v n xs):∃a c,v=.slice a n c:=by
 obtain⟨_,h| ⟨g,cap,cur,h,_⟩⟩:=h
 ·obtain⟨rfl,rfl⟩:=h;exact⟨_,_,rfl⟩
 ·exact⟨_,_,h⟩
theorem iG.refile {W:World} {B g t:Nat} {C:Array Value} {f0 f1 f0' f1':Fl} (h:iG W B g t C f0 f1) (h0:f0'.v=f0.v:=by rfl) (h1:f0'.b=f0.b:=by rfl) (h2:f1'.v=f1.v:=by rfl) (h3:f1'.b=f1.b:=by rfl):iG W B g t C f0' f1':=
 ⟨h.hg,h.hB,by rw[h0,h1];exact h.o0,by rw[h2,h3];exact h.o1,by rw[h0];exact h.n0,by rw[h2];exact h.n1,by rw[h0,h2];exact h.n01⟩
theorem zb (g B:Nat) (dn:Bool) (lf i:Int) (f0 f1:Fl) (w:World) (h:DX w B g dn lf f0 f1) (h0:0<=lf) (hl:lf<=9223372036854775807):
 Calls Tryz.prog 81 #[.pointer (some ⟨g,0,none⟩),.int .i64 i] w fun r w'=>r=.returned (.int .i64 (od i dn lf))/\DX w' B g (zM i dn lf) (zN i dn lf) (C7 i dn lf f0 ⟨f0.v,f0.b,f0.b.length⟩) (CU i dn lf f1 ⟨f1.v,f1.b,f1.b.length⟩)/\Fr (fun k=>k=g) w w':=by
 by_cases hr:cW i dn≠0
 ·have hok:=Cf (lf:=lf) hr;rw[rI hok,re hok,show od i dn lf=cW i dn from if_pos hr,show zM i dn lf=dn from if_pos hr,show zN i dn lf=lf from if_pos hr];have H:=ae h;have HC:=ae (kq g B dn lf i f0 f1 w h hr);clear h hok;generalize cW i dn=e at*;have d1:(e == 0)=false:=by simpa using hr
  go_enter Tryz.func81,Tryz.ntmps81;go_wp2_with fail;refine HC.out.mono ?_;rintro r w1 ⟨rfl,hb⟩;go_wp2_with fail;go_ret;exact⟨rfl,H.out.still hb,Fr.of_below hb⟩
 replace hr:cW i dn=0:=by simpa using hr
 obtain⟨rfl,hi⟩:=iy hr;rw[show od i false lf=if lf=1 then 82 else 0 from if_neg (by simpa using hr),show zM i false lf=decide (lf=1) from if_neg (by simpa using hr),show zN i false lf=mW lf from if_neg (by simpa using hr)];by_cases h1:lf=1
 ·have hok:mZ i false lf=false:=by simp[mZ,h1]
  rw[rI hok,re hok,if_pos h1]
  rcases hi with rfl|rfl
  ·have HC:=ae (cB g B lf 0 3 f0 f1 w h h0 hl (.inl ⟨rfl,rfl⟩));rw[if_pos h1,if_pos h1] at HC;clear h h1 hok hr;go_enter Tryz.func81,Tryz.ntmps81;go_wp2_with fail;refine HC.out.mono ?_;rintro r w1 ⟨rfl,hd,hf⟩;have HD:=ae hd;have HF:=ae hf;clear hd hf;go_wp2_with fail;go_ret;exact⟨rfl,HD.out,HF.out.mono (fun k _ hk=>hk)⟩
  ·have HC:=ae (cB g B lf 1 5 f0 f1 w h h0 hl (.inr ⟨rfl,rfl⟩));rw[if_pos h1,if_pos h1] at HC;clear h h1 hok hr;go_enter Tryz.func81,Tryz.ntmps81;go_wp2_with fail;refine HC.out.mono ?_;rintro r w1 ⟨rfl,hd,hf⟩;have HD:=ae hd;have HF:=ae hf;clear hd hf;go_wp2_with fail;go_ret;exact⟨rfl,HD.out,HF.out.mono (fun k _ hk=>hk)⟩
 rw[if_neg h1,show decide (lf=1)=false from decide_eq_false h1];have hok:mZ i false lf=true:=by simp[mZ,h1,hr]
 rcases hi with rfl|rfl
 ·rw[show C7 0 false lf f0 ⟨f0.v,f0.b,f0.b.length⟩=⟨f0.v,f0.b,f0.b.length⟩ from if_pos ⟨hok,rfl⟩,show CU 0 false lf f1 ⟨f1.v,f1.b,f1.b.length⟩=f1 from if_neg (by rintro⟨_,h⟩;exact absurd h (by decide))];have HC:=ae (cB g B lf 0 3 f0 f1 w h h0 hl (.inl ⟨rfl,rfl⟩));rw[if_neg h1,if_neg h1,show decide (lf=1)=false from decide_eq_false h1] at HC;clear h h1 hok hr;generalize mW lf=lf2 at*;go_enter Tryz.func81,Tryz.ntmps81;go_wp2_with fail;refine HC.out.mono ?_;rintro r w1 ⟨rfl,hd,hf⟩;have HD:=ae hd;have HF:=ae hf;clear hd hf;obtain⟨v,b,s⟩:=f0;obtain⟨a,c,hv⟩:=bt HD.out.o0;obtain rfl:v=.slice a b.length c:=hv;have c0:w1.cell? ⟨g,3,none⟩=some (.slice a b.length c):=HD.out.c3;have z1:w1.frozen? ⟨g,4,none⟩=false:=by have hh:=(HD.out).hg;simp[World.frozen?,hh]
  have z0:∃x,w1.cell? ⟨g,4,none⟩=some x:=⟨_,HD.out.c4⟩;obtain⟨x,z0⟩:=z0;go_upto_region 4 with fail;clear c0 z1 z0;refine au (fun W1 hW1=>?_);have D1:=ae (show DX W1 B g false lf2 ⟨.slice a b.length c,b,b.length⟩ f1 by rw[hW1];exact(HD.out.set 4 (.int .i64 (b.length:Int)):iG _ B g 68 _ _ _).refile);have F1:=ae (show Fr (fun k=>k=g) w W1 by rw[hW1];exact HF.out.trans (G:=fun k=>k=g) (Fr.set rfl) (fun _ _ h=>h));clear hW1;go_wp2_with fail;go_ret;exact⟨rfl,D1.out,F1.out⟩
 ·rw[show CU 1 false lf f1 ⟨f1.v,f1.b,f1.b.length⟩=⟨f1.v,f1.b,f1.b.length⟩ from if_pos ⟨hok,rfl⟩,show C7 1 false lf f0 ⟨f0.v,f0.b,f0.b.length⟩=f0 from if_neg (by rintro⟨_,h⟩;exact absurd h (by decide))];have HC:=ae (cB g B lf 1 5 f0 f1 w h h0 hl (.inr ⟨rfl,rfl⟩));rw[if_neg h1,if_neg h1,show decide (lf=1)=false from decide_eq_false h1] at HC;clear h h1 hok hr;generalize mW lf=lf2 at*;go_enter Tryz.func81,Tryz.ntmps81;go_wp2_with fail;refine HC.out.mono ?_;rintro r w1 ⟨rfl,hd,hf⟩;have HD:=ae hd;have HF:=ae hf;clear hd hf;obtain⟨v,b,s⟩:=f1;obtain⟨a,c,hv⟩:=bt HD.out.o1;obtain rfl:v=.slice a b.length c:=hv;have c0:w1.cell? ⟨g,5,none⟩=some (.slice a b.length c):=HD.out.c5;have z1:w1.frozen? ⟨g,6,none⟩=false:=by have hh:=(HD.out).hg;simp[World.frozen?,hh]
  have z0:∃x,w1.cell? ⟨g,6,none⟩=some x:=⟨_,HD.out.c6⟩;obtain⟨x,z0⟩:=z0;go_upto_region 4 with fail;clear c0 z1 z0;refine au (fun W1 hW1=>?_);have D1:=ae (show DX W1 B g false lf2 f0 ⟨.slice a b.length c,b,b.length⟩ by rw[hW1];exact(HD.out.set 6 (.int .i64 (b.length:Int)):iG _ B g 68 _ _ _).refile);have F1:=ae (show Fr (fun k=>k=g) w W1 by rw[hW1];exact HF.out.trans (G:=fun k=>k=g) (Fr.set rfl) (fun _ _ h=>h));clear hW1;go_wp2_with fail;go_ret;exact⟨rfl,D1.out,F1.out⟩
theorem iG.swap0 {W:World} {B g t s':Nat} {C:Array Value} {f0 f1:Fl} {v':Value} {b':List Nat} (h:iG W B g t C f0 f1) (ho:W.ownsRow B 5 1 v' b'.length (cg b')) (hn:v'.ownBlock≠some g) (hd:∀k,v'.ownBlock=some k->f1.v.ownBlock≠some k):iG W B g t C ⟨v',b',s'⟩ f1:=
 ⟨h.hg,h.hB,ho,h.o1,hn,h.n1,hd⟩
theorem iG.swap1 {W:World} {B g t s':Nat} {C:Array Value} {f0 f1:Fl} {v':Value} {b':List Nat} (h:iG W B g t C f0 f1) (ho:W.ownsRow B 5 1 v' b'.length (cg b')) (hn:v'.ownBlock≠some g) (hd:∀k,f0.v.ownBlock=some k->v'.ownBlock≠some k):iG W B g t C f0 ⟨v',b',s'⟩:=
 ⟨h.hg,h.hB,h.o0,ho,h.n0,hn,hd⟩
theorem kX (W:World) (B:Nat):W.ownsRow B 5 1 (.slice none 0 0) ([]:List Nat).length (cg []):=W.ownsRow_nil B 5 1
theorem uC (g B:Nat) (dn:Bool) (lf i:Int) (f0 f1:Fl) (w:World) (h:DX w B g dn lf f0 f1) (h0:0<=lf) (hl:lf<=9223372036854775807):
 Calls Tryz.prog 55 #[.pointer (some ⟨g,0,none⟩),.int .i64 i] w fun r w'=>r=.returned (.int .i64 (od i dn lf))/\DX w' B g (zM i dn lf) (zN i dn lf) (C7 i dn lf f0 ⟨.slice none 0 0,[],0⟩) (CU i dn lf f1 ⟨.slice none 0 0,[],0⟩)/\Fr (fun k=>k=g) w w':=by
 by_cases hr:cW i dn≠0
 ·have hok:=Cf (lf:=lf) hr;rw[rI hok,re hok,show od i dn lf=cW i dn from if_pos hr,show zM i dn lf=dn from if_pos hr,show zN i dn lf=lf from if_pos hr];have H:=ae h;have HC:=ae (kq g B dn lf i f0 f1 w h hr);clear h hok;generalize cW i dn=e at*;have d1:(e == 0)=false:=by simpa using hr
  go_enter Tryz.func55,Tryz.ntmps55;go_wp2_with fail;refine HC.out.mono ?_;rintro r w1 ⟨rfl,hb⟩;go_wp2_with fail;go_ret;exact⟨rfl,H.out.still hb,Fr.of_below hb⟩
 replace hr:cW i dn=0:=by simpa using hr
 obtain⟨rfl,hi⟩:=iy hr;rw[show od i false lf=if lf=1 then 82 else 0 from if_neg (by simpa using hr),show zM i false lf=decide (lf=1) from if_neg (by simpa using hr),show zN i false lf=mW lf from if_neg (by simpa using hr)];by_cases h1:lf=1
 ·have hok:mZ i false lf=false:=by simp[mZ,h1]
  rw[rI hok,re hok,if_pos h1]
  rcases hi with rfl|rfl
  ·have HC:=ae (cB g B lf 0 3 f0 f1 w h h0 hl (.inl ⟨rfl,rfl⟩));rw[if_pos h1,if_pos h1] at HC;clear h h1 hok hr;go_enter Tryz.func55,Tryz.ntmps55;go_wp2_with fail;refine HC.out.mono ?_;rintro r w1 ⟨rfl,hd,hf⟩;have HD:=ae hd;have HF:=ae hf;clear hd hf;go_wp2_with fail;go_ret;exact⟨rfl,HD.out,HF.out.mono (fun k _ hk=>hk)⟩
  ·have HC:=ae (cB g B lf 1 5 f0 f1 w h h0 hl (.inr ⟨rfl,rfl⟩));rw[if_pos h1,if_pos h1] at HC;clear h h1 hok hr;go_enter Tryz.func55,Tryz.ntmps55;go_wp2_with fail;refine HC.out.mono ?_;rintro r w1 ⟨rfl,hd,hf⟩;have HD:=ae hd;have HF:=ae hf;clear hd hf;go_wp2_with fail;go_ret;exact⟨rfl,HD.out,HF.out.mono (fun k _ hk=>hk)⟩
 rw[if_neg h1,show decide (lf=1)=false from decide_eq_false h1];have hok:mZ i false lf=true:=by simp[mZ,h1,hr]
 rcases hi with rfl|rfl
 ·rw[show C7 0 false lf f0 ⟨.slice none 0 0,[],0⟩=⟨.slice none 0 0,[],0⟩ from if_pos ⟨hok,rfl⟩,show CU 0 false lf f1 ⟨.slice none 0 0,[],0⟩=f1 from if_neg (by rintro⟨_,h⟩;exact absurd h (by decide))];have HC:=ae (cB g B lf 0 3 f0 f1 w h h0 hl (.inl ⟨rfl,rfl⟩));rw[if_neg h1,if_neg h1,show decide (lf=1)=false from decide_eq_false h1] at HC;clear h h1 hok hr;generalize mW lf=lf2 at*;go_enter Tryz.func55,Tryz.ntmps55;go_wp2_with fail;refine HC.out.mono ?_;rintro r w1 ⟨rfl,hd,hf⟩;have HD:=ae hd;have HF:=ae hf;clear hd hf;obtain⟨v,b,s⟩:=f0;have c0:w1.cell? ⟨g,3,none⟩=some v:=HD.out.c3;have c1:w1.cell? ⟨g,4,none⟩=some (.int .i64 (s:Int)):=HD.out.c4;have z1:w1.frozen? ⟨g,4,none⟩=false:=by have hh:=(HD.out).hg;simp[World.frozen?,hh]
  have z0:w1.frozen? ⟨g,3,none⟩=false:=by have hh:=(HD.out).hg;simp[World.frozen?,hh]
  go_upto_region 4 with fail;clear c0 z1 z0 c1;refine au (fun W1 hW1=>?_);have D1:=ae (show DX W1 B g false lf2 ⟨.slice none 0 0,[],0⟩ f1 by rw[hW1];exact((HD.out.set 3 (.slice none 0 0)).set 4 (.int .i64 0)).swap0 (kX _ _) (by simp[Value.ownBlock]) (by simp[Value.ownBlock]));have F1:=ae (show Fr (fun k=>k=g) w W1 by rw[hW1];exact(HF.out.trans (G:=fun k=>k=g) (Fr.set rfl) (fun _ _ h=>h)).trans (G:=fun k=>k=g) (Fr.set rfl) (fun _ _ h=>h));clear hW1;go_wp2_with fail;go_ret;exact⟨rfl,D1.out,F1.out⟩
 ·rw[show CU 1 false lf f1 ⟨.slice none 0 0,[],0⟩=⟨.slice none 0 0,[],0⟩ from if_pos ⟨hok,rfl⟩,show C7 1 false lf f0 ⟨.slice none 0 0,[],0⟩=f0 from if_neg (by rintro⟨_,h⟩;exact absurd h (by decide))];have HC:=ae (cB g B lf 1 5 f0 f1 w h h0 hl (.inr ⟨rfl,rfl⟩));rw[if_neg h1,if_neg h1,show decide (lf=1)=false from decide_eq_false h1] at HC;clear h h1 hok hr;generalize mW lf=lf2 at*;go_enter Tryz.func55,Tryz.ntmps55;go_wp2_with fail;refine HC.out.mono ?_;rintro r w1 ⟨rfl,hd,hf⟩;have HD:=ae hd;have HF:=ae hf;clear hd hf;obtain⟨v,b,s⟩:=f1;have c0:w1.cell? ⟨g,5,none⟩=some v:=HD.out.c5;have c1:w1.cell? ⟨g,6,none⟩=some (.int .i64 (s:Int)):=HD.out.c6;have z1:w1.frozen? ⟨g,6,none⟩=false:=by have hh:=(HD.out).hg;simp[World.frozen?,hh]
  have z0:w1.frozen? ⟨g,5,none⟩=false:=by have hh:=(HD.out).hg;simp[World.frozen?,hh]
  go_upto_region 4 with fail;clear c0 z1 z0 c1;refine au (fun W1 hW1=>?_);have D1:=ae (show DX W1 B g false lf2 f0 ⟨.slice none 0 0,[],0⟩ by rw[hW1];exact((HD.out.set 5 (.slice none 0 0)).set 6 (.int .i64 0)).swap1 (kX _ _) (by simp[Value.ownBlock]) (by simp[Value.ownBlock]));have F1:=ae (show Fr (fun k=>k=g) w W1 by rw[hW1];exact(HF.out.trans (G:=fun k=>k=g) (Fr.set rfl) (fun _ _ h=>h)).trans (G:=fun k=>k=g) (Fr.set rfl) (fun _ _ h=>h));clear hW1;go_wp2_with fail;go_ret;exact⟨rfl,D1.out,F1.out⟩
open Go.RowKit
def Fp (W:World) (B:Nat) (v:Value) (bs:List Nat):Prop:=(v=.slice none 0 0/\bs=[])∨∃(ad:Addr) (c:Nat),v=.slice (some ad) bs.length c/\∀j u,(cg bs)[j]? =some u->W.cell? (ad.add j)=some u/\(ad.add j).block ≠B
theorem Fp.frame {F:Nat->Prop} {W W':World} {B:Nat} {v:Value} {bs:List Nat} (h:Fp W B v bs) (hf:Fr F W W') (hF:∀k,F k->k=B):Fp W' B v bs:=by
 rcases h with h| ⟨ad,c,h1,h2⟩
 ·exact .inl h
 ·refine .inr ⟨ad,c,h1,fun j u hu=>?_⟩;obtain⟨h3,h4⟩:=h2 j u hu;have hlt:=block_lt_of_cell h3;exact⟨by rw[World.cell?_of_block (hf.block _ hlt (fun g=>by have:=hF _ g;omega))];exact h3,h4⟩
theorem sZ {g:Nat} {f0 f1 f0' f1':Fl} {n:Nat} (h0:f0'.v.ownBlock=f0.v.ownBlock∨f0'.v.ownBlock=some n) (h1:f1'.v.ownBlock=f1.v.ownBlock∨f1'.v.ownBlock=some n):∀k,k<n->iS g f0' f1' k->iS g f0 f1 k:=by
 rintro k hk (rfl|h|h)
 ·exact .inl rfl
 ·rcases h0 with h0|h0
  ·exact .inr (.inl (h0▸h))
  ·rw[h0] at h;injection h with h;omega
 ·rcases h1 with h1|h1
  ·exact .inr (.inr (h1▸h))
  ·rw[h1] at h;injection h with h;omega
def BH (w w':World) (B g:Nat) (dn:Bool) (lf i:Int) (f0 f1:Fl) (bs:List Nat):Prop:=
 ∃f0' f1':Fl,f0'.b=(if mZ i dn lf=true/\i=0 then f0.b++bs else f0.b)/\f0'.s=f0.s/\f1'.b=(if mZ i dn lf=true/\i=1 then f1.b++bs else f1.b)/\f1'.s=f1.s/\
  DX w' B g (zM i dn lf) (zN i dn lf) f0' f1'/\Fr (iS g f0 f1) w w'/\∀k,k<w.heap.size->iS g f0' f1' k->iS g f0 f1 k
theorem sq (g B:Nat) (dn:Bool) (lf i:Int) (f0 f1:Fl) (bv:Value) (bs:List Nat) (w:World) (h:DX w B g dn lf f0 f1) (h0:0<=lf) (hl:lf<=9223372036854775807) (hbs:Fp w g bv bs) (hn0:f0.b.length<=1000000) (hn1:f1.b.length<=1000000) (hnb:bs.length<=1000000) (hBw:B<=w.heap.size):
 Calls Tryz.prog 79 #[.pointer (some ⟨g,0,none⟩),.int .i64 i,bv] w fun r w'=>r=.returned (.int .i64 (od i dn lf))/\BH w w' B g dn lf i f0 f1 bs:=by
 by_cases hr:cW i dn≠0
 ·have hok:=Cf (lf:=lf) hr;have HE:=ae (fun w' (hb:Below w.heap.size w w')=>show BH w w' B g dn lf i f0 f1 bs from⟨f0,f1,by simp[hok],rfl,by simp[hok],rfl,by rw[show zM i dn lf=dn from if_pos hr,show zN i dn lf=lf from if_pos hr];exact h.still hb,Fr.of_below hb,fun _ _ h=>h⟩);rw[show od i dn lf=cW i dn from if_pos hr];have HC:=ae (kq g B dn lf i f0 f1 w h hr);clear h hok;generalize cW i dn=e at*;have d1:(e == 0)=false:=by simpa using hr
  go_enter Tryz.func79,Tryz.ntmps79;go_wp2_with fail;refine HC.out.mono ?_;rintro r w1 ⟨rfl,hb⟩;go_wp2_with fail;go_ret;exact⟨rfl,HE.out _ hb⟩
 replace hr:cW i dn=0:=by simpa using hr
 obtain⟨rfl,hi⟩:=iy hr;have hdn:zM i false lf=decide (lf=1):=if_neg (by simpa using hr);have hlf:zN i false lf=mW lf:=if_neg (by simpa using hr);rw[show od i false lf=if lf=1 then 82 else 0 from if_neg (by simpa using hr)];by_cases h1:lf=1
 ·have hok:mZ i false lf=false:=by simp[mZ,h1]
  have HE:=ae (fun w' (hd:DX w' B g (decide (lf=1)) (mW lf) f0 f1) (hf:Fr (fun k=>k=g) w w')=>show BH w w' B g false lf i f0 f1 bs from⟨f0,f1,by simp[hok],rfl,by simp[hok],rfl,by rw[hdn,hlf];exact hd,hf.mono (fun k _ hk=>.inl hk),fun _ _ h=>h⟩);rw[if_pos h1]
  rcases hi with rfl|rfl
  ·have HC:=ae (cB g B lf 0 3 f0 f1 w h h0 hl (.inl ⟨rfl,rfl⟩));rw[if_pos h1,if_pos h1] at HC;clear h h1 hok hr hdn hlf;go_enter Tryz.func79,Tryz.ntmps79;go_wp2_with fail;refine HC.out.mono ?_;rintro r w1 ⟨rfl,hd,hf⟩;have HD:=ae hd;have HF:=ae hf;clear hd hf;go_wp2_with fail;go_ret;exact⟨rfl,HE.out _ HD.out HF.out⟩
  ·have HC:=ae (cB g B lf 1 5 f0 f1 w h h0 hl (.inr ⟨rfl,rfl⟩));rw[if_pos h1,if_pos h1] at HC;clear h h1 hok hr hdn hlf;go_enter Tryz.func79,Tryz.ntmps79;go_wp2_with fail;refine HC.out.mono ?_;rintro r w1 ⟨rfl,hd,hf⟩;have HD:=ae hd;have HF:=ae hf;clear hd hf;go_wp2_with fail;go_ret;exact⟨rfl,HE.out _ HD.out HF.out⟩
 rw[if_neg h1];have hok:mZ i false lf=true:=by simp[mZ,h1,hr]
 obtain⟨i0,hi0,hz0,hz1,hz2⟩:=aF oi;have HI:=ae hi0;have HZ0:=ae hz0;have HZ1:=ae hz1;have HZ2:=ae hz2;clear hi0 hz0 hz1 hz2
 rcases hi with rfl|rfl
 ·have HE:=ae (fun w' v' (hd:DX w' B g false (mW lf) ⟨v',f0.b++bs,f0.s⟩ f1) (hf:Fr (iS g f0 f1) w w') (hn:∀k,k<w.heap.size->iS g ⟨v',f0.b++bs,f0.s⟩ f1 k->iS g f0 f1 k)=>show BH w w' B g false lf 0 f0 f1 bs from⟨⟨v',f0.b++bs,f0.s⟩,f1,by simp[hok],rfl,by simp[hok],rfl,by rw[hdn,hlf,show decide (lf=1)=false from decide_eq_false h1];exact hd,hf,hn⟩);have HC:=ae (cB g B lf 0 3 f0 f1 w h h0 hl (.inl ⟨rfl,rfl⟩));rw[if_neg h1,if_neg h1,show decide (lf=1)=false from decide_eq_false h1] at HC;have ni:=ae hbs;have HG:=ae h.hB;clear h h1 hok hr hdn hlf hbs;generalize mW lf=lf2 at*;go_enter Tryz.func79,Tryz.ntmps79;go_wp2_with fail;refine HC.out.mono ?_;rintro r w1 ⟨rfl,hd,hf⟩;have HD:=ae hd;have HF:=ae hf;have L8:=ni.out.frame hf (fun k hk=>hk);have hsz:=hf.size;clear hd hf;obtain⟨v,b,s⟩:=f0;obtain⟨a1,c1,hv⟩:=bt HD.out.o0;obtain rfl:v=.slice a1 b.length c1:=hv;have c0:w1.cell? ⟨g,3,none⟩=some (.slice a1 b.length c1):=HD.out.c3
  rcases L8 with⟨rfl,hbn⟩ | ⟨ad,c,rfl,hbc⟩
  ·have mO:=ae hbn;clear hbn;have z0:w1.frozen? ⟨g,3,none⟩=false:=by have hh:=(HD.out).hg;simp[World.frozen?,hh]
   have HOW:=ae HD.out.o0
   go_wp2_with (first| (at_builtin;go_loud (refine wpList_append_own_none rfl (.tmp 21) (.tmp 22) 63 rfl B 5 i0 1 Tryz.underlying63 HI.out _ b.length (cg b) rfl HOW.out rfl ?_)))
   go_ret;refine⟨rfl,HE.out _ (.slice a1 b.length c1) ?_ ?_ ?_⟩
   ·rw[mO.out,List.append_nil];exact(HD.out.set 3 (.slice a1 b.length c1)).refile
   ·exact(HF.out.mono (fun k _ hk=>.inl hk)).trans (G:=fun k=>k=g) (Fr.set rfl) (fun k _ hk=>.inl hk)
   ·rw[mO.out,List.append_nil];exact fun k _ h=>h
  ·have rL:=ae hbc;clear hbc;have HOW:=ae HD.out.o0;have hB1:B<=w1.heap.size:=by omega
   generalize hbl:bs.length=m at*;have wg:=ae hbl;clear hbl
   go_wp2_with (first| (at_builtin;go_loud (refine wpList_append_own_at _ rfl (.tmp 21) (.tmp 22) 63 rfl B 5 i0 (.int .u8 0) 1 1 Tryz.underlying63 HI.out HZ0.out HZ1.out HZ2.out rfl (by decide) _ b.length (cg b) rfl HOW.out ad m c (cg bs) rfl (by simp[cg,wg.out]) (fun j u hu=>(rL.out j u hu).1) (eO _) (by unfold maxLen;omega) (by omega) hB1 ?_;intro v' w2 ho1 ho2 ho3 eR;clear ho3;obtain⟨a2,c2,e2⟩:=bt ho1;subst e2;have jD:=ae ho1;have eu:=ae ho2;have mL:=ae eR;have KG:=ae ((eu.out.block g HD.out.lt (fun e=>HD.out.n0 e.symm)).trans HD.out.hg);have z0:w2.frozen? ⟨g,3,none⟩=false:=(by have hh:=KG.out;simp[World.frozen?,hh]);have q1:w2.cell? ⟨g,3,none⟩=some (.slice a1 b.length c1):=(af (j:=3) KG.out).trans rfl;clear ho1 ho2 eR c0)))
   go_ret;have eR:=mL.out;have hlt:=HD.out.lt;have D2:iG w2 B g 68 (GT false lf2 ⟨.slice a1 b.length c1,b,s⟩ f1) ⟨.slice a2 (b.length+m) c2,b++bs,s⟩ f1:=by
    refine⟨KG.out,HD.out.hB,?_,?_,?_,?_,?_⟩
    ·have e9:cg (b++bs)=cg b++cg bs:=by simp[cg]
     show w2.ownsRow B 5 1 _ (b++bs).length (cg (b++bs));rw[e9,List.length_append,wg.out];exact jD.out
    ·exact dh HD.out.o1 (fun k hk=>eu.out.block k (HD.out.o1.lt k hk).2 (fun e=>HD.out.n01 k e.symm hk))
    ·rcases eR with e|e
     ·show(Value.slice a2 (b.length+m) c2).ownBlock ≠some g;rw[e];exact HD.out.n0
     ·show(Value.slice a2 (b.length+m) c2).ownBlock ≠some g;rw[e];intro e2;injection e2 with e2;omega
    ·exact HD.out.n1
    ·intro k hk
     rcases eR with e|e
     ·exact HD.out.n01 k (e▸hk)
     ·have hk':(Value.slice a2 (b.length+m) c2).ownBlock =some k:=hk;rw[e] at hk';injection hk' with hk';subst hk'
      exact fun e2=>by have:=(HD.out.o1.lt _ e2).2;omega
   refine⟨rfl,HE.out _ (.slice a2 (b.length+m) c2) (D2.set 3 (.slice a2 (b.length+m) c2)) ?_ ?_⟩
   ·refine((HF.out.mono (fun k _ hk=>.inl hk)).trans (G:=iS g ⟨.slice a1 b.length c1,b,s⟩ f1) (Fr.grown eu.out (fun k hk=>.inr (.inl hk))) (fun _ _ h=>h)).trans (G:=fun k=>k=g) (Fr.set rfl) (fun k _ hk=>.inl hk)
   ·exact fun k hk=>sZ (n:=w1.heap.size) eR (.inl rfl) k (by omega)
 ·have HE:=ae (fun w' v' (hd:DX w' B g false (mW lf) f0 ⟨v',f1.b++bs,f1.s⟩) (hf:Fr (iS g f0 f1) w w') (hn:∀k,k<w.heap.size->iS g f0 ⟨v',f1.b++bs,f1.s⟩ k->iS g f0 f1 k)=>show BH w w' B g false lf 1 f0 f1 bs from⟨f0,⟨v',f1.b++bs,f1.s⟩,by simp[hok],rfl,by simp[hok],rfl,by rw[hdn,hlf,show decide (lf=1)=false from decide_eq_false h1];exact hd,hf,hn⟩);have HC:=ae (cB g B lf 1 5 f0 f1 w h h0 hl (.inr ⟨rfl,rfl⟩));rw[if_neg h1,if_neg h1,show decide (lf=1)=false from decide_eq_false h1] at HC;have ni:=ae hbs;have HG:=ae h.hB;clear h h1 hok hr hdn hlf hbs;generalize mW lf=lf2 at*;go_enter Tryz.func79,Tryz.ntmps79;go_wp2_with fail;refine HC.out.mono ?_;rintro r w1 ⟨rfl,hd,hf⟩;have HD:=ae hd;have HF:=ae hf;have L8:=ni.out.frame hf (fun k hk=>hk);have hsz:=hf.size;clear hd hf;obtain⟨v,b,s⟩:=f1;obtain⟨a1,c1,hv⟩:=bt HD.out.o1;obtain rfl:v=.slice a1 b.length c1:=hv;have c0:w1.cell? ⟨g,5,none⟩=some (.slice a1 b.length c1):=HD.out.c5
  rcases L8 with⟨rfl,hbn⟩ | ⟨ad,c,rfl,hbc⟩
  ·have mO:=ae hbn;clear hbn;have z0:w1.frozen? ⟨g,5,none⟩=false:=by have hh:=(HD.out).hg;simp[World.frozen?,hh]
   have HOW:=ae HD.out.o1
   go_wp2_with (first| (at_builtin;go_loud (refine wpList_append_own_none rfl (.tmp 21) (.tmp 22) 63 rfl B 5 i0 1 Tryz.underlying63 HI.out _ b.length (cg b) rfl HOW.out rfl ?_)))
   go_ret;refine⟨rfl,HE.out _ (.slice a1 b.length c1) ?_ ?_ ?_⟩
   ·rw[mO.out,List.append_nil];exact(HD.out.set 5 (.slice a1 b.length c1)).refile
   ·exact(HF.out.mono (fun k _ hk=>.inl hk)).trans (G:=fun k=>k=g) (Fr.set rfl) (fun k _ hk=>.inl hk)
   ·rw[mO.out,List.append_nil];exact fun k _ h=>h
  ·have rL:=ae hbc;clear hbc;have HOW:=ae HD.out.o1;have hB1:B<=w1.heap.size:=by omega
   generalize hbl:bs.length=m at*;have wg:=ae hbl;clear hbl
   go_wp2_with (first| (at_builtin;go_loud (refine wpList_append_own_at _ rfl (.tmp 21) (.tmp 22) 63 rfl B 5 i0 (.int .u8 0) 1 1 Tryz.underlying63 HI.out HZ0.out HZ1.out HZ2.out rfl (by decide) _ b.length (cg b) rfl HOW.out ad m c (cg bs) rfl (by simp[cg,wg.out]) (fun j u hu=>(rL.out j u hu).1) (eO _) (by unfold maxLen;omega) (by omega) hB1 ?_;intro v' w2 ho1 ho2 ho3 eR;clear ho3;obtain⟨a2,c2,e2⟩:=bt ho1;subst e2;have jD:=ae ho1;have eu:=ae ho2;have mL:=ae eR;have KG:=ae ((eu.out.block g HD.out.lt (fun e=>HD.out.n1 e.symm)).trans HD.out.hg);have z0:w2.frozen? ⟨g,5,none⟩=false:=(by have hh:=KG.out;simp[World.frozen?,hh]);have q1:w2.cell? ⟨g,5,none⟩=some (.slice a1 b.length c1):=(af (j:=5) KG.out).trans rfl;clear ho1 ho2 eR c0)))
   go_ret;have eR:=mL.out;have hlt:=HD.out.lt;have D2:iG w2 B g 68 (GT false lf2 f0 ⟨.slice a1 b.length c1,b,s⟩) f0 ⟨.slice a2 (b.length+m) c2,b++bs,s⟩:=by
    refine⟨KG.out,HD.out.hB,?_,?_,?_,?_,?_⟩
    ·exact dh HD.out.o0 (fun k hk=>eu.out.block k (HD.out.o0.lt k hk).2 (fun e=>HD.out.n01 k hk e.symm))
    ·have e9:cg (b++bs)=cg b++cg bs:=by simp[cg]
     show w2.ownsRow B 5 1 _ (b++bs).length (cg (b++bs));rw[e9,List.length_append,wg.out];exact jD.out
    ·exact HD.out.n0
    ·rcases eR with e|e
     ·show(Value.slice a2 (b.length+m) c2).ownBlock ≠some g;rw[e];exact HD.out.n1
     ·show(Value.slice a2 (b.length+m) c2).ownBlock ≠some g;rw[e];intro e2;injection e2 with e2;omega
    ·intro k hk
     rcases eR with e|e
     ·show(Value.slice a2 (b.length+m) c2).ownBlock ≠some k;rw[e];exact HD.out.n01 k hk
     ·show(Value.slice a2 (b.length+m) c2).ownBlock ≠some k;rw[e];intro e2;injection e2 with e2;subst e2
      have:=(HD.out.o0.lt _ hk).2;omega
   refine⟨rfl,HE.out _ (.slice a2 (b.length+m) c2) (D2.set 5 (.slice a2 (b.length+m) c2)) ?_ ?_⟩
   ·refine((HF.out.mono (fun k _ hk=>.inl hk)).trans (G:=iS g f0 ⟨.slice a1 b.length c1,b,s⟩) (Fr.grown eu.out (fun k hk=>.inr (.inr hk))) (fun _ _ h=>h)).trans (G:=fun k=>k=g) (Fr.set rfl) (fun k _ hk=>.inl hk)
   ·exact fun k hk=>sZ (n:=w1.heap.size) (.inl rfl) eR k (by omega)
open Go.RowKit
def DR (W:World) (v:Value) (bs:List Nat):Prop:=(v=.slice none 0 0/\bs=[])∨∃(ad:Addr) (c:Nat),v=.slice (some ad) bs.length c/\∀j u,(cg bs)[j]? =some u->W.cell? (ad.add j)=some u
theorem iN {W:World} {B:Nat} {v:Value} {bs:List Nat} (h:W.ownsRow B 5 1 v bs.length (cg bs)):DR W v bs:=by
 have h0:=h;obtain⟨_,⟨rfl,hn⟩ | ⟨g,cap,cur,rfl,_⟩⟩:=h
 ·exact .inl ⟨rfl,List.length_eq_zero_iff.1 hn⟩
 ·exact .inr ⟨_,_,rfl,h0.cells rfl⟩
theorem DR.still {W W':World} {v:Value} {bs:List Nat} (h:DR W v bs) (hb:Below W.heap.size W W'):DR W' v bs:=by
 rcases h with h| ⟨ad,c,h1,h2⟩
 ·exact .inl h
 ·exact .inr ⟨ad,c,h1,fun j u hu=>by rw[hb.cell (block_lt_of_cell (h2 j u hu))];exact h2 j u hu⟩
theorem eY (v:Value) (bs:List Nat) (w:World) (h:DR w v bs) (hn:bs.length<=1000000):
 Calls Tryz.prog 47 #[v] w fun r w'=>(∃v',r=.returned v'/\w'.ownsRow w.heap.size 5 1 v' bs.length (cg bs))/\Below w.heap.size w w':=by
 rcases h with⟨rfl,rfl⟩ | ⟨ad,c,rfl,hc⟩
 ·have heq:=fun w=>Lib.run_eql_slice_nil (P:=Tryz.prog) w 63 5 none 0 0 0 0 Tryz.underlying63
  go_enter Tryz.func47,Tryz.ntmps47;go_wp2_with fail;go_ret;exact⟨⟨_,rfl,World.ownsRow_nil _ _ _ _⟩,Below.refl _ _⟩
 ·have HC:=ae hc;obtain⟨i0,hi0,hz0,hz1,hz2⟩:=aF oi;have HI:=ae hi0;have HZ0:=ae hz0;have HZ1:=ae hz1;have HZ2:=ae hz2;clear hi0 hz0 hz1 hz2 hc;generalize hm:bs.length=m at*;have HM:=ae hm;clear hm;have heq:=fun w=>Lib.run_eql_slice_nil (P:=Tryz.prog) w 63 5 (some ad) m c 0 0 Tryz.underlying63
  go_enter Tryz.func47,Tryz.ntmps47
  go_wp2_with (first| (at_builtin;go_loud (refine wpList_append_own_at _ rfl (.tmp 5) (.tmp 6) 63 rfl w.heap.size 5 i0 (.int .u8 0) 1 1 Tryz.underlying63 HI.out HZ0.out HZ1.out HZ2.out rfl (by decide) _ 0 [] rfl (World.ownsRow_lit (base:=w.heap.size) w #[] 0 (Nat.le_refl _) (by unfold maxLen;omega) rfl) ad m c (cg bs) rfl (by simp[cg,HM.out]) (fun j u hu=>by rw[((Below.refl w.heap.size w).alloc (Nat.le_refl _) _).cell (block_lt_of_cell (HC.out j u hu))];exact HC.out j u hu) (eO _) (by unfold maxLen;omega) (by omega) (by simp) ?_;intro v' w2 ho1 ho2 ho3 eR;clear ho3;obtain⟨a2,c2,e2⟩:=bt ho1;subst e2;have jD:=ae ho1;have eu:=ae ho2;clear ho1 ho2 eR)))
  go_ret;refine⟨⟨_,rfl,?_⟩,?_⟩
  ·have h9:=jD.out;simpa using h9
  ·exact((Below.refl _ _).alloc (Nat.le_refl _) _).grown eu.out (by simp) (fun k e=>by have e':some w.heap.size=some k:=e;injection e' with e';omega)
theorem Bl (w:World):Calls Tryz.prog 6 #[] w fun r w'=>r=.returned (.pointer (some ⟨w.heap.size,0,none⟩))/\DX w' w.heap.size w.heap.size false 0 ⟨.slice none 0 0,[],0⟩ ⟨.slice none 0 0,[],0⟩/\Below w.heap.size w w':=by
 go_enter Tryz.func6,Tryz.ntmps6;go_wp2_with fail;go_ret;exact⟨rfl,⟨ai _ _ _ rfl,Nat.le_refl _,kX _ _,kX _ _,by simp[Value.ownBlock],by simp[Value.ownBlock],by simp[Value.ownBlock]⟩,(Below.refl _ _).alloc (Nat.le_refl _) _⟩
end Go.Proofs.YtcclpdfmmdonpaaGreat
