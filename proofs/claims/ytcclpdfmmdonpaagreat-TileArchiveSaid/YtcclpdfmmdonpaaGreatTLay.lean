/- Texts of the seat Yteanlcefdoigcaa, turned to this one by wip/port.py: LayX. -/
import Derived.Test.YtcclpdfmmdonpaaGreatTSrt
namespace Go.Proofs.YtcclpdfmmdonpaaGreat
set_option maxHeartbeats 3200000
set_option maxRecDepth 100000
open Go.RowKit Go.Maps
theorem ww:Tryz.prog.cellsOf 99=4:=by kernel_rfl
theorem GV:Tryz.prog.cellsOf 3=1:=by kernel_rfl
theorem zG:Tryz.prog.keyType 99=true:=by kernel_rfl
theorem tT (d:Nat) (n:Int) (h:(Lit.int .i64 n).wf =true):Tryz.prog.keyLits (d+1) 3 [.int .i64 n]=some [.int .i64 n]:=by
 unfold Program.keyLits;rw[Tryz.underlying3];simp[h]
def dt (k:Ky):Lit:=.string (keyBytes [.int .i64 k.L,.int .i64 k.x,.int .i64 k.y,.int .i64 k.z])
theorem gC (k:Ky) (h:k.small):keyOf Tryz.prog 99 (.agg k.row.toArray)=some (dt k):=by
 obtain⟨a,b,c,d⟩:=k;simp only[Ky.small] at h;have h0:(Lit.int .i64 a).wf =true:=WalkArith.wf_i64 (by omega);have h1:(Lit.int .i64 b).wf =true:=WalkArith.wf_i64 (by omega);have h2:(Lit.int .i64 c).wf =true:=WalkArith.wf_i64 (by omega);have h3:(Lit.int .i64 d).wf =true:=WalkArith.wf_i64 (by omega);obtain⟨n,hn⟩:∃n,Tryz.prog.types.size=n+1:=⟨Tryz.prog.types.size-1,by have:99<Tryz.prog.types.size:=of_decide_eq_true (by kernel_rfl);omega⟩;unfold keyOf dt Ky.row;rw[Tryz.underlying99];simp only[zG,Value.formed,Tryz.underlying99,ww,Bool.true_and,Value.cells,hn];have e:Tryz.prog.keyLits (n+1+1) 99 [.int .i64 a,.int .i64 b,.int .i64 c,.int .i64 d]=some [.int .i64 a,.int .i64 b,.int .i64 c,.int .i64 d]:=by
  unfold Program.keyLits;rw[Tryz.underlying99];simp[ww,GV,tT,h0,h1,h2,h3]
 simp[e]
theorem n8 {a b:Ky} (ha:a.small) (hb:b.small) (h:dt a=dt b):a=b:=by
 have h1:=gC a ha;rw[h] at h1;have:=et.inj h1 (gC b hb);obtain⟨a1,a2,a3,a4⟩:=a;obtain⟨b1,b2,b3,b4⟩:=b;simp[Ky.row] at this;obtain⟨rfl,rfl,rfl,rfl⟩:=this;rfl
open Go.RowKit Go.Maps
structure bT (W W':World) (T:Nat->Prop):Prop where
 os:W'.os=W.os
 tape:W'.tape=W.tape
 output:W'.output=W.output
 size:W.heap.size<=W'.heap.size
 block:∀k,k<W.heap.size->¬T k->W'.heap[k]? =W.heap[k]?
theorem bT.refl (W:World) (T:Nat->Prop):bT W W T:=⟨rfl,rfl,rfl,Nat.le_refl _,fun _ _ _=>rfl⟩
theorem bT.trans {W W1 W2:World} {T T':Nat->Prop} (h:bT W W1 T) (h2:bT W1 W2 T') (ht:∀k,k<W.heap.size->T' k->T k):bT W W2 T:=
 ⟨h2.os.trans h.os,h2.tape.trans h.tape,h2.output.trans h.output,Nat.le_trans h.size h2.size,fun k hk hn=>(h2.block k (Nat.lt_of_lt_of_le hk h.size) (fun e=>hn (ht k hk e))).trans (h.block k hk hn)⟩
theorem aN {W W':World} {row:Option Nat} (h:W.grownBy W' row):bT W W' (fun k=>some k=row):=⟨h.os,h.tape,h.output,h.size,fun k hk hn=>h.block k hk hn⟩
theorem dr {W W':World} (h:Below W.heap.size W W') (T:Nat->Prop):bT W W' T:=⟨h.os,h.tape,h.output,h.size,fun k hk _=>h.block k hk⟩
theorem bT.below {w W W':World} {T:Nat->Prop} {B:Nat} (h:bT W W' T) (hb:Below B w W) (hB:B<=W.heap.size) (ht:∀k,T k->B<=k):Below B w W':=
 ⟨h.os.trans hb.os,h.tape.trans hb.tape,h.output.trans hb.output,Nat.le_trans hb.size h.size,fun k hk=>(h.block k (Nat.lt_of_lt_of_le hk hB) (fun e=>by have:=ht k e;omega)).trans (hb.block k hk)⟩
theorem ke {W X:World} (h:ce W X):Below W.heap.size W X:=by
 obtain⟨q,os,rfl⟩:=h;refine⟨rfl,rfl,rfl,?_,fun k hk=>?_⟩
 ·rw[Sort.size_grow];exact Nat.le_add_right _ _
 ·show(W.heap++os)[k]? =_;rw[Array.getElem?_append_left hk]
section
variable {W W':World} {base t sz:Nat} {v:Value} {l:List (List Value)}
theorem al.turned {T:Nat->Prop} (h:al W base t sz v l) (ht:bT W W' T) (hne:∀b,v.ownBlock=some b->¬T b):al W' base t sz v l:=by
 refine⟨h.1,h.2.1,?_⟩
 rcases h.2.2 with h1| ⟨g,cap,cur,h1,hb,h2,h3⟩
 ·exact Or.inl h1
 ·refine Or.inr ⟨g,cap,cur,h1,hb,?_,h3⟩;rw[ht.block g (Array.getElem?_eq_some_iff.1 h2).1 (hne g (by rw[h1];rfl))];exact h2
theorem al.lt (h:al W base t sz v l) {g:Nat} (hg:v.ownBlock=some g):g<W.heap.size:=by
 rcases h.2.2 with⟨h1,_⟩ | ⟨g',cap,cur,h1,hb,h2,h3⟩
 ·rw[h1] at hg;cases hg
 ·rw[h1] at hg;injection hg with hg
  subst hg;exact(Array.getElem?_eq_some_iff.1 h2).1
theorem al.typed (h:al W base t sz v l) {g:Nat} (hg:v.ownBlock=some g):∃cur,W.heap[g]? =some (.cells cur t):=by
 rcases h.2.2 with⟨h1,_⟩ | ⟨g',cap,cur,h1,hb,h2,h3⟩
 ·rw[h1] at hg;cases hg
 ·rw[h1] at hg;injection hg with hg
  subst hg;exact⟨cur,h2⟩
theorem fG {b2 t2 s2:Nat} {u:Value} {m:List (List Value)} (h:al W base t sz v l) (h2:al W b2 t2 s2 u m) (ht:t≠t2) {g:Nat} (hg:v.ownBlock=some g):u.ownBlock≠some g:=fun e=>by
 obtain⟨c1,q1⟩:=h.typed hg;obtain⟨c2,q2⟩:=h2.typed e;rw[q1] at q2;injection q2 with q2
 injection q2 with _ q2
 exact ht q2
theorem gD {P:Program} {k b n g:Nat} {get:Lit->Option Value} (h:al W base t sz v l) (hm:bI P W k b n get) (hg:v.ownBlock=some g):g≠b:=fun e=>by
 subst e;obtain⟨c1,q1⟩:=h.typed hg;obtain⟨D,⟨es,clock,hb,_⟩,_⟩:=hm;rw[q1] at hb
 cases hb
end
def aq (W:World) (base:Nat) (v:Value) (l:List Pt):Prop:=al W base 106 9 v (l.map Pt.row)
theorem aq.cells {W:World} {base:Nat} {v:Value} {l:List Pt} (h:aq W base v l) (hn:0<l.length):∃g cap,v=.slice (some ⟨g,0,none⟩) l.length cap/\base<=g/\g<W.heap.size/\∀i p,l[i]? =some p->∀j,j<9->W.cell? ⟨g,i*9+j,none⟩=some (.int .i64 (p.f j)):=by
 obtain⟨g,cap,cur,h1,hb,h2,h3,_⟩:=al.rows h (by simpa using hn);rw[List.length_map] at h1;refine⟨g,cap,h1,hb,(Array.getElem?_eq_some_iff.1 h2).1,fun i p hi j hj=>?_⟩;have:=h3 i p.row (by rw[List.getElem?_map,hi];rfl) j hj;rw[Nat.zero_add,Pt.row_at p j hj] at this;exact this
theorem aq.slice {W:World} {base:Nat} {v:Value} {l:List Pt} (h:aq W base v l):∃a cap,v=.slice a l.length cap:=by
 have:=al.slice h;rwa[List.length_map] at this
def Pt.fine (p:Pt):Prop:=(0<=p.id/\p.id<=1152921504606846976)/\(-268435456<=p.x/\p.x<=268435456)/\(-268435456<=p.y/\p.y<=268435456)/\(-268435456<=p.zl/\p.zl<=268435456)
theorem rl (n:Int) (h: -268435456<=n/\n<=268435456) (l:Nat) (hl:l<=12):0<=bN n l/\bN n l<4096:=by
 match l,hl with
 |0,_|1,_|2,_|3,_|4,_|5,_|6,_|7,_|8,_|9,_|10,_|11,_|12,_=>
  simp[bN];omega
theorem dL {p:Pt} (h:p.fine) {l:Nat} (hl:l<=12):(aK l p).small :=
 ⟨⟨by show(0:Int)<=(l:Int);omega,by show(l:Int)<=12;omega⟩,rl _ h.2.1 l hl,rl _ h.2.2.1 l hl,rl _ h.2.2.2 l hl⟩
structure iz (W:World) (bl:Nat) (get:Lit->Option Value) (S:List Pt) (c l:Nat) (Lf:List Pt) (i:Nat):Prop where
 back:∀kl v,get kl=some v->∃k:Ky,k.small/\k.L=l/\kl=dt k
 own:∀k:Ky,k.small->∀v,get (dt k)=some v->aq W bl v (jw S c l Lf i k)/\jw S c l Lf i k≠[]
 none:∀k:Ky,k.small->get (dt k)=none->jw S c l Lf i k=[]
 apart:∀k k':Ky,k.small->k'.small->∀v v' g,get (dt k)=some v->get (dt k')=some v'->v.ownBlock=some g->v'.ownBlock=some g->k=k'
theorem iz.start (W:World) (bl:Nat) (S:List Pt) (c l:Nat) (Lf:List Pt):iz W bl (fun _=>Option.none) S c l Lf 0:=
 ⟨fun _ _ h=>(by cases h),fun _ _ _ h=>(by cases h),fun _ _ _=>(by simp[jw]),fun _ _ _ _ _ _ _ h=>(by cases h)⟩
theorem iz.pass {W W':World} {bl:Nat} {get:Lit->Option Value} {S:List Pt} {c l i:Nat} {Lf:List Pt} {p:Pt} {T:Nat->Prop} (h:iz W bl get S c l Lf i) (hi:Lf[i]? =some p) (ht:takes S c l p=false) (hw:bT W W' T)
 (hT:∀k v g,k.small->get (dt k)=some v->v.ownBlock=some g->¬T g):iz W' bl get S c l Lf (i+1):=by
 refine⟨h.back,fun k hk v hv=>?_,fun k hk hn=>?_,h.apart⟩
 ·rw[fL hi (Or.inl ht)];obtain⟨h1,h2⟩:=h.own k hk v hv;exact⟨al.turned h1 hw (fun b hb=>hT k v b hk hv hb),h2⟩
 ·rw[fL hi (Or.inl ht)];exact h.none k hk hn
theorem oy (get:Lit->Option Value) (k:Lit) (u v:Value):dS (dS get k u) k v=dS get k v:=by
 funext x;unfold dS;by_cases h:x.sameKey k=true
 iterate 2 (·simp[h])
theorem iz.take {W W':World} {bl:Nat} {get:Lit->Option Value} {S:List Pt} {c l i:Nat} {Lf:List Pt} {p:Pt} {T:Nat->Prop} {v':Value} (h:iz W bl get S c l Lf i) (hi:Lf[i]? =some p) (ht:takes S c l p=true) (hf:p.fine) (hl:l<=12) (hw:bT W W' T)
 (hT:∀k v g,k.small->k≠aK l p->get (dt k)=some v->v.ownBlock=some g->¬T g) (hv:aq W' bl v' (jw S c l Lf i (aK l p)++[p])) (hb:∀g,v'.ownBlock=some g->W.heap.size<=g∨∃v,get (dt (aK l p))=some v/\v.ownBlock=some g):
 iz W' bl (dS get (dt (aK l p)) v') S c l Lf (i+1):=by
 have hks:=dL hf hl;have hkey:WideAt.IsKeyLit (dt (aK l p)):=et.key (gC _ hks);have hother:∀k:Ky,k.small->k≠aK l p->dS get (dt (aK l p)) v' (dt k)=get (dt k):=fun k hk hne=>ew (fun e=>hne (n8 hk hks e))
 refine⟨fun kl v hv=>?_,fun k hk v hv2=>?_,fun k hk hn=>?_,fun k k' hk hk' v u g hv2 hu hg hg'=>?_⟩
 ·by_cases he:kl=dt (aK l p)
  ·exact⟨_,hks,rfl,he⟩
  ·rw[ew he] at hv;exact h.back kl v hv
 ·by_cases he:k=aK l p
  ·subst he;rw[eF hkey] at hv2;injection hv2 with hv2
   subst hv2;rw[wz hi ht];exact⟨hv,by simp⟩
  ·rw[hother k hk he] at hv2;rw[fL hi (Or.inr (fun e=>he e.symm))];obtain⟨h1,h2⟩:=h.own k hk v hv2;exact⟨al.turned h1 hw (fun b hb=>hT k v b hk he hv2 hb),h2⟩
 ·by_cases he:k=aK l p
  ·subst he;rw[eF hkey] at hn
   cases hn
  ·rw[hother k hk he] at hn;rw[fL hi (Or.inr (fun e=>he e.symm))];exact h.none k hk hn
 ·have hold:∀k:Ky,k.small->k≠aK l p->∀v g,get (dt k)=some v->v.ownBlock=some g->v'.ownBlock≠some g:=fun k hk hne v g hv hg e=>by
   rcases hb g e with h1| ⟨v2,h2,h3⟩
   ·have:=al.lt (h.own k hk v hv).1 hg;omega
   ·exact hne (h.apart k (aK l p) hk hks v v2 g hv h2 hg h3)
  by_cases he:k=aK l p
  ·by_cases he':k'=aK l p
   ·rw[he,he']
   ·subst he;rw[eF hkey] at hv2;injection hv2 with hv2
    subst hv2;rw[hother k' hk' he'] at hu;exact absurd hg (hold k' hk' he' u g hu hg')
  ·rw[hother k hk he] at hv2;by_cases he':k'=aK l p
   ·subst he';rw[eF hkey] at hu;injection hu with hu
    subst hu;exact absurd hg' (hold k hk he v g hv2 hg)
   ·rw[hother k' hk' he'] at hu;exact h.apart k k' hk hk' v u g hv2 hu hg hg'
open Go.RowKit Go.Maps
def pC (get:Lit->Option Value) (rv:Value):Prop:=∀(k:Ky) (v:Value) (g:Nat),k.small->get (dt k)=some v->v.ownBlock=some g->rv.ownBlock≠some g
theorem su {W3 wr W5 W6 W7 W8:World} {bl mb n i c l:Nat} {get:Lit->Option Value} {S Lf:List Pt} {p:Pt} {rv v v7:Value} (hbl:W3.heap.size=bl) (hgr:iz wr bl get S c l Lf i) (hor:aq wr bl rv (pe S c l Lf i)) (hap:pC get rv)
 (htu:bT W3 wr (fun k=>k=mb)) (hm:bI Tryz.prog wr 99 mb n get) (hi:Lf[i]? =some p) (ht:takes S c l p=true) (hf:p.fine) (hl:l<=12) (hov:aq wr bl v (jw S c l Lf i (aK l p)))
 (hget:∀g,v.ownBlock=some g->get (dt (aK l p))=some v) (h5:Below wr.heap.size wr W5) (h6:W5.grownBy W6 (some mb)) (h7:W6.grownBy W7 v.ownBlock) (h8:W7.grownBy W8 (some mb))
 (hown:al W7 bl 106 9 v7 ((jw S c l Lf i (aK l p)).map Pt.row++[p.row])) (halt:v7.ownBlock=v.ownBlock∨v7.ownBlock=some W6.heap.size):
 iz W8 bl (dS get (dt (aK l p)) v7) S c l Lf (i+1)/\aq W8 bl rv (pe S c l Lf (i+1))/\pC (dS get (dt (aK l p)) v7) rv/\bT W3 W8 (fun k=>k=mb):=by
 have hks:=dL hf hl;have hkey:WideAt.IsKeyLit (dt (aK l p)):=et.key (gC _ hks);have hmb:=hm.lt;have z5:=h5.size;have z6:=h6.size;have z7:=h7.size;have t8:bT wr W8 (fun k=>k=mb∨v.ownBlock=some k):=by
  refine(((dr h5 (fun k=>k=mb∨v.ownBlock=some k)).trans (aN h6) ?_).trans (aN h7) ?_).trans (aN h8) ?_
  ·intro k _ e;injection e with e;exact Or.inl e
  ·intro k _ e;exact Or.inr e.symm
  ·intro k _ e;injection e with e;exact Or.inl e
 have hvb:∀g,v.ownBlock=some g->bl<=g:=fun g hg=>al.ownBlock hov g hg
 have hnew:∀g,v7.ownBlock=some g->g≠mb:=fun g hg=>by
  rcases halt with h|h
  ·rw[h] at hg;exact gD hov hm hg
  ·rw[h] at hg;injection hg with hg;omega
 have P7:aq W8 bl v7 (jw S c l Lf i (aK l p)++[p]):=by
  have e:(jw S c l Lf i (aK l p)++[p]).map Pt.row=(jw S c l Lf i (aK l p)).map Pt.row++[p.row]:=by simp
  unfold aq;rw[e];exact hown.turned (aN h8) (fun b hb e=>hnew b hb (by injection e))
 have hrest:∀g,rv.ownBlock=some g->¬(g=mb∨v.ownBlock=some g):=fun g hg e=>by
  rcases e with e|e
  ·exact gD hor hm hg e
  ·exact hap _ v g hks (hget g e) e hg
 refine⟨hgr.take hi ht hf hl t8 ?_ P7 ?_,?_,?_,?_⟩
 ·rintro k u g hk hne hu hg (e|e)
  ·exact gD (hgr.own k hk u hu).1 hm hg e
  ·exact hne (hgr.apart k _ hk hks u v g hu (hget g e) hg e)
 ·intro g hg
  rcases halt with h|h
  ·rw[h] at hg;exact Or.inr ⟨v,hget g hg,hg⟩
  ·rw[h] at hg;injection hg with hg;left;omega
 ·rw[EM hi ht];exact al.turned hor t8 hrest
 ·intro k u g hk hu hg hrg;by_cases he:k=aK l p
  ·subst he;rw[eF hkey] at hu;injection hu with hu
   subst hu
   rcases halt with h|h
   ·rw[h] at hg;exact hap _ v g hks (hget g hg) hg hrg
   ·rw[h] at hg;injection hg with hg
    have:=al.lt hor hrg;omega
  ·rw[ew (fun e=>he (n8 hk hks e))] at hu;exact hap k u g hk hu hg hrg
 ·refine htu.trans t8 ?_;rintro k hk (e|e)
  ·exact e
  ·have:=hvb k e;omega
theorem Bd {W3 wr W5 W6:World} {bl mb n i c l:Nat} {get:Lit->Option Value} {S Lf:List Pt} {p:Pt} {rv v6:Value} (hbl:W3.heap.size=bl) (hgr:iz wr bl get S c l Lf i) (hor:aq wr bl rv (pe S c l Lf i)) (hap:pC get rv)
 (htu:bT W3 wr (fun k=>k=mb)) (hm:bI Tryz.prog wr 99 mb n get) (hi:Lf[i]? =some p) (ht:takes S c l p=false) (h5:Below wr.heap.size wr W5) (h6:W5.grownBy W6 rv.ownBlock)
 (hown:al W6 bl 106 9 v6 ((pe S c l Lf i).map Pt.row++[p.row])) (halt:v6.ownBlock=rv.ownBlock∨v6.ownBlock=some W5.heap.size):
 bI Tryz.prog W6 99 mb n get/\iz W6 bl get S c l Lf (i+1)/\aq W6 bl v6 (pe S c l Lf (i+1))/\pC get v6/\bT W3 W6 (fun k=>k=mb):=by
 have z5:=h5.size;have t6:bT wr W6 (fun k=>rv.ownBlock=some k):=(dr h5 _).trans (aN h6) (fun k _ e=>e.symm);have zT:bI Tryz.prog W6 99 mb n get:=(hm.grow h5).kept h6 (fun e=>gD hor hm e.symm rfl);refine⟨zT,hgr.pass hi ht t6 (fun k u g hk hu hg e=>hap k u g hk hu hg e),?_,?_,?_⟩
 ·have e:(pe S c l Lf (i+1)).map Pt.row=(pe S c l Lf i).map Pt.row++[p.row]:=by rw[G9 hi ht];simp
  unfold aq;rw[e];exact hown
 ·intro k u g hk hu hg hrg
  rcases halt with h|h
  ·rw[h] at hrg;exact hap k u g hk hu hg hrg
  ·rw[h] at hrg;injection hrg with hrg
   have:=al.lt (hgr.own k hk u hu).1 hg;omega
 ·refine htu.trans t6 ?_;intro k hk e;have:=al.ownBlock hor k e;omega
open Go.RowKit Go.Maps
def bw (W:World) (base:Nat) (v:Value) (E:List Te):Prop:=al W base 101 5 v (E.map Te.row)/\∀e∈E,aq W base e.v e.pts
def Co (S:List Pt) (c:Nat) (l:Nat):Pt->Ky->Prop:=fun p k=>p∈S/\fZ S c p k/\k.L<l
def Gv (S:List Pt) (c:Nat) (l:Nat) (left:Lit->Bool):Pt->Ky->Prop:=fun p k=>p∈S/\fZ S c p k/\(k.L<l∨(k.L=l/\left (dt k)=false))
structure nR (W:World) (base bl mb r n:Nat) (get:Lit->Option Value) (left:Lit->Bool) (cnt:Nat) (S:List Pt) (c l:Nat) (Lf:List Pt) (E:List Te) (ov rv:Value):Prop where
 rng:cu Tryz.prog W 99 mb r n get left cnt
 has:∀kl,left kl=true->(get kl).isSome =true
 own:∀k:Ky,k.small->∀v,get (dt k)=some v->left (dt k)=true->aq W bl v (jw S c l Lf Lf.length k)
 tin:bw W base ov E
 til:cC (Gv S c l left) (E.map Te.tl)
 old:∀e∈E,∀g,e.v.ownBlock=some g->g<bl∨∃k:Ky,k.small/\get (dt k)=some e.v/\left (dt k)=false
 rest:aq W bl rv (pe S c l Lf Lf.length)
 keys:∀e∈E,e.ok
theorem fS {W:World} {P:Program} {k b r n cnt g t sz base:Nat} {get:Lit->Option Value} {left:Lit->Bool} {v:Value} {m:List (List Value)} (hm:al W base t sz v m) (h:cu P W k b r n get left cnt) (hg:v.ownBlock=some g):g≠r:=fun e=>by
 subst e;obtain⟨c1,q1⟩:=hm.typed hg;obtain⟨D,⟨es,clock,since,seen,c0,_,_,_,_,h5,_⟩,_⟩:=h;rw[q1] at h5
 cases h5
theorem oE {W:World} {P:Program} {k b r n cnt g t sz base:Nat} {get:Lit->Option Value} {left:Lit->Bool} {v:Value} {m:List (List Value)} (hm:al W base t sz v m) (h:cu P W k b r n get left cnt) (hg:v.ownBlock=some g):g≠b:=fun e=>by
 subst e;obtain⟨c1,q1⟩:=hm.typed hg;obtain⟨D,⟨es,clock,since,seen,c0,h5,_⟩,_⟩:=h;rw[q1] at h5
 cases h5
theorem ii {left:Lit->Bool} {k k':Ky} (hk:k.small) (hk':k'.small):(left (dt k') && !(dt k').sameKey (dt k))=false↔(left (dt k')=false∨k'=k):=by
 by_cases he:k'=k
 ·subst he;rw[WideAt.sameKey_self (et.key (gC _ hk))];simp
 ·rw[sameKey_ne (fun e=>he (n8 hk' hk e))];simp[he]
theorem jR {S:List Pt} {c:Nat} {p:Pt} {k:Ky} (hf:p.fine) (h:fZ S c p k):k.small:=by
 obtain⟨l,h1,_,_,rfl⟩:=h;exact dL hf h1
theorem xZ {W:World} {base bl mb r n cnt c l:Nat} {get:Lit->Option Value} {S Lf:List Pt} {E:List Te} {ov rv:Value} (hf:∀p∈S,p.fine) (hlf:cP S c l Lf) (hl:l<=12) (hg:iz W bl get S c l Lf Lf.length) (hr:cu Tryz.prog W 99 mb r n get (fun kl=>(get kl).isSome) cnt)
 (hte:bw W base ov E) (htl:cC (Co S c l) (E.map Te.tl)) (hbl:∀e∈E,∀g,e.v.ownBlock=some g->g<bl) (hrest:aq W bl rv (pe S c l Lf Lf.length)) (hks:∀e∈E,e.ok):
 nR W base bl mb r n get (fun kl=>(get kl).isSome) cnt S c l Lf E ov rv:=by
 refine⟨hr,fun _ h=>h,fun k hk v hv _=>(hg.own k hk v hv).1,hte,htl.congr (fun p k=>?_),fun e he g h=>Or.inl (hbl e he g h),hrest,hks⟩;constructor
 ·rintro⟨h1,h2,h3⟩;exact⟨h1,h2,Or.inl h3⟩
 ·rintro⟨h1,h2,h3| ⟨h3,h4⟩⟩
  ·exact⟨h1,h2,h3⟩
  ·have hn:=hg.none k (jR (hf p h1) h2) (by simpa using h4);have hm:=(tx hlf hl h3).2 ⟨h1,h2⟩;rw[hn] at hm;simp at hm
theorem nR.done {W:World} {base bl mb r n cnt c l:Nat} {get:Lit->Option Value} {left:Lit->Bool} {S Lf:List Pt} {E:List Te} {ov rv:Value} (h:nR W base bl mb r n get left cnt S c l Lf E ov rv) (hd:∀kl,left kl=false):cC (Co S c (l+1)) (E.map Te.tl):=
 h.til.congr (fun p k=>by
  constructor
  ·rintro⟨h1,h2,h3⟩;refine⟨h1,h2,?_⟩
   rcases h3 with h3| ⟨h3,_⟩
   iterate 2 (·omega)
  ·rintro⟨h1,h2,h3⟩;refine⟨h1,h2,?_⟩;obtain⟨m,_,hm⟩:=xi h2;by_cases he:k.L=l
   ·exact Or.inr ⟨he,hd _⟩
   ·left;omega)
theorem yy {W0 W W1 W2 W3 W4 W5:World} {base bl mb r n cnt cnt' c l:Nat} {get:Lit->Option Value} {left:Lit->Bool} {S Lf pts':List Pt} {E:List Te} {ov ov5 rv v:Value} {k:Ky} (h:nR W base bl mb r n get left cnt S c l Lf E ov rv)
 (hS:kZ S) (hf:∀p∈S,p.fine) (hlf:cP S c l Lf) (hl:l<=12) (hb:base<=bl) (hg:iz W0 bl get S c l Lf Lf.length) (hap:pC get rv) (hk:k.small) (JW:k.L=l) (hlk:left (dt k)=true) (hv:get (dt k)=some v)
 (h1:cu Tryz.prog W1 99 mb r n get (fun z=>left z && !z.sameKey (dt k)) cnt') (g1:W.grownBy W1 (some r)) (g2:Below W1.heap.size W1 W2) (g3:W2.grownBy W3 v.ownBlock) (hp3:aq W3 bl v pts') (hperm:pts'.Perm (jw S c l Lf Lf.length k)) (hasc:pts'.Pairwise (fun p q=>¬q.id<p.id))
 (g4:Below W3.heap.size W3 W4) (g5:W4.grownBy W5 ov.ownBlock) (hown:al W5 base 101 5 ov5 (E.map Te.row++[(⟨k,v,pts'⟩:Te).row])) (hvo:v.oneCell'=true):
 nR W5 base bl mb r n get (fun z=>left z && !z.sameKey (dt k)) cnt' S c l Lf (E++[⟨k,v,pts'⟩]) ov5 rv:=by
 have hov:=h.own k hk v hv hlk;have hvb:∀g,v.ownBlock=some g->bl<=g:=fun g hg=>al.ownBlock hov g hg
 have t3:bT W W3 (fun j=>j=r∨v.ownBlock=some j):=by
  refine(((aN g1).trans (dr g2 (fun j=>some j=some r)) (fun _ _ e=>e)).trans (T:=fun j=>some j=some r) (dr (Below.refl _ _) _) (fun _ _ e=>e)) |> fun t=>?_
  refine(bT.trans (T:=fun j=>j=r∨v.ownBlock=some j) ⟨t.os,t.tape,t.output,t.size,fun j hj hn=>t.block j hj (fun e=>hn (Or.inl (by injection e)))⟩ (aN g3) ?_);intro j _ e;exact Or.inr e.symm
 have t5:bT W W5 (fun j=>(j=r∨v.ownBlock=some j)∨ov.ownBlock=some j):=by
  refine(bT.trans (T:=fun j=>(j=r∨v.ownBlock=some j)∨ov.ownBlock=some j) ⟨t3.os,t3.tape,t3.output,t3.size,fun j hj hn=>t3.block j hj (fun e=>hn (Or.inl e))⟩ (dr g4 (fun _=>False)) (fun _ _ e=>e.elim)).trans (aN g5) ?_;intro j _ e;exact Or.inr e.symm
 have hkeep:∀{u:Value} {m:List Pt} {b':Nat},aq W b' u m->(∀g,u.ownBlock=some g->v.ownBlock≠some g)->aq W5 b' u m:=fun {u m b'} hu hne=>by
  refine al.turned hu t5 (fun g hg e=>?_)
  rcases e with(e|e) |e
  ·exact fS hu h.rng hg e
  ·exact hne g hg e
  ·exact fG hu h.tin.1 (by decide) hg e
 have hv5:aq W5 bl v pts':=by
  refine al.turned (hp3.turned (dr g4 (fun _=>False)) (fun _ _ e=>e)) (aN g5) (fun g hg e=>?_);exact fG hov h.tin.1 (by decide) hg e.symm
 have hmem:∀p,p∈pts'↔p∈S/\fZ S c p k:=fun p=>by rw[hperm.mem_iff,tx hlf hl JW]
 refine⟨?_,fun kl hkl=>h.has kl (Bool.and_eq_true_iff.1 hkl).1,fun k' hk' u hu hl'=>?_,⟨?_,fun e he=>?_⟩,?_,fun e he g hge=>?_,?_,fun e he=>?_⟩
 ·have h2:=h1.grow g2;have h3:=h2.kept g3 (fun e=>oE hov h.rng e.symm rfl) (fun e=>fS hov h.rng e.symm rfl);have h4:=h3.grow g4;exact h4.kept g5 (fun e=>oE h.tin.1 h.rng e.symm rfl) (fun e=>fS h.tin.1 h.rng e.symm rfl)
 ·obtain⟨h2,h3⟩:=Bool.and_eq_true_iff.1 hl';have hne:k'≠k:=fun e=>by
   subst e;rw[WideAt.sameKey_self (et.key (gC _ hk))] at h3;simp at h3
  exact hkeep (h.own k' hk' u hu h2) (fun g hg2 e=>hne (hg.apart k' k hk' hk u v g hu hv hg2 e))
 ·rw[List.map_append];exact hown
 ·rcases List.mem_append.1 he with g|g
  ·refine hkeep (h.tin.2 e g) (fun j hj e2=>?_)
   rcases h.old e g j hj with h2| ⟨k',hk',h3,h4⟩
   ·have:=hvb j e2;omega
   ·have:=hg.apart k' k hk' hk e.v v j h3 hv hj e2;subst this;rw[hlk] at h4;cases h4
  ·obtain rfl:=List.mem_singleton.1 g;exact al.mono hv5 hb
 ·rw[List.map_append];have hadd:=h.til.add (k:=k) (pts:=pts') (fun p hq=>?_) (fun e=>?_) (wI hperm (Ef hS hlf k) hasc)
  ·refine hadd.congr (fun p x=>?_);constructor
   ·rintro (⟨h2,h3,h4| ⟨h4,h5⟩⟩ | ⟨rfl,h2⟩)
    ·exact⟨h2,h3,Or.inl h4⟩
    ·exact⟨h2,h3,Or.inr ⟨h4,(ii hk (jR (hf p h2) h3)).2 (Or.inl h5)⟩⟩
    ·obtain⟨h3,h4⟩:=(hmem p).1 h2;exact⟨h3,h4,Or.inr ⟨JW,(ii hk hk).2 (Or.inr rfl)⟩⟩
   ·rintro⟨h2,h3,h4| ⟨h4,h5⟩⟩
    ·exact Or.inl ⟨h2,h3,Or.inl h4⟩
    ·rcases(ii hk (jR (hf p h2) h3)).1 h5 with h6|rfl
     ·exact Or.inl ⟨h2,h3,Or.inr ⟨h4,h6⟩⟩
     ·exact Or.inr ⟨rfl,(hmem p).2 ⟨h2,h3⟩⟩
  ·obtain⟨_,_,h3| ⟨_,h3⟩⟩:=hq
   ·omega
   ·rw[hlk] at h3;cases h3
  ·subst e;exact(hg.own k hk v hv).2 (List.Perm.nil_eq hperm).symm
 ·rcases List.mem_append.1 he with g'|g'
  ·rcases h.old e g' g hge with h2| ⟨k',hk',h3,h4⟩
   ·exact Or.inl h2
   ·exact Or.inr ⟨k',hk',h3,(ii hk hk').2 (Or.inl h4)⟩
  ·obtain rfl:=List.mem_singleton.1 g';exact Or.inr ⟨k,hk,hv,(ii hk hk).2 (Or.inr rfl)⟩
 ·exact hkeep h.rest (fun g hg e=>hap k v g hk hv e hg)
 ·rcases List.mem_append.1 he with g|g
  ·exact h.keys e g
  ·obtain rfl:=List.mem_singleton.1 g;exact⟨hk,hvo⟩
theorem cu.left_eq {W:World} {P:Program} {k b r n cnt:Nat} {get:Lit->Option Value} {left:Lit->Bool} (h:cu P W k b r n get left cnt):W.rangeLeft b r=cnt:=by
 obtain⟨D,h1,_⟩:=h;exact h1.left_eq
theorem cu.cnt_le {W:World} {P:Program} {k b r n cnt:Nat} {get:Lit->Option Value} {left:Lit->Bool} (h:cu P W k b r n get left cnt):cnt<=n:=by
 obtain⟨D,⟨es,clock,since,seen,c0,_,_,h3,_,_,_,h7,_⟩,_⟩:=h;rw[<-h7];refine Nat.le_trans ?_ h3;unfold leftOf;exact Array.size_filter_le
theorem iz.keep {W W':World} {bl:Nat} {get:Lit->Option Value} {S:List Pt} {c l i:Nat} {Lf:List Pt} {T:Nat->Prop} (h:iz W bl get S c l Lf i) (hw:bT W W' T) (hT:∀k,¬T k):iz W' bl get S c l Lf i:=
 ⟨h.back,fun k hk v hv=>⟨al.turned (h.own k hk v hv).1 hw (fun b _=>hT b),(h.own k hk v hv).2⟩,h.none,h.apart⟩
theorem bw.turned {W W':World} {base:Nat} {v:Value} {E:List Te} {T:Nat->Prop} (h:bw W base v E) (hw:bT W W' T) (hT:∀k,k<W.heap.size->¬T k):bw W' base v E:=
 ⟨h.1.turned hw (fun b hb=>hT b (h.1.lt hb)),fun e he=>al.turned (h.2 e he) hw (fun b hb=>hT b (al.lt (h.2 e he) hb))⟩
theorem xW {W W1 W2 W3 W4:World} {base bl mb r n cnt c l:Nat} {get:Lit->Option Value} {left:Lit->Bool} {S Lf:List Pt} {E:List Te} {ov rv v:Value} {m:List (List Value)} (h:nR W base bl mb r n get left cnt S c l Lf E ov rv) (hov:al W bl 106 9 v m)
 (g1:W.grownBy W1 (some r)) (g2:Below W1.heap.size W1 W2) (g3:W2.grownBy W3 v.ownBlock) (g4:Below W3.heap.size W3 W4):al W4 base 101 5 ov (E.map Te.row):=by
 have a1:=h.tin.1.turned (aN g1) (fun b hb e=>fS h.tin.1 h.rng hb (by injection e));have a2:=a1.grow g2;have a3:=a2.turned (aN g3) (fun b hb e=>fG h.tin.1 hov (by decide) hb e.symm);exact a3.grow g4
open Go.RowKit Go.Maps
def IP (W3:World) (mb n:Nat) (S:List Pt) (c l:Nat) (Lf:List Pt) (rv iv:Value) (W:World):Prop:=
 ∃(i:Nat) (get:Lit->Option Value),i<=n/\iv=.int .i64 (i:Int)/\bI Tryz.prog W 99 mb (2*i) get/\iz W W3.heap.size get S c l Lf i/\aq W W3.heap.size rv (pe S c l Lf i)/\pC get rv/\bT W3 W (fun k=>k=mb)
def Gk (w:World) (S:List Pt) (c:Nat) (lv ov iv:Value) (W:World):Prop:=
 ∃(l:Nat) (Lf:List Pt) (E:List Te),l<=13/\iv=.int .i64 (l:Int)/\cP S c l Lf/\aq W w.heap.size lv Lf/\bw W w.heap.size ov E/\cC (Co S c l) (E.map Te.tl)/\(∀e∈E,e.ok)/\E.length<=l*8192/\Below w.heap.size w W
def Ct (w:World) (bl mb r n:Nat) (get:Lit->Option Value) (S:List Pt) (c l:Nat) (Lf:List Pt) (rv ov:Value) (W:World):Prop:=
 ∃(left:Lit->Bool) (cnt:Nat) (E:List Te),nR W w.heap.size bl mb r n get left cnt S c l Lf E ov rv/\E.length+cnt<=l*8192+8192/\bl<=W.heap.size/\Below w.heap.size w W
theorem al.grow' {W W':World} {base t sz:Nat} {v:Value} {l:List (List Value)} (h:al W base t sz v l) (hb:Below W.heap.size W W'):al W' base t sz v l:=h.grow hb
theorem qk (b off c:Nat) (l:List Pt) (w:World) (hn:l.length<=4096) (hbw:b<w.heap.size) (hr:aB w b off 9 (l.map Pt.row)):
 Calls Tryz.prog 57 #[.slice (some ⟨b,off,none⟩) l.length c] w fun r w'=>(∃v,r=.returned v/\aq w' w.heap.size v l)/\Below w.heap.size w w':=by
 have h9:gF w b off l.length (fun i j=>(l[i]!).f j):=fun i hi j hj=>by
  have:=hr i (l[i]!).row (by rw[List.getElem?_map,List.getElem?_eq_getElem hi,getElem!_pos l i hi];rfl) j hj;rw[Pt.row_at _ j hj] at this;exact this
 have e:gR (gO (fun i j=>(l[i]!).f j) l.length)=l.map Pt.row:=by
  refine List.ext_getElem? fun i=>?_
  by_cases hi:i<l.length
  ·simp[gR,gO,hi];rfl
  ·simp[gR,gO,hi]
 refine(pR b off l.length c _ w (by omega) hbw h9).mono ?_;rintro r w' ⟨⟨v,rfl,hv⟩,hb⟩;rw[e] at hv;exact⟨⟨v,rfl,hv⟩,hb⟩
theorem mA (a:Option Addr) (c:Nat) (w:World):
 Calls Tryz.prog 57 #[.slice a 0 c] w fun r w'=>(∃v,r=.returned v/\aq w' w.heap.size v [])/\Below w.heap.size w w':=by
 obtain⟨i0,hi,hz0,hz1,hz2⟩:=aF ix;have HI:=ae hi;have HZ0:=ae hz0;have HZ1:=ae hz1;have HZ2:=ae hz2;clear hi hz0 hz1 hz2
 cases a with
 |none=>
  have heq:=fun w=>Lib.run_eql_slice_nil (P:=Tryz.prog) w 35 106 none 0 c 0 0 Tryz.underlying35
  go_enter Tryz.func57,Tryz.ntmps57;go_wp2_with fail;go_ret;exact⟨⟨_,rfl,al.nil _ _ _ _⟩,Below.refl _ _⟩
 |some ad=>
  have heq:=fun w=>Lib.run_eql_slice_nil (P:=Tryz.prog) w 35 106 (some ad) 0 c 0 0 Tryz.underlying35
  have hown0:al (w.alloc (.cells #[] 106)) w.heap.size 106 9 (.slice (some ⟨w.heap.size,0,none⟩) 0 0) []:=⟨bF.nil 9,rfl,Or.inr ⟨_,0,#[],rfl,Nat.le_refl _,(by repeat' (first| (refine ai _ _ _ ?_;(first|rfl| (simp;done) | (simp;omega))) | (refine am _ _ _ _ ?_))),Nat.le_refl _,by unfold maxLen;omega,rfl,rfl⟩⟩;have HOWN:=ae hown0;clear hown0;go_enter Tryz.func57,Tryz.ntmps57
  go_wp2_with (first
   | (at_builtin
      refine wpList_append_own_at _ rfl (.tmp 5) (.tmp 6) 35 rfl w.heap.size 106 i0 _ 9 72 Tryz.underlying35 HI.out HZ0.out HZ1.out HZ2.out rfl (by decide) _ 0 [] rfl HOWN.out.2 ad 0 c [] rfl rfl (fun j u h=>by simp at h) (fun u h=>by simp at h) (by unfold maxLen;omega) (by omega) (by simp) ?_;intro v' w1 hown hgrow _ halt;have HO:=ae (show al w1 w.heap.size 106 9 v' [] from⟨bF.nil 9,by simpa using hown⟩);have HB:=ae (show Below w.heap.size w w1 from((Below.refl _ _).alloc (Nat.le_refl _) _).grown hgrow (by simp) (fun k hk=>by have e:some w.heap.size=some k:=hk;injection e with e;omega))
      clear hown hgrow halt))
  go_ret;exact⟨⟨v',rfl,HO.out⟩,HB.out⟩
theorem DV (pv:Value) (S:List Pt) (c:Nat) (w:World) (hS:kZ S) (hfine:∀p∈S,p.fine) (hlen:S.length<=4096) (hcl:Calls Tryz.prog 57 #[pv] w fun r w'=>(∃v,r=.returned v/\aq w' w.heap.size v S)/\Below w.heap.size w w'):
 Calls Tryz.prog 37 #[pv,.int .i64 c] w fun r w'=>(∃v E,r=.returned v/\bw w' w.heap.size v E/\bE S c (E.map Te.tl))/\Below w.heap.size w w':=by
 have GO:=ae hcl;have HS:=ae hS;have HF:=ae hfine;clear hcl hS hfine;have hmk:=wS;obtain⟨i0,hi,hz0,hz1,hz2⟩:=aF ix;have HI:=ae hi;have HZ0:=ae hz0;have HZ1:=ae hz1;have HZ2:=ae hz2;clear hi hz0 hz1 hz2;obtain⟨i1,hi,hz0,hz1,hz2⟩:=aF uD;have JI:=ae hi;have JZ0:=ae hz0;have JZ1:=ae hz1;have JZ2:=ae hz2;clear hi hz0 hz1 hz2;go_enter Tryz.func37,Tryz.ntmps37;go_wp2_with fail;refine GO.out.mono ?_;rintro r w1 ⟨⟨v0,rfl,hv⟩,hb1⟩;have HB1:=ae hb1;have HV:=ae hv;clear hb1 hv GO;go_wp2_with fail;refine(rr v0 S w.heap.size w1 HV.out (by omega)).mono ?_;rintro r w2 ⟨rfl,L0,hperm,hpw,hown,hg⟩;have HB2:=ae (show Below w.heap.size w w2 from HB1.out.grown hg HB1.out.size (fun k hk=>al.ownBlock HV.out k hk));have mQ:=ae (show cP S c 0 L0 from vx HS.out hperm hpw);have Ft:=ae (show aq w2 w.heap.size v0 L0 from hown);clear hperm hpw hown hg HB1 HV;go_wp2_with fail
 go_loopw [5,6,7] (fun lv ov iv W=>Gk w S c lv ov iv W) (fun _ _ iv _=>13-(intOf iv).toNat)
 case atStart=>exact⟨0,L0,[],by omega,rfl,mQ.out,Ft.out,⟨al.nil _ _ _ _,fun e he=>by simp at he⟩,cC.nil (fun p k h=>by obtain⟨_,h1,h2⟩:=h;obtain⟨m,_,h3⟩:=xi h1;omega),fun e he=>by simp at he,by simp,HB2.out⟩
 case round=>
  obtain⟨l,Lf,E,hl,rfl,hlf,hol,hte,htl,hks,hel,hB⟩:=hrel;obtain⟨la,lcap,hlv⟩:=hol.slice;subst hlv;have wk:=ae hlf;have AF:=ae hol;have wl:=ae hte;have GY:=ae htl;have yt:=ae hks;have jB:=ae hel;have aA:=ae hB;have hzw:=hB.size;have Nd:Lf.length<=4096:=Nat.le_trans (by rw[hlf.perm.length_eq];exact List.length_filter_le _ _) hlen;clear hlf hol hte htl hks hel hB;obtain⟨n,hnl⟩:∃n,n=Lf.length:=⟨_,rfl⟩;rw[<-hnl] at Nd AF⊢;have js:=ae hnl;clear hnl;by_cases hgo:l<=12/\0<n
  ·obtain⟨hl12,hpos⟩:=hgo;have d1:decide ((l:Int)<=12)=true:=decide_eq_true (by omega);have d2:decide ((0:Int)<(n:Int))=true:=decide_eq_true (by omega);obtain⟨g,gcap,hsl,hgb,hgs,hcells⟩:=aq.cells AF.out (by rw[<-js.out];exact hpos);injection hsl with hsl hnn hcap
   clear hnn;subst hsl hcap;have HC:=ae hcells;clear hcells;refine au (fun W0 hW0=>?_);subst hW0;obtain⟨W3,hW3⟩:∃W3,W3=W0.alloc (.map #[] 0):=⟨_,rfl⟩;have JJ:=ae (show bI Tryz.prog W3 99 W0.heap.size 0 (fun _=>none) by rw[hW3];exact bI.made W0);have HB3:=ae (show Below W0.heap.size W0 W3 by rw[hW3];(repeat' (first| (with_reducible first|exact Below.refl _ _|assumption|refine Below.alloc ?_ ?_ _|refine Below.drew ?_ |refine below_drewN ?_ _|refine Below.setCell ?_ ?_ _|refine below_setRow ?_ ?_ _) |go_size)));have hs3:W3.heap.size=W0.heap.size+1:=by rw[hW3];simp
   have HW3:=ae hW3;clear hW3;go_wp2_with fail
   go_loopw [9,31] (fun rv iv W=>IP W3 W0.heap.size n S c l Lf rv iv W) (fun _ iv _=>n-(intOf iv).toNat)
   case atStart=>
    rw[<-HW3.out];exact⟨0,_,by omega,rfl,JJ.out,iz.start _ _ _ _ _ _,al.nil _ _ _ _,fun _ _ _ _ h=>(by cases h),bT.refl _ _⟩
   case round=>
    obtain⟨i,get,hi,rfl,hmap,hgr,hor,hap,htu⟩:=hrel;obtain⟨ra,rcap,hrs⟩:=aq.slice hor;have hrn:(pe S c l Lf i).length <=4096:=by
     refine Nat.le_trans (List.length_filter_le _ _) ?_;rw[List.length_take];have:=js.out;omega
    obtain⟨rn,hrnl⟩:∃rn,rn=(pe S c l Lf i).length :=⟨_,rfl⟩;rw[<-hrnl] at hrs hrn;subst hrs;have C3:=ae hrnl;have sW:=ae hrn;clear hrnl hrn;have lS:=ae hmap;have FN:=ae hgr;have uq:=ae hor;have sS:=ae hap;have pA:=ae htu;have hzr:=htu.size;clear hmap hgr hor hap htu;by_cases hlt:i<n
    ·obtain⟨p,hp⟩:∃p,Lf[i]? =some p:=⟨_,List.getElem?_eq_getElem (by rw[<-js.out];exact hlt)⟩;have hpf:p.fine:=HF.out p (wk.out.mem.1 (List.mem_of_getElem? hp)).1;have hcell:∀j,j<9->wr.cell? ⟨g,i*9+j,none⟩=some (.int .i64 (p.f j)):=fun j hj=>by
      rw[World.cell?_of_block (w:=W3) (pA.out.block g (by omega) (by omega)),World.cell?_of_block (w:=W0) (HB3.out.block g hgs)];exact HC.out i p hp j hj
     have HP:=ae hp;have Fj:=ae hpf;obtain⟨p0,p1,p2,p3,p4,p5,p6,p7,p8⟩:=p;have c0:wr.cell? ⟨g,i*9,none⟩=some (.int .i64 p0):=hcell 0 (by decide);have c1:wr.cell? ⟨g,i*9+1,none⟩=some (.int .i64 p1):=hcell 1 (by decide);have c2:wr.cell? ⟨g,i*9+2,none⟩=some (.int .i64 p2):=hcell 2 (by decide);have c3:wr.cell? ⟨g,i*9+3,none⟩=some (.int .i64 p3):=hcell 3 (by decide);have c4:wr.cell? ⟨g,i*9+4,none⟩=some (.int .i64 p4):=hcell 4 (by decide);have c5:wr.cell? ⟨g,i*9+5,none⟩=some (.int .i64 p5):=hcell 5 (by decide);have c6:wr.cell? ⟨g,i*9+6,none⟩=some (.int .i64 p6):=hcell 6 (by decide);have c7:wr.cell? ⟨g,i*9+7,none⟩=some (.int .i64 p7):=hcell 7 (by decide);have c8:wr.cell? ⟨g,i*9+8,none⟩=some (.int .i64 p8):=hcell 8 (by decide);have hx: -268435456<=p1/\p1<=268435456:=hpf.2.1;have hy: -268435456<=p2/\p2<=268435456:=hpf.2.2.1;have hz: -268435456<=p3/\p3<=268435456:=hpf.2.2.2;have rR:=ae (fun W=>qm p0 p1 p2 p3 p4 p5 p6 p7 p8 l hl12 hx hy hz W);obtain⟨k1,hk1⟩:∃k1,bN p1 l=k1:=⟨_,rfl⟩;obtain⟨k2,hk2⟩:∃k2,bN p2 l=k2:=⟨_,rfl⟩;obtain⟨k3,hk3⟩:∃k3,bN p3 l=k3:=⟨_,rfl⟩;have HK:=ae (show aK l ⟨p0,p1,p2,p3,p4,p5,p6,p7,p8⟩=⟨(l:Int),k1,k2,k3⟩ by unfold aK;rw[hk1,hk2,hk3]);have FJ:=ae (show fx l p1 p2 p3= #[.int .i64 (l:Int),.int .i64 k1,.int .i64 k2,.int .i64 k3] by unfold fx;rw[hk1,hk2,hk3]);obtain⟨kl,hkl⟩:∃kl,kl=dt (aK l ⟨p0,p1,p2,p3,p4,p5,p6,p7,p8⟩):=⟨_,rfl⟩;have eT:=ae hkl;have fF:=ae (show keyOf Tryz.prog 99 (.agg #[.int .i64 (l:Int),.int .i64 k1,.int .i64 k2,.int .i64 k3])=some kl by rw[hkl];have:=gC _ (dL hpf hl12);rw[HK.out] at this⊢;exact this);obtain⟨v,hvv⟩:∃v,v=(get kl).getD (.slice none 0 0):=⟨_,rfl⟩;have hov:aq wr W3.heap.size v (jw S c l Lf i (aK l ⟨p0,p1,p2,p3,p4,p5,p6,p7,p8⟩))/\∀g,v.ownBlock=some g->get (dt (aK l ⟨p0,p1,p2,p3,p4,p5,p6,p7,p8⟩))=some v:=by
      rw[<-hkl]
      cases hgk:get kl with
      |none=>
       rw[hgk] at hvv;rw[FN.out.none _ (dL hpf hl12) (by rw[<-hkl];exact hgk)];subst hvv;exact⟨al.nil _ _ _ _,fun g h=>by cases h⟩
      |some u=>
       rw[hgk] at hvv;obtain rfl:v=u:=hvv;exact⟨(FN.out.own _ (dL hpf hl12) v (by rw[<-hkl];exact hgk)).1,fun _ _=>rfl⟩
     obtain⟨G6,Kj⟩:=hov;obtain⟨va,vcap,hvs⟩:=aq.slice G6;have HT:=ae (yF wk.out hp);have dK:=ae G6;have NS:=ae Kj;obtain⟨m,hm⟩:∃m,m=(jw S c l Lf i (aK l ⟨p0,p1,p2,p3,p4,p5,p6,p7,p8⟩)).length :=⟨_,rfl⟩;have BS:m<=4096:=by
      rw[hm];refine Nat.le_trans (List.length_filter_le _ _) ?_;rw[List.length_take];have:=js.out;omega
     rw[<-hm] at hvs HT;subst hvs;have M2:=ae hvv;have zV:=ae hm;have Ik:=ae BS;clear BS;have d3:decide ((i:Int)<(n:Int))=true:=decide_eq_true (by omega);clear hcell hpf hk1 hk2 hk3 hkl hvv G6 Kj hm hx hy hz hp;go_wp2_with fail;refine(rR.out _).mono ?_;rintro r W4 ⟨rfl,hb4⟩;rw[FJ.out];have Ix:W4.heap[wr.heap.size]? =some (.cells #[.int .i64 p0,.int .i64 p1,.int .i64 p2,.int .i64 p3,.int .i64 p4,.int .i64 p5,.int .i64 p6,.int .i64 p7,.int .i64 p8] 106):=aj hb4 (ai _ _ _ rfl);have px:=ae Ix;have bm:=ae (show Below wr.heap.size wr W4 from((Below.refl _ _).alloc (Nat.le_refl _) _).trans (hb4.mono (by simp)));have KI:=ae (lS.out.grow bm.out);have hs4:=bm.out.size;have Ms:=hb4.size;simp at Ms;have hlook:(Instr.lookup 130 (.map (some W0.heap.size)) (.agg #[.int .i64 (l:Int),.int .i64 k1,.int .i64 k2,.int .i64 k3]) false).run Tryz.prog (W4.alloc (.cells #[.int .i64 (l:Int),.int .i64 k1,.int .i64 k2,.int .i64 k3] 99))=.ok (.slice va m vcap) (W4.alloc (.cells #[.int .i64 (l:Int),.int .i64 k1,.int .i64 k2,.int .i64 k3] 99)):=by
      rw[M2.out];exact(KI.out.grow ((Below.refl _ _).alloc (Nat.le_refl _) _)).look et Tryz.underlying130 (oF _) fF.out
     have hq:∀j (u:Value),(#[Value.int .i64 p0,.int .i64 p1,.int .i64 p2,.int .i64 p3,.int .i64 p4,.int .i64 p5,.int .i64 p6,.int .i64 p7,.int .i64 p8])[j]? =some u->(W4.alloc (.cells #[.int .i64 (l:Int),.int .i64 k1,.int .i64 k2,.int .i64 k3] 99)).cell? ⟨wr.heap.size,j,none⟩=some u:=fun j u h=>(af (am _ _ _ _ Ix)).trans h
     have q0:=hq 0 _ rfl;have q1:=hq 1 _ rfl;have q2:=hq 2 _ rfl;have q3:=hq 3 _ rfl;have q4:=hq 4 _ rfl;have q5:=hq 5 _ rfl;have q6:=hq 6 _ rfl;have q7:=hq 7 _ rfl;have q8:=hq 8 _ rfl;clear hq hb4 Ix c0 c1 c2 c3 c4 c5 c6 c7 c8 rR FJ;by_cases hmc:m<c
     ·have d5:decide ((m:Int)<(c:Int))=true:=decide_eq_true (by omega);have o9:=ae (show takes S c l ⟨p0,p1,p2,p3,p4,p5,p6,p7,p8⟩=true by rw[HT.out];simp[hmc]);go_upto_region 14 with fail;have oI:=ae (show Below wr.heap.size wr ((W4.alloc (.cells #[.int .i64 (l:Int),.int .i64 k1,.int .i64 k2,.int .i64 k3] 99)).alloc (.cells #[.int .i64 p0,.int .i64 p1,.int .i64 p2,.int .i64 p3,.int .i64 p4,.int .i64 p5,.int .i64 p6,.int .i64 p7,.int .i64 p8] 106)) from(bm.out.alloc bm.out.size _).alloc (cM bm.out.size _) _)
      go_wp2_with (first
       | (refine iO rfl (.tmp 48) (.tmp 49) 130 rfl et Tryz.underlying130 rfl (lS.out.grow oI.out) (by unfold maxLen;omega) (oF _) (.agg #[.int .i64 (l:Int),.int .i64 k1,.int .i64 k2,.int .i64 k3]) kl rfl fF.out ?_
          intro W6 s zT da Ga;rw[<-M2.out] at zT⊢;have HRW:=ae (aB.one (sz:=9) ((da.block (W4.heap.size+1) (by simp) (by intro h;injection h with h;have:=lS.out.lt;omega)).trans (ai _ _ _ (by simp))));have Fa:=ae zT;have J3:=ae Ga;have yN:=ae da;have NJ:=ae (show al W6 W3.heap.size 106 9 (.slice va m vcap) ((jw S c l Lf i (aK l ⟨p0,p1,p2,p3,p4,p5,p6,p7,p8⟩)).map Pt.row) from(al.grow' dK.out oI.out).turned (aN da) (fun b hb e=>gD dK.out lS.out hb (by injection e)));have Hk:=ae (show W3.heap.size<=W6.heap.size from Nat.le_trans hzr (Nat.le_trans oI.out.size da.size));have zW:=ae (show some W0.heap.size≠(Value.slice va m vcap).ownBlock from fun e=>gD dK.out lS.out e.symm rfl)
          clear zT Ga da)
       | (at_builtin
          refine ar rfl (.tmp 50) (.tmp 52) 35 rfl W3.heap.size 106 i0 _ 9 72 Tryz.underlying35 HI.out HZ0.out HZ1.out HZ2.out rfl (by decide) (.slice va m vcap) _ [[.int .i64 p0,.int .i64 p1,.int .i64 p2,.int .i64 p3,.int .i64 p4,.int .i64 p5,.int .i64 p6,.int .i64 p7,.int .i64 p8]] rfl NJ.out (W4.heap.size+1) 0 1 1 rfl rfl HRW.out (tC _ _ _ _ _ _ _ _ _) (by rw[List.length_map,<-zV.out];show m+1<=maxLen;have:=Ik.out;unfold maxLen;omega) (by rw[List.length_map,<-zV.out];show(m+1)*72<=140737488355328;have:=Ik.out;omega) Hk.out ?_;intro v7 W7 i4 jV mF;have Dr:=ae (Fa.out.kept jV zW.out);have mm:=ae (J3.out.kept jV zW.out);have lw:=ae i4;have Io:=ae jV;have wD:=ae mF
          clear i4 jV mF)
       | (refine eL rfl (.tmp 48) (.tmp 55) (.tmp 54) 130 rfl et Tryz.underlying130 rfl Dr.out (by unfold maxLen;omega) s rfl v7 rfl (.agg #[.int .i64 (l:Int),.int .i64 k1,.int .i64 k2,.int .i64 k3]) kl fF.out mm.out ?_
          intro W8 xt rK;have Ic:=ae xt;have FP:=ae rK
          clear xt rK))
      obtain⟨g8,o8,a8,t8⟩:=su rfl FN.out uq.out sS.out pA.out lS.out HP.out o9.out Fj.out hl12 dK.out NS.out oI.out yN.out Io.out FP.out lw.out wD.out;have m8:=Ic.out;rw[oy,eT.out] at m8;exact⟨⟨i+1,_,by omega,by go_num,m8.mono (by omega),g8,o8,a8,t8⟩,by simp[intOf];omega⟩
     ·have d5:decide ((m:Int)<(c:Int))=false:=decide_eq_false (by omega);by_cases hl2:l=12
      ·have d6:((l:Int) == 12)=true:=by simp;omega
       have o9:=ae (show takes S c l ⟨p0,p1,p2,p3,p4,p5,p6,p7,p8⟩=true by rw[HT.out];simp[hl2]);clear hl2;go_upto_region 14 with fail;have oI:=ae (show Below wr.heap.size wr ((W4.alloc (.cells #[.int .i64 (l:Int),.int .i64 k1,.int .i64 k2,.int .i64 k3] 99)).alloc (.cells #[.int .i64 p0,.int .i64 p1,.int .i64 p2,.int .i64 p3,.int .i64 p4,.int .i64 p5,.int .i64 p6,.int .i64 p7,.int .i64 p8] 106)) from(bm.out.alloc bm.out.size _).alloc (cM bm.out.size _) _)
       go_wp2_with (first
        | (refine iO rfl (.tmp 48) (.tmp 49) 130 rfl et Tryz.underlying130 rfl (lS.out.grow oI.out) (by unfold maxLen;omega) (oF _) (.agg #[.int .i64 (l:Int),.int .i64 k1,.int .i64 k2,.int .i64 k3]) kl rfl fF.out ?_
           intro W6 s zT da Ga;rw[<-M2.out] at zT⊢;have HRW:=ae (aB.one (sz:=9) ((da.block (W4.heap.size+1) (by simp) (by intro h;injection h with h;have:=lS.out.lt;omega)).trans (ai _ _ _ (by simp))));have Fa:=ae zT;have J3:=ae Ga;have yN:=ae da;have NJ:=ae (show al W6 W3.heap.size 106 9 (.slice va m vcap) ((jw S c l Lf i (aK l ⟨p0,p1,p2,p3,p4,p5,p6,p7,p8⟩)).map Pt.row) from(al.grow' dK.out oI.out).turned (aN da) (fun b hb e=>gD dK.out lS.out hb (by injection e)));have Hk:=ae (show W3.heap.size<=W6.heap.size from Nat.le_trans hzr (Nat.le_trans oI.out.size da.size));have zW:=ae (show some W0.heap.size≠(Value.slice va m vcap).ownBlock from fun e=>gD dK.out lS.out e.symm rfl)
           clear zT Ga da)
        | (at_builtin
           refine ar rfl (.tmp 50) (.tmp 52) 35 rfl W3.heap.size 106 i0 _ 9 72 Tryz.underlying35 HI.out HZ0.out HZ1.out HZ2.out rfl (by decide) (.slice va m vcap) _ [[.int .i64 p0,.int .i64 p1,.int .i64 p2,.int .i64 p3,.int .i64 p4,.int .i64 p5,.int .i64 p6,.int .i64 p7,.int .i64 p8]] rfl NJ.out (W4.heap.size+1) 0 1 1 rfl rfl HRW.out (tC _ _ _ _ _ _ _ _ _) (by rw[List.length_map,<-zV.out];show m+1<=maxLen;have:=Ik.out;unfold maxLen;omega) (by rw[List.length_map,<-zV.out];show(m+1)*72<=140737488355328;have:=Ik.out;omega) Hk.out ?_;intro v7 W7 i4 jV mF;have Dr:=ae (Fa.out.kept jV zW.out);have mm:=ae (J3.out.kept jV zW.out);have lw:=ae i4;have Io:=ae jV;have wD:=ae mF
           clear i4 jV mF)
        | (refine eL rfl (.tmp 48) (.tmp 55) (.tmp 54) 130 rfl et Tryz.underlying130 rfl Dr.out (by unfold maxLen;omega) s rfl v7 rfl (.agg #[.int .i64 (l:Int),.int .i64 k1,.int .i64 k2,.int .i64 k3]) kl fF.out mm.out ?_
           intro W8 xt rK;have Ic:=ae xt;have FP:=ae rK
           clear xt rK))
       obtain⟨g8,o8,a8,t8⟩:=su rfl FN.out uq.out sS.out pA.out lS.out HP.out o9.out Fj.out hl12 dK.out NS.out oI.out yN.out Io.out FP.out lw.out wD.out;have m8:=Ic.out;rw[oy,eT.out] at m8;exact⟨⟨i+1,_,by omega,by go_num,m8.mono (by omega),g8,o8,a8,t8⟩,by simp[intOf];omega⟩
      ·have d6:((l:Int) == 12)=false:=by simp;omega
       have o9:=ae (show takes S c l ⟨p0,p1,p2,p3,p4,p5,p6,p7,p8⟩=false by rw[HT.out];simp[hmc,hl2]);go_upto_region 15 with fail;have oI:=ae (show Below wr.heap.size wr ((W4.alloc (.cells #[.int .i64 (l:Int),.int .i64 k1,.int .i64 k2,.int .i64 k3] 99)).alloc (.cells #[.int .i64 p0,.int .i64 p1,.int .i64 p2,.int .i64 p3,.int .i64 p4,.int .i64 p5,.int .i64 p6,.int .i64 p7,.int .i64 p8] 106)) from(bm.out.alloc bm.out.size _).alloc (cM bm.out.size _) _);have LK:=ae (al.grow' uq.out oI.out);have CC:=ae (show aB ((W4.alloc (.cells #[.int .i64 (l:Int),.int .i64 k1,.int .i64 k2,.int .i64 k3] 99)).alloc (.cells #[.int .i64 p0,.int .i64 p1,.int .i64 p2,.int .i64 p3,.int .i64 p4,.int .i64 p5,.int .i64 p6,.int .i64 p7,.int .i64 p8] 106)) (W4.heap.size+1) 0 9 [[.int .i64 p0,.int .i64 p1,.int .i64 p2,.int .i64 p3,.int .i64 p4,.int .i64 p5,.int .i64 p6,.int .i64 p7,.int .i64 p8]] from aB.one (ai _ _ _ (by simp)));have EI:=ae (show((pe S c l Lf i).map Pt.row).length +1<=maxLen by rw[List.length_map,<-C3.out];have:=sW.out;unfold maxLen;omega);have I4:=ae (show(((pe S c l Lf i).map Pt.row).length +1)*72<=140737488355328 by rw[List.length_map,<-C3.out];have:=sW.out;omega);have xr:=ae (Nat.le_trans hzr oI.out.size)
       go_wp2_with (first
        | (at_builtin
           refine ar rfl (.tmp 56) (.tmp 58) 35 rfl W3.heap.size 106 i0 _ 9 72 Tryz.underlying35 HI.out HZ0.out HZ1.out HZ2.out rfl (by decide) (.slice ra rn rcap) _ [[.int .i64 p0,.int .i64 p1,.int .i64 p2,.int .i64 p3,.int .i64 p4,.int .i64 p5,.int .i64 p6,.int .i64 p7,.int .i64 p8]] rfl LK.out (W4.heap.size+1) 0 1 1 rfl rfl CC.out (tC _ _ _ _ _ _ _ _ _) EI.out I4.out xr.out ?_;intro v6 W6 aV da mt;have fD:=ae aV;have yN:=ae da;have kU:=ae mt
           clear aV da mt))
       obtain⟨m6,g6,o6,a6,t6⟩:=Bd rfl FN.out uq.out sS.out pA.out lS.out HP.out o9.out oI.out yN.out fD.out kU.out;exact⟨⟨i+1,get,by omega,by go_num,m6.mono (by omega),g6,o6,a6,t6⟩,by simp[intOf];omega⟩
    ·obtain rfl:i=n:=by omega
     have d3:decide ((i:Int)<(i:Int))=false:=by simp
     go_wp2_with (refine gK rfl (.tmp 61) 130 rfl et Tryz.underlying130 rfl lS.out ?_
                  intro W9 cnt FT kF Bc;have Db:=ae FT;have qM:=ae kF;have Pb:=ae Bc
                  clear FT kF Bc)
     have MI:W3.heap.size<=W9.heap.size:=Nat.le_trans hzr qM.out.size
     have HRW:=ae (show Ct w W3.heap.size W0.heap.size wr.heap.size (2*i) get S c l Lf (.slice ra rn rcap) u6 W9 from by
      have t9:bT W0 W9 (fun k=>k=W0.heap.size):=(bT.trans (dr HB3.out (fun k=>k=W0.heap.size)) pA.out (fun k _ e=>e)).trans (aN qM.out) (fun k _ e=>by cases e);have tr:bT wr W9 (fun _=>False):=⟨qM.out.os,qM.out.tape,qM.out.output,qM.out.size,fun k hk _=>qM.out.block k hk (by simp)⟩;have hcn:=Db.out.cnt_le;have hin:=js.out;have hel:=jB.out;refine⟨_,cnt,E,xZ HF.out wk.out hl12 ?_ Db.out (wl.out.turned t9 (fun k hk e=>by omega)) GY.out (fun e he g hg=>?_) ?_ yt.out,by omega,MI,t9.below aA.out hzw (fun k e=>by omega)⟩
      ·rw[<-hin];exact FN.out.keep tr (fun _ e=>e)
      ·have:=al.lt (wl.out.2 e he) hg;omega
      ·rw[<-hin]
       exact al.turned uq.out tr (fun _ _ e=>e))
     go_frame
     go_loopw [6] (fun ov W=>Ct w W3.heap.size W0.heap.size wr.heap.size (2*i) get S c l Lf (.slice ra rn rcap) ov W) (fun _ W=>W.rangeLeft W0.heap.size wr.heap.size)
     case atStart=>exact HRW.out
     case round=>
      obtain⟨left,cnt2,E2,hra,hcnt,hblr,hBr⟩:=hrel;have gg:=ae hra;have uv:=ae hcnt;have Da:=ae hBr;obtain⟨oa,ocap,hos⟩:=al.slice hra.tin.1;rw[List.length_map] at hos;obtain⟨on,hon⟩:∃on,on=E2.length:=⟨_,rfl⟩;rw[<-hon] at hos;have PU:=ae hon;subst hos;clear hra hcnt hBr hon
      go_wp2_with (refine fE rfl (.tmp 62) rfl et rfl gg.out.rng gg.out.has ?_ ?_
                   intro hd;have HD:=ae hd;clear hd
                   rotate_left
                   intro key vv KF W10 cnt3 hk2 hl2 hg2 rf hlt k8 mw hen;obtain⟨k,hks,JW,rfl⟩:=FN.out.back KF vv hg2;obtain rfl:=et.inj hk2 (gC k hks);obtain⟨va,vcap,hvs⟩:=aq.slice (gg.out.own k hks vv hg2 hl2);obtain⟨vn,hvn⟩:∃vn,vn=(jw S c l Lf Lf.length k).length :=⟨_,rfl⟩;rw[<-hvn] at hvs;subst hvs;have KJ:=ae hvn;have OD:=ae (show ∃k',k'=k from⟨k,rfl⟩);obtain⟨k0,k1,k2,k3⟩:=k;simp only[Ky.row] at hen⊢;have Ds:=ae hks;have fF:=ae JW;have HL2:=ae hl2;have HG2:=ae hg2;have BB:=ae rf;have lm:=ae hlt;have mc:=ae k8;have KD:=ae mw;clear hks JW hl2 hg2 rf hlt k8 mw hvn hk2
                   rotate_right)
      ·have hcn:=uv.out;refine⟨⟨l+1,pe S c l Lf Lf.length,E2,by omega,by go_num,?_,al.mono gg.out.rest (by omega),gg.out.tin,gg.out.done HD.out,gg.out.keys,by omega,Da.out⟩,by simp[intOf];omega⟩;have h1:=wk.out.next;unfold pe;rw[List.take_length];exact h1
      ·have G1:=ae (show aq W10 W3.heap.size (.slice va vn vcap) (jw S c l Lf Lf.length ⟨k0,k1,k2,k3⟩) from al.turned (gg.out.own _ Ds.out _ HG2.out HL2.out) (aN mc.out) (fun b hb e=>fS (gg.out.own _ Ds.out _ HG2.out HL2.out) gg.out.rng hb (by injection e)));have DT:=ae (show Below W10.heap.size W10 (W10.alloc (.cells #[.int .i64 k0,.int .i64 k1,.int .i64 k2,.int .i64 k3] 99)) from(Below.refl _ _).alloc (Nat.le_refl _) _)
       have qL:=ae (show ∀p∈jw S c l Lf Lf.length ⟨k0,k1,k2,k3⟩,p.fine from fun p hp=>by
        have h1:=(xh.1 hp).1;rw[List.take_length] at h1
        exact HF.out p (wk.out.mem.1 h1).1)
       have If:=ae (show(jw S c l Lf Lf.length ⟨k0,k1,k2,k3⟩).length <=4096 from by
        refine Nat.le_trans (List.length_filter_le _ _) ?_;rw[List.take_length,<-js.out]
        exact Nd)
       refine(jS (.slice va vn vcap) (jw S c l Lf Lf.length ⟨k0,k1,k2,k3⟩) W3.heap.size _ (al.grow' G1.out DT.out) (by have:=If.out;omega) (fun p hp=>(qL.out p hp).1)).mono ?_;rintro r W11 ⟨rfl,pts,hperm,hasc,Ar,zx⟩;have hvlt:∀j,(Value.slice va vn vcap).ownBlock =some j->j<W10.heap.size:=fun j hj=>al.lt G1.out hj
       have ox:W11.heap[W10.heap.size]? =some (.cells #[.int .i64 k0,.int .i64 k1,.int .i64 k2,.int .i64 k3] 99):=(zx.block W10.heap.size (by simp) (fun e=>by have:=hvlt _ e.symm;omega)).trans (ai _ _ _ rfl);have q0:W11.cell? ⟨W10.heap.size,0,none⟩=some (.int .i64 k0):=(af (j:=0) ox).trans rfl;have q1:W11.cell? ⟨W10.heap.size,1,none⟩=some (.int .i64 k1):=(af (j:=1) ox).trans rfl;have q2:W11.cell? ⟨W10.heap.size,2,none⟩=some (.int .i64 k2):=(af (j:=2) ox).trans rfl;have q3:W11.cell? ⟨W10.heap.size,3,none⟩=some (.int .i64 k3):=(af (j:=3) ox).trans rfl;have EA:=ae zx;have mM:=ae hperm;have rk:=ae hasc;have BL:=ae (show aq W11 W3.heap.size (.slice va vn vcap) pts from Ar);have Hy:=ae (show Below W11.heap.size W11 (W11.alloc (.cells #[.int .i64 k0,.int .i64 k1,.int .i64 k2,.int .i64 k3,.slice va vn vcap] 101)) from(Below.refl _ _).alloc (Nat.le_refl _) _);have dK:=ae (xW gg.out (gg.out.own _ Ds.out _ HG2.out HL2.out) mc.out DT.out EA.out Hy.out);have Ng:=ae (show aB (W11.alloc (.cells #[.int .i64 k0,.int .i64 k1,.int .i64 k2,.int .i64 k3,.slice va vn vcap] 101)) W11.heap.size 0 5 [[.int .i64 k0,.int .i64 k1,.int .i64 k2,.int .i64 k3,.slice va vn vcap]] from aB.one (ai _ _ _ rfl));have hcn:=uv.out;have DI:=ae (show(E2.map Te.row).length +1<=maxLen by rw[List.length_map];unfold maxLen;omega);have EI:=ae (show((E2.map Te.row).length +1)*56<=140737488355328 by rw[List.length_map];omega);have I3:=mc.out.size;have NA:=EA.out.size;have hza:=DT.out.size;have hzb:=Hy.out.size;have bm:=ae (show w.heap.size<=(W11.alloc (.cells #[.int .i64 k0,.int .i64 k1,.int .i64 k2,.int .i64 k3,.slice va vn vcap] 101)).heap.size by omega);have dQ:=ae (show W3.heap.size<=(W11.alloc (.cells #[.int .i64 k0,.int .i64 k1,.int .i64 k2,.int .i64 k3,.slice va vn vcap] 101)).heap.size by omega);have QN:=ae (show ∀j,(Value.slice va vn vcap).ownBlock =some j->w.heap.size<=j from fun j hj=>by have:=al.ownBlock G1.out j hj;omega);clear ox zx hperm hasc Ar hvlt hcn I3 NA hza hzb
       go_wp2_with (first
        | (at_builtin
           refine ar rfl (.tmp 70) (.tmp 74) 45 rfl w.heap.size 101 i1 _ 5 56 Tryz.underlying45 JI.out JZ0.out JZ1.out JZ2.out rfl (by decide) (.slice oa on ocap) _ [[.int .i64 k0,.int .i64 k1,.int .i64 k2,.int .i64 k3,.slice va vn vcap]] rfl dK.out W11.heap.size 0 1 1 rfl rfl Ng.out (CL _ _ _ _ _ _ _) DI.out EI.out bm.out ?_;intro v12 W12 lV zD uR;have Kv:=ae lV;have vC:=ae zD
           clear lV zD uR))
       have h12:=yy gg.out HS.out HF.out wk.out hl12 (by omega) (js.out▸FN.out) sS.out Ds.out fF.out HL2.out HG2.out BB.out mc.out DT.out EA.out BL.out mM.out (rk.out.imp (fun h=>by omega)) Hy.out vC.out Kv.out rfl;have hlt3:=lm.out;have hcn:=uv.out;refine⟨⟨_,cnt3,_,h12,by rw[List.length_append];show E2.length+1+cnt3<=_;omega,Nat.le_trans dQ.out vC.out.size,?_⟩,?_⟩
       ·have b10:Below w.heap.size w W10:=Da.out.grown mc.out Da.out.size (fun j hj=>by injection hj with hj;omega);have b11:Below w.heap.size w W11:=(b10.alloc b10.size _).grown EA.out (cM b10.size _) (fun j hj=>QN.out j hj);exact(b11.alloc b11.size _).grown vC.out (cM b11.size _) (fun j hj=>al.ownBlock dK.out j hj)
       ·rw[h12.rng.left_eq,gg.out.rng.left_eq];exact hlt3
  ·have ND:=ae (show Lf=[] by
    by_cases Qg:l<=12
    ·have h0:n=0:=by omega
     rw[js.out] at h0;exact List.eq_nil_of_length_eq_zero h0
    ·obtain rfl:l=13:=by omega
     exact wk.out.end13)
   have sm:=ae (show cC (fun p k=>p∈S/\fZ S c p k) (E.map Te.tl) from GY.out.congr (fun p k=>⟨fun h=>⟨h.1,h.2.1⟩,fun h=>⟨h.1,h.2,(ND.out▸wk.out).none h.1 h.2⟩⟩));have zr:=ae (show E.length<4611686018427387904 by have:=jB.out;omega);by_cases hl12:l<=12
   ·have h0:n=0:=by omega
    subst h0;have d1:decide ((l:Int)<=12)=true:=decide_eq_true (by omega);clear hgo;go_wp2_with fail;refine(ms u6 E w.heap.size wr wl.out.1 zr.out yt.out).mono ?_;rintro r W5 ⟨rfl,E',hperm,hpw,hown,hg⟩
    have GX:=ae (show bw W5 w.heap.size u6 E'/\bE S c (E'.map Te.tl) from by
     have ht:=sm.out.perm (hperm.symm.map Te.tl);refine⟨⟨hown,fun e he=>al.turned (wl.out.2 e (hperm.mem_iff.1 he)) (aN hg) (fun b hb e2=>fG (wl.out.2 e (hperm.mem_iff.1 he)) wl.out.1 (by decide) hb e2.symm)⟩,iP ht ?_,ht⟩;rw[List.pairwise_map]
     exact hpw)
    have rP:=ae (show Below w.heap.size w W5 from aA.out.grown hg hzw (fun j hj=>al.ownBlock wl.out.1 j hj));clear hperm hpw hown hg;go_wp2_with fail;go_ret;exact⟨⟨u6,E',rfl,GX.out⟩,rP.out⟩
   ·have d1:decide ((l:Int)<=12)=false:=decide_eq_false (by omega);clear hgo;go_wp2_with fail;refine(ms u6 E w.heap.size wr wl.out.1 zr.out yt.out).mono ?_;rintro r W5 ⟨rfl,E',hperm,hpw,hown,hg⟩
    have GX:=ae (show bw W5 w.heap.size u6 E'/\bE S c (E'.map Te.tl) from by
     have ht:=sm.out.perm (hperm.symm.map Te.tl);refine⟨⟨hown,fun e he=>al.turned (wl.out.2 e (hperm.mem_iff.1 he)) (aN hg) (fun b hb e2=>fG (wl.out.2 e (hperm.mem_iff.1 he)) wl.out.1 (by decide) hb e2.symm)⟩,iP ht ?_,ht⟩;rw[List.pairwise_map]
     exact hpw)
    have rP:=ae (show Below w.heap.size w W5 from aA.out.grown hg hzw (fun j hj=>al.ownBlock wl.out.1 j hj));clear hperm hpw hown hg;go_wp2_with fail;go_ret;exact⟨⟨u6,E',rfl,GX.out⟩,rP.out⟩
open Go.RowKit Go.Maps Go.Sort
def cj (W:World) (v:Value) (l:List Pt):Prop:=∃a cap,v=.slice a l.length cap/\(l=[]∨∃b off,a=some ⟨b,off,none⟩/\b<W.heap.size/\aB W b off 9 (l.map Pt.row))
theorem aq.ptsV {W:World} {base:Nat} {v:Value} {l:List Pt} (h:aq W base v l):cj W v l:=by
 by_cases hl:l=[]
 ·obtain⟨a,cap,hv⟩:=h.slice;exact⟨a,cap,hv,Or.inl hl⟩
 ·have hp:0<l.length:=List.length_pos_iff.2 hl;obtain⟨g,cap,cur,h1,hb,h2,h3,_⟩:=al.rows h (by simpa using hp);rw[List.length_map] at h1;exact⟨_,cap,h1,Or.inr ⟨g,0,rfl,(Array.getElem?_eq_some_iff.1 h2).1,h3⟩⟩
theorem cj.still {W W':World} {v:Value} {l:List Pt} (h:cj W v l) (hb:Below W.heap.size W W'):cj W' v l:=by
 obtain⟨a,cap,h1,h2⟩:=h;refine⟨a,cap,h1,?_⟩
 rcases h2 with h2| ⟨b,off,h3,h4,h5⟩
 ·exact Or.inl h2
 ·exact Or.inr ⟨b,off,h3,Nat.lt_of_lt_of_le h4 hb.size,h5.still hb h4⟩
theorem cj.below {B:Nat} {W W':World} {v:Value} {l:List Pt} (h:cj W v l) (hb:Below B W W') (hB:B=W.heap.size:=by rfl):cj W' v l:=by
 subst hB;exact h.still hb
def cQ (W:World) (v:Value) (E:List Te):Prop:=(∃a cap,v=.slice a E.length cap/\(E=[]∨∃b off,a=some ⟨b,off,none⟩/\b<W.heap.size/\aB W b off 5 (E.map Te.row)))/\∀e∈E,cj W e.v e.pts
theorem bw.tilesV {W:World} {base:Nat} {v:Value} {E:List Te} (h:bw W base v E):cQ W v E:=by
 refine⟨?_,fun e he=>(h.2 e he).ptsV⟩;by_cases hl:E=[]
 ·obtain⟨a,cap,hv⟩:=al.slice h.1;rw[List.length_map] at hv;exact⟨a,cap,hv,Or.inl hl⟩
 ·have hp:0<E.length:=List.length_pos_iff.2 hl;obtain⟨g,cap,cur,h1,hb,h2,h3,_⟩:=al.rows h.1 (by simpa using hp);rw[List.length_map] at h1;exact⟨_,cap,h1,Or.inr ⟨g,0,rfl,(Array.getElem?_eq_some_iff.1 h2).1,h3⟩⟩
theorem cQ.still {W W':World} {v:Value} {E:List Te} (h:cQ W v E) (hb:Below W.heap.size W W'):cQ W' v E:=by
 obtain⟨⟨a,cap,h1,h2⟩,h6⟩:=h;refine⟨⟨a,cap,h1,?_⟩,fun e he=>(h6 e he).still hb⟩
 rcases h2 with h2| ⟨b,off,h3,h4,h5⟩
 ·exact Or.inl h2
 ·exact Or.inr ⟨b,off,h3,Nat.lt_of_lt_of_le h4 hb.size,h5.still hb h4⟩
theorem rt (pv:Value) (S:List Pt) (c:Nat) (w:World) (hS:kZ S) (hfine:∀p∈S,p.fine) (hlen:S.length<=4096) (hp:cj w pv S):
 Calls Tryz.prog 37 #[pv,.int .i64 c] w fun r w'=>(∃v E,r=.returned v/\bw w' w.heap.size v E/\bE S c (E.map Te.tl))/\Below w.heap.size w w':=by
 refine DV pv S c w hS hfine hlen ?_;obtain⟨a,cap,rfl,h⟩:=hp
 rcases h with rfl| ⟨b,off,rfl,hb,hr⟩
 ·exact mA a cap w
 ·exact qk b off cap S w hlen hb hr
theorem xe:cA Tryz.prog 10 106=some [some .i64,some .i64,some .i64,some .i64,some .i64,some .i64,some .i64,some .i64,some .i64]:=by kernel_rfl
theorem IE (a b c d e f g h i:Int) (W:World):(Op.equalIn 10000 106 (.agg #[.int .i64 a,.int .i64 b,.int .i64 c,.int .i64 d,.int .i64 e,.int .i64 f,.int .i64 g,.int .i64 h,.int .i64 i]) (.agg #[.int .i64 a,.int .i64 b,.int .i64 c,.int .i64 d,.int .i64 e,.int .i64 f,.int .i64 g,.int .i64 h,.int .i64 i])).run Tryz.prog W=.ok true W:=by
 have h:=dU Tryz.underlying106 xe [.int .i64 a,.int .i64 b,.int .i64 c,.int .i64 d,.int .i64 e,.int .i64 f,.int .i64 g,.int .i64 h,.int .i64 i] [.int .i64 a,.int .i64 b,.int .i64 c,.int .i64 d,.int .i64 e,.int .i64 f,.int .i64 g,.int .i64 h,.int .i64 i] rfl rfl W;rw[kw (ks:=[some .i64,some .i64,some .i64,some .i64,some .i64,some .i64,some .i64,some .i64,some .i64]) rfl] at h;exact h
theorem wW:cA Tryz.prog 10 99=some [some .i64,some .i64,some .i64,some .i64]:=by kernel_rfl
theorem Kp (a b c d:Int) (W:World):(Op.equalIn 10000 99 (.agg #[.int .i64 a,.int .i64 b,.int .i64 c,.int .i64 d]) (.agg #[.int .i64 a,.int .i64 b,.int .i64 c,.int .i64 d])).run Tryz.prog W=.ok true W:=by
 have h:=dU Tryz.underlying99 wW [.int .i64 a,.int .i64 b,.int .i64 c,.int .i64 d] [.int .i64 a,.int .i64 b,.int .i64 c,.int .i64 d] rfl rfl W;rw[kw (ks:=[some .i64,some .i64,some .i64,some .i64]) rfl] at h;exact h
theorem tN (va vb:Value) (l:List Pt) (w:World) (ha:cj w va l) (hb:cj w vb l) (hn:l.length<=4096):
 Calls Tryz.prog 39 #[va,vb] w fun e w'=>e=.returned (.bool true)/\Below w.heap.size w w':=by
 obtain⟨aa,ca,rfl,ha2⟩:=ha;obtain⟨ab,cb,rfl,hb2⟩:=hb;obtain⟨n,hnl⟩:∃n,n=l.length:=⟨_,rfl⟩;rw[<-hnl] at hn⊢;by_cases hl:l=[]
 ·subst hl;obtain rfl:n=0:=hnl;clear ha2 hb2;go_enter Tryz.func39,Tryz.ntmps39;go_wp2_with fail;refine wp_loop_rounds 1 ?_;rw[rounds_succ];go_wp2_with fail;go_ret;exact⟨rfl,by(repeat' (first| (with_reducible first|exact Below.refl _ _|assumption|refine Below.alloc ?_ ?_ _|refine Below.drew ?_ |refine below_drewN ?_ _|refine Below.setCell ?_ ?_ _|refine below_setRow ?_ ?_ _) |go_size))⟩
 ·obtain⟨b1,o1,rfl,hb1,hr1⟩:=ha2.resolve_left hl;obtain⟨b2,o2,rfl,mV,hr2⟩:=hb2.resolve_left hl;have H1:=ae hr1;have H2:=ae hr2;have js:=ae hnl;clear ha2 hb2 hl hr1 hr2 hnl;have heq:=IE;go_enter Tryz.func39,Tryz.ntmps39;go_wp2_with fail
  go_loopw [13] (fun iv W=>∃k:Nat,k<=n/\iv=.int .i64 (k:Int)/\Below w.heap.size w W) (fun iv _=>n-(intOf iv).toNat)
  case atStart=>exact⟨0,by omega,rfl,Below.refl _ _⟩
  case round=>
   obtain⟨k,hk,rfl,hB⟩:=hrel;have aA:=ae hB;have hzw:=hB.size;by_cases hlt:k<n
   ·obtain⟨p,hp⟩:∃p,l[k]? =some p:=⟨_,List.getElem?_eq_getElem (by rw[<-js.out];exact hlt)⟩;have hc1:∀j,j<9->wr.cell? ⟨b1,o1+k*9+j,none⟩=some (.int .i64 (p.f j)):=fun j hj=>by
     rw[hB.cell hb1,H1.out k p.row (by rw[List.getElem?_map,hp];rfl) j hj,Pt.row_at p j hj]
    have hc2:∀j,j<9->wr.cell? ⟨b2,o2+k*9+j,none⟩=some (.int .i64 (p.f j)):=fun j hj=>by
     rw[hB.cell mV,H2.out k p.row (by rw[List.getElem?_map,hp];rfl) j hj,Pt.row_at p j hj]
    obtain⟨p0,p1,p2,p3,p4,p5,p6,p7,p8⟩:=p;have d3:decide ((k:Int)<(n:Int))=true:=decide_eq_true (by omega);have hk0:(0:Int)<=(k:Int):=by omega
    have a0:=fun d os=>cell_regrown (show wr.cell? ⟨b1,o1+k*9,none⟩=some (.int .i64 p0) from hc1 0 (by decide)) d os
    have a1:=fun d os=>cell_regrown (show wr.cell? ⟨b1,o1+k*9+1,none⟩=some (.int .i64 p1) from hc1 1 (by decide)) d os
    have a2:=fun d os=>cell_regrown (show wr.cell? ⟨b1,o1+k*9+2,none⟩=some (.int .i64 p2) from hc1 2 (by decide)) d os
    have a3:=fun d os=>cell_regrown (show wr.cell? ⟨b1,o1+k*9+3,none⟩=some (.int .i64 p3) from hc1 3 (by decide)) d os
    have a4:=fun d os=>cell_regrown (show wr.cell? ⟨b1,o1+k*9+4,none⟩=some (.int .i64 p4) from hc1 4 (by decide)) d os
    have a5:=fun d os=>cell_regrown (show wr.cell? ⟨b1,o1+k*9+5,none⟩=some (.int .i64 p5) from hc1 5 (by decide)) d os
    have a6:=fun d os=>cell_regrown (show wr.cell? ⟨b1,o1+k*9+6,none⟩=some (.int .i64 p6) from hc1 6 (by decide)) d os
    have a7:=fun d os=>cell_regrown (show wr.cell? ⟨b1,o1+k*9+7,none⟩=some (.int .i64 p7) from hc1 7 (by decide)) d os
    have a8:=fun d os=>cell_regrown (show wr.cell? ⟨b1,o1+k*9+8,none⟩=some (.int .i64 p8) from hc1 8 (by decide)) d os
    have b0:=fun d os=>cell_regrown (show wr.cell? ⟨b2,o2+k*9,none⟩=some (.int .i64 p0) from hc2 0 (by decide)) d os
    have b1':=fun d os=>cell_regrown (show wr.cell? ⟨b2,o2+k*9+1,none⟩=some (.int .i64 p1) from hc2 1 (by decide)) d os
    have b2':=fun d os=>cell_regrown (show wr.cell? ⟨b2,o2+k*9+2,none⟩=some (.int .i64 p2) from hc2 2 (by decide)) d os
    have b3:=fun d os=>cell_regrown (show wr.cell? ⟨b2,o2+k*9+3,none⟩=some (.int .i64 p3) from hc2 3 (by decide)) d os
    have b4:=fun d os=>cell_regrown (show wr.cell? ⟨b2,o2+k*9+4,none⟩=some (.int .i64 p4) from hc2 4 (by decide)) d os
    have b5:=fun d os=>cell_regrown (show wr.cell? ⟨b2,o2+k*9+5,none⟩=some (.int .i64 p5) from hc2 5 (by decide)) d os
    have b6:=fun d os=>cell_regrown (show wr.cell? ⟨b2,o2+k*9+6,none⟩=some (.int .i64 p6) from hc2 6 (by decide)) d os
    have b7:=fun d os=>cell_regrown (show wr.cell? ⟨b2,o2+k*9+7,none⟩=some (.int .i64 p7) from hc2 7 (by decide)) d os
    have b8:=fun d os=>cell_regrown (show wr.cell? ⟨b2,o2+k*9+8,none⟩=some (.int .i64 p8) from hc2 8 (by decide)) d os
    clear hB hc1 hc2 hp;go_wp2_with fail;refine wp_region_quiet_below (by kernel_rfl) (by kernel_rfl) ?_
    repeat(first|go_big_quiet_step (fail) |quiet_step (fail))
    refine wpQuiet_nil ?_;intro _ hw';obtain⟨⟨dq,osq⟩,hw2⟩:=hw';subst hw2;have HB3:=ae (aA.out.trans ((below_regrown wr dq osq).mono hzw));clear a0 a1 a2 a3 a4 a5 a6 a7 a8 b0 b1' b2' b3 b4 b5 b6 b7 b8;go_wp2_with fail;exact⟨⟨k+1,by omega,by go_num,HB3.out⟩,by simp[intOf];omega⟩
   ·obtain rfl:k=n:=by omega
    have d3:decide ((k:Int)<(k:Int))=false:=by simp
    clear hB;go_wp2_with fail;go_ret;exact⟨rfl,aA.out⟩
theorem vM (va vb:Value) (E F:List Te) (w:World) (ha:cQ w va E) (hb:cQ w vb F) (Lt:E.map Te.tl=F.map Te.tl) (hn:E.length<=1000000) (hp:∀e∈E,e.pts.length<=4096):
 Calls Tryz.prog 13 #[va,vb] w fun e w'=>e=.returned (.bool true)/\Below w.heap.size w w':=by
 obtain⟨⟨aa,ca,rfl,ha2⟩,hpa⟩:=ha;obtain⟨⟨ab,cb,rfl,hb2⟩,hpb⟩:=hb;have hlen:F.length=E.length:=by have:=congrArg List.length Lt;simpa using this.symm
 rw[hlen];obtain⟨n,hnl⟩:∃n,n=E.length:=⟨_,rfl⟩;rw[<-hnl] at hn⊢;by_cases hl:E=[]
 ·subst hl;obtain rfl:n=0:=hnl;clear ha2 hb2 hpa hpb Lt hlen hp;go_enter Tryz.func13,Tryz.ntmps13;go_wp2_with fail;refine wp_loop_rounds 1 ?_;rw[rounds_succ];go_wp2_with fail;go_ret;exact⟨rfl,by(repeat' (first| (with_reducible first|exact Below.refl _ _|assumption|refine Below.alloc ?_ ?_ _|refine Below.drew ?_ |refine below_drewN ?_ _|refine Below.setCell ?_ ?_ _|refine below_setRow ?_ ?_ _) |go_size))⟩
 ·have hl2:F≠[]:=fun e=>hl (by have:=hlen;rw[e] at this;exact List.eq_nil_of_length_eq_zero this.symm)
  obtain⟨b1,o1,rfl,hb1,hr1⟩:=ha2.resolve_left hl;obtain⟨b2,o2,rfl,mV,hr2⟩:=hb2.resolve_left hl2;have H1:=ae hr1;have H2:=ae hr2;have js:=ae hnl;have By:=ae hpa;have xN:=ae hpb;have Qf:=ae Lt;have HLEN:=ae hlen;have An:=ae hp;clear ha2 hb2 hl hl2 hr1 hr2 hnl hpa hpb Lt hlen hp;have heq:=Kp;go_enter Tryz.func13,Tryz.ntmps13;go_wp2_with fail
  go_loopw [13] (fun iv W=>∃k:Nat,k<=n/\iv=.int .i64 (k:Int)/\Below w.heap.size w W) (fun iv _=>n-(intOf iv).toNat)
  case atStart=>exact⟨0,by omega,rfl,Below.refl _ _⟩
  case round=>
   obtain⟨k,hk,rfl,hB⟩:=hrel;have aA:=ae hB;have hzw:=hB.size;by_cases hlt:k<n
   ·obtain⟨e,he⟩:∃e,E[k]? =some e:=⟨_,List.getElem?_eq_getElem (by rw[<-js.out];exact hlt)⟩;obtain⟨f,hf⟩:∃f,F[k]? =some f:=⟨_,List.getElem?_eq_getElem (by rw[HLEN.out,<-js.out];exact hlt)⟩;have htl:e.tl=f.tl:=by
     have:=congrArg (fun l=>l[k]?) Qf.out;simp[he,hf] at this;exact this
    have hk1:e.key=f.key:=congrArg Tl.key htl;have hp1:e.pts=f.pts:=congrArg Tl.pts htl;have hpe:cj wr e.v e.pts:=cj.below (By.out e (List.mem_of_getElem? he)) hB;have hpf:cj wr f.v e.pts:=by rw[hp1];exact cj.below (xN.out f (List.mem_of_getElem? hf)) hB
    have AP:=ae (fun d os=>tN e.v f.v e.pts (grow (redrawn wr d) os) (hpe.still (below_regrown wr d os)) (hpf.still (below_regrown wr d os)) (An.out e (List.mem_of_getElem? he)));have hc1:∀j,j<5->wr.cell? ⟨b1,o1+k*5+j,none⟩=e.row[j]? :=fun j hj=>by
     rw[hB.cell hb1,H1.out k e.row (by rw[List.getElem?_map,he];rfl) j hj]
    have hc2:∀j,j<5->wr.cell? ⟨b2,o2+k*5+j,none⟩=f.row[j]? :=fun j hj=>by
     rw[hB.cell mV,H2.out k f.row (by rw[List.getElem?_map,hf];rfl) j hj]
    obtain⟨⟨k0,k1,k2,k3⟩,ev,ep⟩:=e;obtain⟨fk,fv,fp⟩:=f;obtain rfl:(⟨k0,k1,k2,k3⟩:Ky)=fk:=hk1;obtain⟨eva,evc,hev,_⟩:=hpe;obtain⟨fva,fvc,hfv,_⟩:=hpf;obtain rfl:ev=.slice eva ep.length evc:=hev;obtain rfl:fv=.slice fva ep.length fvc:=hfv;obtain⟨m,hm⟩:∃m,m=ep.length:=⟨_,rfl⟩;simp only[<-hm] at hc1 hc2 AP;clear hm;have d3:decide ((k:Int)<(n:Int))=true:=decide_eq_true (by omega);have hk0:(0:Int)<=(k:Int):=by omega
    have a0:=fun d os=>cell_regrown (show wr.cell? ⟨b1,o1+k*5,none⟩=some (.int .i64 k0) from hc1 0 (by decide)) d os
    have a1:=fun d os=>cell_regrown (show wr.cell? ⟨b1,o1+k*5+1,none⟩=some (.int .i64 k1) from hc1 1 (by decide)) d os
    have a2:=fun d os=>cell_regrown (show wr.cell? ⟨b1,o1+k*5+2,none⟩=some (.int .i64 k2) from hc1 2 (by decide)) d os
    have a3:=fun d os=>cell_regrown (show wr.cell? ⟨b1,o1+k*5+3,none⟩=some (.int .i64 k3) from hc1 3 (by decide)) d os
    have a4:=fun d os=>cell_regrown (show wr.cell? ⟨b1,o1+k*5+4,none⟩=some (.slice eva m evc) from hc1 4 (by decide)) d os
    have b0:=fun d os=>cell_regrown (show wr.cell? ⟨b2,o2+k*5,none⟩=some (.int .i64 k0) from hc2 0 (by decide)) d os
    have b1':=fun d os=>cell_regrown (show wr.cell? ⟨b2,o2+k*5+1,none⟩=some (.int .i64 k1) from hc2 1 (by decide)) d os
    have b2':=fun d os=>cell_regrown (show wr.cell? ⟨b2,o2+k*5+2,none⟩=some (.int .i64 k2) from hc2 2 (by decide)) d os
    have b3:=fun d os=>cell_regrown (show wr.cell? ⟨b2,o2+k*5+3,none⟩=some (.int .i64 k3) from hc2 3 (by decide)) d os
    have b4:=fun d os=>cell_regrown (show wr.cell? ⟨b2,o2+k*5+4,none⟩=some (.slice fva m fvc) from hc2 4 (by decide)) d os
    clear hB hc1 hc2 he hf htl hp1;go_wp2_with fail;refine wp_region_quiet_below (by kernel_rfl) (by kernel_rfl) ?_
    repeat(first|go_big_quiet_step (first| (go_at_call 39;exact Calls.regrown_of (AP.out _ _))) |quiet_step (first| (go_at_call 39;exact Calls.regrown_of (AP.out _ _))))
    refine wpQuiet_nil ?_;intro _ hw';obtain⟨⟨dq,osq⟩,hw2⟩:=hw';subst hw2;have HB3:=ae (aA.out.trans ((below_regrown wr dq osq).mono hzw));clear a0 a1 a2 a3 a4 b0 b1' b2' b3 b4;go_wp2_with fail;exact⟨⟨k+1,by omega,by go_num,HB3.out⟩,by simp[intOf];omega⟩
   ·obtain rfl:k=n:=by omega
    have d3:decide ((k:Int)<(k:Int))=false:=by simp
    clear hB;go_wp2_with fail;go_ret;exact⟨rfl,aA.out⟩
open Go.RowKit Go.Maps
def bQ (S:List Pt):Bool:=i3 (fun i j=>(S[i]!).f j) S.length
def Fm (p:Pt):Bool:=dY 0 255 p.cl && bX p.id p.x p.y p.zl p.zh p.wd p.nm p.of
theorem cS (S:List Pt):bQ S=true↔S.length<=1024/\(∀p∈S,Fm p=true)/\S.Pairwise (fun p q=>p.id≠q.id):=by
 unfold bQ i3 f8;simp only[Bool.and_eq_true,AG,decide_eq_true_eq];have hf:∀i (h:i<S.length),S[i]! =S[i]:=fun i h=>getElem!_pos S i h
 constructor
 ·rintro⟨h1,h2,h3⟩;refine⟨h2,fun p hp=>?_,?_⟩
  ·obtain⟨i,hi,rfl⟩:=List.mem_iff_getElem.1 hp;have a1:=h1 i hi;have a2:=h3 i hi;unfold nt at a1;unfold oR G2 at a2;simp only[hf i hi,Bool.and_eq_true] at a1 a2;unfold Fm;rw[Bool.and_eq_true];exact⟨a1,a2.1⟩
  ·rw[List.pairwise_iff_getElem];intro i j hi hj hij e;have a2:=h3 j hj;unfold oR at a2;simp only[Bool.and_eq_true,Bool.not_eq_true',List.any_eq_false] at a2;have:=a2.2 i (List.mem_range.2 hij);simp only[hf i hi,hf j hj] at this;exact this (by simp[Pt.f,e])
 ·rintro⟨h1,h2,h3⟩;refine⟨fun i hi=>?_,h1,fun i hi=>?_⟩
  ·have a:=h2 S[i] (List.getElem_mem hi);unfold Fm at a;rw[Bool.and_eq_true] at a;simp only[nt,hf i hi];exact a.1
  ·have a:=h2 S[i] (List.getElem_mem hi);unfold Fm at a;rw[Bool.and_eq_true] at a;simp only[oR,G2,hf i hi,Bool.and_eq_true,Bool.not_eq_true',List.any_eq_false];refine⟨a.2,fun j hj=>?_⟩;have hji:=List.mem_range.1 hj;simp only[hf j (by omega)];have:=List.pairwise_iff_getElem.1 h3 j i (by omega) hi hji;simpa[Pt.f] using this
theorem kC {S S':List Pt} (h:S.Perm S') (hg:bQ S=true):bQ S'=true:=by
 rw[cS] at*;obtain⟨h1,h2,h3⟩:=hg;exact⟨by rw[<-h.length_eq];exact h1,fun p hp=>h2 p (h.mem_iff.2 hp),(h.pairwise_iff (fun {_ _} e=>Ne.symm e)).1 h3⟩
theorem tV {p:Pt} (h:Fm p=true):p.fine:=by
 unfold Fm at h;have h1:=qO (cl:=p.cl) (show(bX p.id p.x p.y p.zl p.zh p.wd p.nm p.of && dY 0 255 p.cl)=true by rw[Bool.and_comm];exact h);rw[Bool.and_eq_true] at h;have h2:=@qe p.f h.2;exact⟨h2,h1⟩
theorem aW {S:List Pt} (h:bQ S=true):kZ S/\(∀p∈S,p.fine)/\S.length<=1024:=by
 rw[cS] at h;obtain⟨h1,h2,h3⟩:=h;exact⟨⟨h3,fun p hp=>(tV (h2 p hp)).1⟩,fun p hp=>tV (h2 p hp),h1⟩
theorem qu {W:World} {b off:Nat} {S:List Pt} (h:aB W b off 9 (S.map Pt.row)):gF W b off S.length (fun i j=>(S[i]!).f j):=fun i hi j hj=>by
 have:=h i (S[i]!).row (by rw[List.getElem?_map,List.getElem?_eq_getElem hi,getElem!_pos S i hi];rfl) j hj;rw[Pt.row_at _ j hj] at this;exact this
theorem qf (pv:Value) (S:List Pt) (w:World) (hp:cj w pv S) (hn:S.length<=maxLen):Calls Tryz.prog 38 #[pv] w fun r w'=>r=.returned (.bool (bQ S))/\Below w.heap.size w w':=by
 obtain⟨a,cap,rfl,h⟩:=hp;by_cases hl:S=[]
 ·subst hl;exact yg a cap w
 ·obtain⟨b,off,rfl,hb,hr⟩:=h.resolve_left hl;exact sP b off S.length cap _ w (List.length_pos_iff.2 hl) hn hb (qu hr)
theorem eD (pv:Value) (S:List Pt) (w:World) (hp:cj w pv S):Calls Tryz.prog 62 #[pv] w fun r w'=>r=.returned (.bool (bQ S))/\Below w.heap.size w w':=by
 obtain⟨a,cap,rfl,h⟩:=hp;by_cases hl:S=[]
 ·subst hl;exact tu a cap w
 ·obtain⟨b,off,rfl,hb,hr⟩:=h.resolve_left hl;exact vB b off S.length cap _ w (List.length_pos_iff.2 hl) hb (qu hr)
theorem nd {α:Type} [DecidableEq α]:∀{l m:List α},l.Pairwise (· ≠·)->(∀a∈l,a∈m)->l.length<=m.length
 | [],_,_,_=>Nat.zero_le _
 |a::l,m,hd,hs=>by
  obtain⟨h1,h2⟩:=List.pairwise_cons.1 hd;have ha:=hs a (List.mem_cons_self ..);have:=nd (m:=m.erase a) h2 (fun b hb=>(List.mem_erase_of_ne (Ne.symm (h1 b hb))).2 (hs b (List.mem_cons_of_mem _ hb)));rw[List.length_erase_of_mem ha] at this;have hp:0<m.length:=List.length_pos_of_mem ha;simp;omega
theorem bE.lens {S:List Pt} {c:Nat} {E:List Te} (h:bE S c (E.map Te.tl)) (hl:S.length<=1024):(∀e∈E,e.pts.length<=1024)/\E.length<=1024:=by
 refine⟨fun e he=>?_,?_⟩
 ·have hm:e.tl∈E.map Te.tl:=List.mem_map.2 ⟨e,he,rfl⟩;have h1:=(h.tiles.pts e.tl hm).2;have h2:∀i∈e.pts.map Pt.id,i∈S.map Pt.id:=fun i hi=>by
   obtain⟨p,hp,rfl⟩:=List.mem_map.1 hi;exact List.mem_map.2 ⟨p,((h.tiles.mem e.tl hm p).1 hp).1,rfl⟩
  have h3:=nd (l:=e.pts.map Pt.id) (m:=S.map Pt.id) (by rw[List.pairwise_map];exact h1.imp (fun h=>by omega)) h2;simp at h3;omega
 ·have hne:∀e∈E,e.pts≠[]:=fun e he=>(h.tiles.pts e.tl (List.mem_map.2 ⟨e,he,rfl⟩)).1
  have hhd:∀e∈E,(e.pts.headD default)∈e.pts:=fun e he=>by
   cases hp:e.pts with
   |nil=>exact absurd hp (hne e he)
   |cons p l=>simp
  have hin:∀e∈E,(e.pts.headD default)∈S/\fZ S c (e.pts.headD default) e.key:=fun e he=>(h.tiles.mem e.tl (List.mem_map.2 ⟨e,he,rfl⟩) _).1 (hhd e he)
  have h2:∀i∈E.map (fun e=>e.key),i∈S.map (fun p=>Classical.choose (wt S c p)):=fun i hi=>by
   obtain⟨e,he,rfl⟩:=List.mem_map.1 hi;obtain⟨h3,h4⟩:=hin e he;exact List.mem_map.2 ⟨_,h3,rp (Classical.choose_spec (wt S c _)) h4⟩
  have hk:=h.tiles.keys;rw[List.pairwise_map] at hk;have h3:=nd (l:=E.map (fun e=>e.key)) (by rw[List.pairwise_map];exact hk) h2;simp at h3;omega
end Go.Proofs.YtcclpdfmmdonpaaGreat
