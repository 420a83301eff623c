/- Texts of the seat Yteanlcefdoigcaa, turned to this one by wip/port.py: RSort. -/
import Derived.Test.YtcclpdfmmdonpaaGreatTLay
namespace Go.Proofs.YtcclpdfmmdonpaaGreat
set_option maxRecDepth 100000
open Go.RowKit
structure gN (W0 W1 W2:World) (s1 s2:Nat) (ps:List Nat) (vs:List Value) (L:Nat->Bool) (us:Nat->Value) (W:World):Prop where
 vals:∀j,L j=true->j≠s1->j≠s2->us j=vs.getD j undef
 ord:L s2=true->L s1=true
 pre:L s1=true->∀j∈ps,L j=true
 wld:W=if L s2=true then W2 else if L s1=true then W1 else W0
section
variable {W0 W1 W2 W:World} {s1 s2:Nat} {ps:List Nat} {vs:List Value} {L:Nat->Bool} {us:Nat->Value} {v:Value}
theorem gN.start:gN W0 W1 W2 s1 s2 ps vs (fun _=>false) us W0:=⟨fun _ h=>(Bool.false_ne_true h).elim,fun h=>(Bool.false_ne_true h).elim,fun h=>(Bool.false_ne_true h).elim,rfl⟩
theorem gN.pure (k:Nat) (h:gN W0 W1 W2 s1 s2 ps vs L us W) (h1:k≠s1) (h2:k≠s2) (hv:v=vs.getD k undef):gN W0 W1 W2 s1 s2 ps vs (fun j=>j == k || L j) (ct us k v) W:=by
 have e1:(s1 == k || L s1)=L s1:=by rw[show(s1 == k)=false from beq_false_of_ne (Ne.symm h1),Bool.false_or]
 have e2:(s2 == k || L s2)=L s2:=by rw[show(s2 == k)=false from beq_false_of_ne (Ne.symm h2),Bool.false_or]
 refine⟨fun j hj j1 j2=>?_,fun g=>?_,fun g j hj=>?_,?_⟩
 ·by_cases hjk:j=k
  ·subst hjk;simp[ct,hv]
  ·have e:ct us k v j=us j:=by simp[ct,hjk]
   rw[e];exact h.vals j (by simpa[hjk] using hj) j1 j2
 ·simp only[e1,e2] at g⊢;exact h.ord g
 ·simp only[e1] at g;rw[h.pre g j hj,Bool.or_true]
 ·simp only[e1,e2];exact h.wld
theorem gN.none2 (h:gN W0 W1 W2 s1 s2 ps vs L us W) (h1:L s1=false):L s2=false:=by
 cases g:L s2
 ·rfl
 ·rw[h.ord g] at h1;cases h1
theorem gN.at0 (h:gN W0 W1 W2 s1 s2 ps vs L us W) {k:Nat} (hk:k∈ps) (hL:L k=false):W=W0:=by
 have h1:L s1=false:=by
  cases g:L s1
  ·rfl
  ·rw[h.pre g k hk] at hL;cases hL
 have:=h.wld;rw[h.none2 h1,h1] at this;simpa using this
theorem gN.fst (h:gN W0 W1 W2 s1 s2 ps vs L us W) (h1:L s1=false) (hp:∀j∈ps,L j=true) (hne:s1≠s2):W=W0/\gN W0 W1 W2 s1 s2 ps vs (fun j=>j == s1 || L j) (ct us s1 v) W1:=by
 have h2:=h.none2 h1;refine⟨by have:=h.wld;rw[h2,h1] at this;simpa using this,fun j hj j1 j2=>?_,fun _=>by simp,fun _ j hj=>by rw[hp j hj,Bool.or_true],?_⟩
 ·have e:ct us s1 v j=us j:=by simp[ct,j1]
  rw[e];exact h.vals j (by simpa[j1] using hj) j1 j2
 ·have e2:(s2 == s1 || L s2)=false:=by rw[show(s2 == s1)=false from beq_false_of_ne (Ne.symm hne),h2];rfl
  simp[e2]
theorem gN.snd (h:gN W0 W1 W2 s1 s2 ps vs L us W) (h1:L s1=true) (h2:L s2=false):W=W1/\gN W0 W1 W2 s1 s2 ps vs (fun j=>j == s2 || L j) (ct us s2 v) W2:=by
 refine⟨by have:=h.wld;rw[h2,h1] at this;simpa using this,fun j hj j1 j2=>?_,fun _=>?_,fun _ j hj=>?_,by simp⟩
 ·have e:ct us s2 v j=us j:=by simp[ct,j2]
  rw[e];exact h.vals j (by simpa[j2] using hj) j1 j2
 ·rw[h1,Bool.or_true]
 ·rw[h.pre h1 j hj,Bool.or_true]
end
theorem eX {W:World} {base t sz g n cap:Nat} {l:List (List Value)} (h:al W base t sz (.slice (some ⟨g,0,none⟩) n cap) l):
 n=l.length/\∃cur:Array Value,base<=g/\W.heap[g]? =some (.cells cur t)/\l.length<=cap/\cap<=maxLen/\cur.size=cap*sz/\cur.toList.take (l.length*sz)=l.flatten:=by
 rcases h.2.2 with⟨h1,_⟩ | ⟨g',cap',cur,h1,hB,h2,h3,h4,h5,h6⟩
 ·cases h1
 ·injection h1 with h1 hn hc
  injection h1 with h1
  injection h1 with h1 _
  subst h1 hc;exact⟨hn,cur,hB,h2,h3,h4,h5,h6⟩
theorem nf {W:World} {base t sz g n cap i:Nat} {l:List (List Value)} {cur:Array Value} {r:List Value} (h:al W base t sz (.slice (some ⟨g,0,none⟩) n cap) l) (hc:W.heap[g]? =some (.cells cur t)) (hi:i<l.length) (hr:r.length=sz) (h1:∀u∈r,u.oneCell'=true):
 al (W.setRow g (fA cur (i*sz) r)) base t sz (.slice (some ⟨g,0,none⟩) n cap) (l.set i r):=by
 obtain⟨hn,cur',hB,hc',hle,hm,hcs,htk⟩:=eX h;rw[hc] at hc';injection hc' with hc'
 injection hc' with hc' _
 subst hc';have hw:bF sz (l.set i r):=fun x hx=>by
  rcases List.mem_or_eq_of_mem_set hx with g|g
  ·exact h.1 x g
  ·subst g;exact⟨hr,h1⟩
 refine⟨hw,by rw[List.length_set,hw.length,List.length_set],?_⟩;refine Or.inr ⟨g,cap,_,by rw[List.length_set,hn],hB,setRow_heap _ _ _ _ _ _ hc,by rw[List.length_set];exact hle,hm,by rw[i9];exact hcs,?_⟩;rw[List.length_set];have hbd:(i+1)*sz<=l.length*sz:=Nat.mul_le_mul_right sz hi;have QR:l.length*sz<=cap*sz:=Nat.mul_le_mul_right sz hle;rw[Nat.add_mul] at hbd;refine List.ext_getElem? fun k=>?_
 by_cases hk:k<l.length*sz
 ·have s0:0<sz:=by
   rcases Nat.eq_zero_or_pos sz with e|e
   ·subst e;simp at hk
   ·exact e
  have hd:k/sz<l.length:=Nat.div_lt_of_lt_mul (by rw[Nat.mul_comm];exact hk);have hmm:k%sz<sz:=Nat.mod_lt _ s0;have e:k/sz*sz+k%sz=k:=by rw[Nat.mul_comm];exact Nat.div_add_mod k sz
  rw[List.getElem?_take_of_lt hk,Array.getElem?_toList];have hold:cur[k]? =l.flatten[k]? :=by rw[<-htk,List.getElem?_take_of_lt hk,Array.getElem?_toList]
  by_cases hki:k/sz=i
  ·have h2:=hw.at (i:=i) (r:=r) (List.getElem?_set_self hi) (k%sz) hmm;rw[hki] at e;rw[e] at h2;rw[h2];have h3:=qR r cur (i*sz) (k%sz) (by rw[hr,hcs];omega) (by rw[hr];exact hmm);rw[e] at h3;exact h3
  ·have h2:=hw.at (i:=k/sz) (r:=l[k/sz]) (by rw[List.getElem?_set_ne (Ne.symm hki),List.getElem?_eq_getElem hd]) (k%sz) hmm;have h3:=h.1.at (List.getElem?_eq_getElem hd) (k%sz) hmm;rw[e] at h2 h3;rw[h2,<-h3,<-hold];refine jF r cur (i*sz) k ?_;rw[hr]
   rcases Nat.lt_or_ge (k/sz) i with q|q
   ·left;have:(k/sz+1)*sz<=i*sz:=Nat.mul_le_mul_right sz q;rw[Nat.add_mul] at this;omega
   ·right;have:(i+1)*sz<=k/sz*sz:=Nat.mul_le_mul_right sz (by omega);rw[Nat.add_mul] at this;omega
 ·rw[List.getElem?_eq_none (by simp;omega),List.getElem?_eq_none (by rw[hw.length,List.length_set];omega)]
def KY {α:Type} (l:List α) (i j:Nat):List α:=match l[i]?,l[j]? with|some x,some y=>(l.set i y).set j x|_,_=>l
theorem BN {α:Type} {l:List α} {i j:Nat} {x y:α} (hi:l[i]? =some x) (hj:l[j]? =some y):KY l i j=(l.set i y).set j x:=by
 unfold KY;rw[hi,hj]
theorem Cc {α:Type} [Inhabited α] (l:List α) (i j:Nat):(KY l i j).Perm l:=by
 unfold KY
 split
 ·rename_i x y hx hy
  obtain⟨hi,ei⟩:=List.getElem?_eq_some_iff.1 hx;obtain⟨hj,ej⟩:=List.getElem?_eq_some_iff.1 hy;have h:=Go.Sort.swp_permIn l.toArray 0 l.toArray.size i j (Nat.zero_le _) (by simpa using hi) (Nat.zero_le _) (by simpa using hj) (Nat.le_refl _);have h2:=pW h;have e:(Go.Sort.swp l.toArray i j).toList =(l.set i y).set j x:=by
   unfold Go.Sort.swp;rw[getElem!_pos l.toArray i (by simpa using hi),getElem!_pos l.toArray j (by simpa using hj)];simp[ei,ej]
  rw[e] at h2;exact h2
 ·exact List.Perm.refl _
theorem bH {P:Program} {W:World} {ops:Array Oper} {rest:List Oper} {o:Oper} {a:Act} {Q:Exit->Act->World->Prop} (hgd:o.guard=none) (s x:Operand) (ty:TypeId)
 (ho:o.op=.call {callee:=.builtin .append,args:=#[s,x],argTypes:=#[ty,ty]}) (base e:TypeId) (i:TypeInfo) (z:Value) (size bytes:Nat) (ht:P.underlying ty=some (.slice e)) (hi:P.info? e=some i) (hz:i.zero=some z)
 (hsize:i.size=size) (hby:i.bytes=bytes) (hzs:z.cells.size=size) (hsz:0<size) (v:Value) (l m:List (List Value)) (hs:a.eval s=v) (hown:al W base e size v l)
 (ao:Option Addr) (n c:Nat) (hn:n=m.length) (hx:a.eval x=.slice ao n c) (hm:(m=[]/\(ao=none->c=0))∨∃b off,ao=some ⟨b,off,none⟩/\aB W b off size m) (hw:bF size m)
 (h63:l.length+m.length<=maxLen) (hbytes:(l.length+m.length)*bytes<=140737488355328) (hbase:base<=W.heap.size)
 (h:∀v' w',al w' base e size v' (l++m)->W.grownBy w' v.ownBlock->(v'.ownBlock=v.ownBlock∨v'.ownBlock=some W.heap.size)->wpList P ops Q rest (a.put o.dst v') w'):wpList P ops Q (o::rest) a W:=by
 rcases hm with⟨rfl,hc⟩ | ⟨b,off,rfl,hr⟩
 ·obtain rfl:n=0:=hn
  cases ao with
  |none=>
   obtain rfl:=hc rfl;refine wpList_plain hgd fun K hK'=>?_
   have hrun:=run_append_owned_none (P:=P) W base ty o.type e i size ht hi _ l.length l.flatten hown.2;unfold Oper.wp;simp[execOp,ho,resolve,invoke,builtin,hs,hx,hrun,Result.andThen];exact hK' _ _ (h v W (by simpa using hown) (World.grownBy.refl _ _) (Or.inl rfl))
  |some ad=>
   refine wpList_append_own_at W hgd s x ty ho base e i z size bytes ht hi hz hsize hby hzs hsz v l.length l.flatten hs hown.2 ad 0 c [] hx (by simp) (fun j u h=>by simp at h) (fun u h=>by simp at h) (by simpa using h63) (by simpa using hbytes) hbase ?_;intro v' w' h1 h2 _ h4;exact h v' w' ⟨by simpa using hown.1,by simpa using h1⟩ h2 h4
 ·exact ar hgd s x ty ho base e i z size bytes ht hi hz hsize hby hzs hsz v l m hs hown b off n c hn hx hr hw h63 hbytes hbase h
open Go.RowKit
section
variable {α:Type}
def fM (r:α->α->Prop) (L:List α) (i:Nat):Prop:=∀a b x y,a<b->b<i->L[a]? =some x->L[b]? =some y->¬r y x
def jL (r:α->α->Prop) (L:List α) (i k:Nat):Prop:=
 (∀a b x y,a<b->b<=i->a≠k->b≠k->L[a]? =some x->L[b]? =some y->¬r y x)/\∀b x y,k<b->b<=i->L[k]? =some x->L[b]? =some y->¬r y x
theorem lR {r:α->α->Prop} {L:List α} {i:Nat} (h:fM r L i):jL r L i i:=
 ⟨fun a b x y h1 h2 h3 h4=>h a b x y h1 (by omega),fun b x y h1 h2=>by omega⟩
theorem nZ {r:α->α->Prop} (asym:∀x y,r x y->¬r y x) {L:List α} {i k:Nat} {x y:α} (h:jL r L i (k+1)) (hk:k+1<=i) (hx:L[k+1]? =some x) (hy:L[k]? =some y) (hr:r x y):jL r ((L.set (k+1) y).set k x) i k:=by
 have hl:k+1<L.length:=(List.getElem?_eq_some_iff.1 hx).1;have g0:((L.set (k+1) y).set k x)[k]? =some x:=List.getElem?_set_self (by simp;omega);have g1:((L.set (k+1) y).set k x)[k+1]? =some y:=by
  rw[List.getElem?_set_ne (by omega)];exact List.getElem?_set_self hl
 have g2:∀a,a≠k->a≠k+1->((L.set (k+1) y).set k x)[a]? =L[a]? :=fun a h1 h2=>by
  rw[List.getElem?_set_ne (by omega),List.getElem?_set_ne (by omega)]
 constructor
 ·intro a b u v hab hb ha1 hb1 hu hv;by_cases ha:a=k+1
  ·subst ha;rw[g1] at hu;injection hu with hu
   subst hu;rw[g2 b (by omega) (by omega)] at hv;exact h.1 k b _ v (by omega) hb (by omega) (by omega) hy hv
  ·rw[g2 a ha1 ha] at hu;by_cases hbk:b=k+1
   ·subst hbk;rw[g1] at hv;injection hv with hv
    subst hv;exact h.1 a k u _ (by omega) (by omega) (by omega) (by omega) hu hy
   ·rw[g2 b hb1 hbk] at hv;exact h.1 a b u v hab hb ha hbk hu hv
 ·intro b u v hkb hb hu hv;rw[g0] at hu;injection hu with hu
  subst hu;by_cases hbk:b=k+1
  ·subst hbk;rw[g1] at hv;injection hv with hv
   subst hv;exact asym _ _ hr
  ·rw[g2 b (by omega) hbk] at hv;exact h.2 b _ v (by omega) hb hx hv
theorem ju {r:α->α->Prop} (ntr:∀x y z,¬r y x->¬r z y->¬r z x) {L:List α} {i k:Nat} (h:jL r L i k) (hk:k<=i) (he:∀x y,0<k->L[k]? =some x->L[k-1]? =some y->¬r x y):fM r L (i+1):=by
 intro a b x y hab hb hx hy;by_cases ha:a=k
 ·subst ha;exact h.2 b x y hab (by omega) hx hy
 ·by_cases hbk:b=k
  ·subst hbk;have hl:b<L.length:=(List.getElem?_eq_some_iff.1 hy).1;obtain⟨z,hz⟩:∃z,L[b-1]? =some z:=⟨_,List.getElem?_eq_getElem (by omega)⟩;have h1:=he y z (by omega) hy hz;by_cases ha2:a=b-1
   ·subst ha2;rw[hz] at hx;injection hx with hx
    subst hx;exact h1
   ·exact ntr x z y (h.1 a (b-1) x z (by omega) (by omega) ha (by omega) hx hz) h1
  ·exact h.1 a b x y hab (by omega) ha hbk hx hy
theorem gB {r:α->α->Prop} {L:List α} (h:fM r L L.length):L.Pairwise (fun x y=>¬r y x):=by
 rw[List.pairwise_iff_getElem];intro i j hi hj hij;exact h i j _ _ hij hj (List.getElem?_eq_getElem hi) (List.getElem?_eq_getElem hj)
theorem qV [Inhabited α] {L:List α} {i j:Nat} {x y:α} (hi:L[i]? =some x) (hj:L[j]? =some y):((L.set i y).set j x).Perm L:=BN hi hj▸Cc L i j
end
theorem lG {α:Type} {enc:α->List Value} {t sz:Nat} {W:World} {base g n cap x y:Nat} {C:Array Value} {L:List α} {p q:α} (h:al W base t sz (.slice (some ⟨g,0,none⟩) n cap) (L.map enc)) (hC:W.heap[g]? =some (.cells C t))
 (hp:(enc p).length =sz) (hq:(enc q).length =sz) (hp1:∀u∈enc p,u.oneCell'=true) (hq1:∀u∈enc q,u.oneCell'=true) (hx:L[x]? =some p) (hy:L[y]? =some q):
 al ((W.setRow g (fA C (x*sz) (enc q))).setRow g (fA (fA C (x*sz) (enc q)) (y*sz) (enc p))) base t sz (.slice (some ⟨g,0,none⟩) n cap) (((L.set x q).set y p).map enc):=by
 have hx1:x<L.length:=(List.getElem?_eq_some_iff.1 hx).1;have hy1:y<L.length:=(List.getElem?_eq_some_iff.1 hy).1;have h1:=nf h hC (i:=x) (r:=enc q) (by simpa using hx1) hq hq1;have h2:=nf h1 (setRow_heap _ _ _ _ _ _ hC) (i:=y) (r:=enc p) (by simpa using hy1) hp hp1;rw[List.map_set,List.map_set];exact h2
theorem dT {B:Nat} {w W:World} {g:Nat} {X:Array Value} (h:Below B w W) (hg:B<=g):Below B w (W.setRow g X):=below_setRow h hg _
theorem kg {B:Nat} {w W:World} (h:Below B w W):Below B w W.drew:=⟨h.os,h.tape,h.output,h.size,h.block⟩
theorem al.drew {W:World} {base t sz:Nat} {v:Value} {l:List (List Value)} (h:al W base t sz v l):al W.drew base t sz v l:=al.heap h (fun _ _ h _=>h)
open Go.ChangeShapes Go.WideShapes Go.ChangeAt Go.RowKit Go.Deep
def fi (W:World) (v:Value) (l:List Int):Prop:=∃a cap,v=.slice a l.length cap/\(l=[]∨∃b off,a=some ⟨b,off,none⟩/\b<W.heap.size/\∀(i:Nat) (z:Int),l[i]? =some z->W.cell? ⟨b,off+i,none⟩=some (.int .i64 z))
theorem fi.still {W W':World} {v:Value} {l:List Int} (h:fi W v l) (hb:Below W.heap.size W W'):fi W' v l:=by
 obtain⟨a,cap,h1,h2⟩:=h;refine⟨a,cap,h1,?_⟩
 rcases h2 with h2| ⟨b,off,h3,h4,h5⟩
 ·exact Or.inl h2
 ·exact Or.inr ⟨b,off,h3,Nat.lt_of_lt_of_le h4 hb.size,fun i z hi=>by rw[hb.cell h4];exact h5 i z hi⟩
def ip (v:Value):Prop:=∀c,v=.slice none 0 c->c=0
theorem nj {α:Type} {R:Nat->α->Prop} :∀n,(∀i,i<n->∃x,R i x)->∃l:List α,l.length=n/\∀i x,l[i]? =some x->R i x
 |0,_=>⟨[],rfl,fun i x h=>by simp at h⟩
 |n+1,h=>by
  obtain⟨l,h1,h2⟩:=nj n (fun i hi=>h i (by omega));obtain⟨x,hx⟩:=h n (by omega);refine⟨l++[x],by simp[h1],fun i y hy=>?_⟩;by_cases hi:i<n
  ·exact h2 i y (by rw[List.getElem?_append_left (by omega)] at hy;exact hy)
  ·have hil:i<(l++[x]).length :=(List.getElem?_eq_some_iff.1 hy).1;simp[h1] at hil;obtain rfl:i=n:=by omega
   rw[List.getElem?_append_right (by omega)] at hy;simp[h1] at hy;subst hy;exact hx
theorem BG {w:World} {b off n:Nat} (h:rows w b off 9 n (List.replicate 9 (some .i64))):∃S:List Pt,S.length=n/\aB w b off 9 (S.map Pt.row):=by
 obtain⟨S,h1,h2⟩:=nj (R:=fun i (p:Pt)=>∀j,j<9->w.cell? ⟨b,off+i*9+j,none⟩=p.row[j]?) n (fun i hi=>by
  obtain⟨cs,hf,hc⟩:=h i hi;obtain⟨zs,hl,rfl⟩:=tJ hf
  match zs,hl with
  | [z0,z1,z2,z3,z4,z5,z6,z7,z8],_=>exact⟨⟨z0,z1,z2,z3,z4,z5,z6,z7,z8⟩,fun j hj=>by
   match j,hj with
   |0,_|1,_|2,_|3,_|4,_|5,_|6,_|7,_|8,_=>exact hc _ _ rfl⟩)
 refine⟨S,h1,fun i r hi j hj=>?_⟩;rw[List.getElem?_map] at hi;obtain⟨p,hp,rfl⟩:=Option.map_eq_some_iff.1 hi;exact h2 i p hp j hj
theorem yX {w:World} {b off n:Nat} (h:rows w b off 1 n (List.replicate 1 (some .i64))):∃l:List Int,l.length=n/\∀(i:Nat) (z:Int),l[i]? =some z->w.cell? ⟨b,off+i,none⟩=some (.int .i64 z)/\(Lit.int .i64 z).wf =true:=by
 obtain⟨S,h1,h2⟩:=nj (R:=fun i (z:Int)=>w.cell? ⟨b,off+i,none⟩=some (.int .i64 z)/\(Lit.int .i64 z).wf =true) n (fun i hi=>by
  obtain⟨cs,hf,hc⟩:=h i hi;obtain⟨z,vs,rfl,hw,h3⟩:=fQ (show cN (some .i64 ::[]) cs from hf);have:=hc 0 _ rfl;rw[Nat.mul_one] at this
  exact⟨z,this,hw⟩)
 exact⟨S,h1,h2⟩
theorem sO:(Tryz.prog.info? 3).map (·.size)=some 1:=by kernel_rfl
section
variable {H:Type} {enc:TypeId×Value->H} {P:Program} {w:World} {base:Nat} {spare:Nat->Bool} {held:Bool}
theorem fW {f fuel:Nat} {t e:TypeId} {ks:List (Option IntKind)} {v:Value} {x:DataW H×List MemPlace} (ht:P.underlying t=some (.slice e)) (hf:cA P f e=some ks) (hs:(P.info? e).map (·.size)=some ks.length) (hz:0<ks.length)
 (hx:DataW.trod enc P w base spare held fuel t [v]=some x):
 ∃a len cap,v=.slice a len cap/\len<=maxLen/\(a=none->len=0/\cap=0)/\(0<len->∃(b off:Nat),a=some ⟨b,off,none⟩/\b<w.heap.size/\rows w b off ks.length len ks):=by
 rcases open_slice ht hx with⟨h0,_⟩ | ⟨a,len,cap,m,n,D,Pl,h1,hb,hl,hm,hmm,_,hall⟩
 ·exact⟨none,0,0,by simpa using h0,by omega,fun _=>⟨rfl,rfl⟩,fun h=>by omega⟩
 ·refine⟨some a,len,cap,by simpa using h1,by omega,(fun h=>by cases h),fun hpos=>?_⟩;have hle:len<=m:=by rw[hmm];split<;>omega
  rw[jZ hs] at hall;have key:∀i,i<len->∃cs:List Value,cN ks cs/\cs.length=ks.length/\∀j,j<ks.length->w.cell? ((a.add (i*ks.length)).add j)=cs[j]? :=by
   intro i hi;obtain⟨cs,hc,ht⟩:=hall i (by omega);obtain⟨_,hlen,hcell⟩:=World.cells?_some hc;exact⟨cs,fH f e ks n cs _ hf hlen ht,hlen,hcell⟩
  obtain⟨b,off,spot⟩:=a;have hspot:spot=none:=by
   obtain⟨cs,_,hlen,hcell⟩:=key 0 (by omega);have h0:=hcell 0 (by omega);rw[List.getElem?_eq_getElem (by omega)] at h0;simpa[Addr.add] using World.cell?_spot h0
  subst hspot;have hr:rows w b off ks.length len ks:=by
   intro i hi;obtain⟨cs,hfit,hlen,hcell⟩:=key i hi;refine⟨cs,hfit,fun j v hj=>?_⟩;have hj':j<ks.length:=by rw[<-hlen];exact(List.getElem?_eq_some_iff.1 hj).1
   rw[<-hj,<-hcell j hj',<-Go.WideShapes.add_plain,<-Go.WideShapes.add_plain]
  refine⟨b,off,rfl,?_,hr⟩;obtain⟨cs,_,hlen,hcell⟩:=key 0 hpos;have h0:=hcell 0 hz;rw[List.getElem?_eq_getElem (by omega),Go.WideShapes.add_plain,Go.WideShapes.add_plain] at h0;exact xx h0
theorem CO {fuel:Nat} {v:Value} {x:DataW H×List MemPlace} (hx:DataW.trod enc Tryz.prog w base spare held fuel 35 [v]=some x):∃S:List Pt,cj w v S/\ip v/\S.length<=maxLen:=by
 obtain⟨a,len,cap,rfl,hl,hn,hr⟩:=fW Tryz.underlying35 zF yO (by decide) hx;have hnv:ip (.slice a len cap):=fun c h=>by
  injection h with h1 h2 h3
  subst h3;exact(hn h1).2
 by_cases h0:len=0
 ·subst h0;exact⟨[],⟨a,cap,rfl,Or.inl rfl⟩,hnv,by simp⟩
 ·obtain⟨b,off,rfl,hb,hrows⟩:=hr (by omega);obtain⟨S,h1,h2⟩:=BG hrows;subst h1;exact⟨S,⟨_,cap,rfl,Or.inr ⟨b,off,rfl,hb,h2⟩⟩,hnv,hl⟩
end
open Go.RowKit Go.Sort
theorem xo:(Tryz.prog.info? 106).map (·.size)=some 9:=by kernel_rfl
def uo (p q:Pt):Prop:=p.id<q.id
def Ec (W:World) (base:Nat) (v:Value) (S:List Pt):Prop:=∃L,aq W base v L/\L.Perm S/\L.Pairwise (fun p q=>¬q.id<p.id)
def Nv (w:World) (S:List Pt) (i:Nat) (v kv:Value) (W:World):Prop:=
 ∃(k:Nat) (L:List Pt),k<=i/\kv=.int .i64 (k:Int)/\L.Perm S/\jL uo L i k/\aq W w.heap.size v L/\Below w.heap.size w W
def M0 (w:World) (S:List Pt) (n:Nat) (v iv:Value) (W:World):Prop:=
 ∃(i:Nat) (L:List Pt),i<=n/\iv=.int .i64 (i:Int)/\L.Perm S/\fM uo L i/\aq W w.heap.size v L/\Below w.heap.size w W
set_option maxHeartbeats 6400000 in
theorem mq (pv:Value) (S:List Pt) (w:World) (hp:cj w pv S) (hp0:ip pv) (hn:S.length<=1000000):
 Calls Tryz.prog 88 #[pv] w fun r w'=>(∃v,r=.returned v/\Ec w' w.heap.size v S)/\Below w.heap.size w w':=by
 obtain⟨pa,pc,rfl,hpd⟩:=hp;obtain⟨n,hnl⟩:∃n,n=S.length:=⟨_,rfl⟩;rw[<-hnl] at hn hp0⊢;have HN:=ae hnl;have Fv:=ae hp0;have vG:=ae hpd;have lp:=ae hn;clear hnl hp0 hpd;obtain⟨i0,hi,hz0,hz1,hz2⟩:=aF ix;have HI:=ae hi;have HZ0:=ae hz0;have HZ1:=ae hz1;have HZ2:=ae hz2;clear hi hz0 hz1 hz2
 have rm:=ae (show((S.map Pt.row=[]/\(pa=none->pc=0))∨∃b off,pa=some ⟨b,off,none⟩/\aB w b off 9 (S.map Pt.row)) by
  rcases vG.out with h| ⟨b,off,h1,h2,h3⟩
  ·refine Or.inl ⟨by rw[h];rfl,fun e=>Fv.out pc ?_⟩;have hn0:n=0:=by rw[HN.out,h];rfl
   rw[e,hn0]
  ·exact Or.inr ⟨b,off,h1,h3⟩)
 have iQ:=ae (show(S.map Pt.row).length =n by rw[List.length_map];exact HN.out.symm);have ez:=ae (show([]:List (List Value)).length +(S.map Pt.row).length <=maxLen by rw[iQ.out];show 0+n<=maxLen;have:=lp.out;unfold maxLen;omega);have HL2:=ae (show(([]:List (List Value)).length +(S.map Pt.row).length)*72<=140737488355328 by rw[iQ.out];show(0+n)*72<=_;have:=lp.out;omega);have In:=ae (jo (enc:=Pt.row) (k:=9) (fun _=>rfl) Pt.row_one S);go_enter Tryz.func88,Tryz.ntmps88
 go_wp2_with (first
  | (at_builtin
     refine bH rfl (.tmp 6) (.tmp 7) 35 rfl w.heap.size 106 i0 _ 9 72 Tryz.underlying35 HI.out HZ0.out HZ1.out HZ2.out rfl (by decide) _ [] (S.map Pt.row) rfl (al.nil _ _ _ _) pa n pc iQ.out.symm rfl rm.out In.out ez.out HL2.out (Nat.le_refl _) ?_;intro v4 W4 FZ hg4 z5;clear z5;have mL:=ae (show aq W4 w.heap.size v4 S from FZ);have bm:=ae (show Below w.heap.size w W4 from(Below.refl _ _).grown hg4 (Nat.le_refl _) (fun k hk=>by cases hk));clear FZ hg4;obtain⟨ma,mcap,hmv⟩:=aq.slice mL.out;rw[<-HN.out] at hmv
     subst hmv))
 go_loopw [11] (fun iv W=>M0 w S n (.slice ma n mcap) iv W) (fun iv _=>n-(intOf iv).toNat)
 case atStart=>exact⟨0,S,by omega,rfl,List.Perm.refl _,fun a b x y _ h=>by omega,mL.out,bm.out⟩
 case round=>
  obtain⟨i,Ls,hi,rfl,hpm,hst,AM,hB⟩:=hrel;have rJ:=ae hpm;have HST:=ae hst;have AF:=ae AM;have aA:=ae hB;clear hpm hst AM hB;by_cases hlt:i<n
  ·have d1:decide ((i:Int)<(n:Int))=true:=decide_eq_true (by omega);go_wp2_with fail
   go_loopw [5] (fun kv W=>Nv w S i (.slice ma n mcap) kv W) (fun kv _=>(intOf kv).toNat)
   case atStart=>exact⟨i,Ls,by omega,rfl,rJ.out,lR HST.out,AF.out,aA.out⟩
   case round=>
    obtain⟨k,Lk,hk,rfl,hpm,hin,AM,hB⟩:=hrel;have kI:=ae hpm;have qL:=ae hin;have fz:=ae AM;have gi:=ae hB;have hzw:=hB.size;clear hpm hin AM hB;have hLn:Lk.length=n:=by rw[kI.out.length_eq];exact HN.out.symm
    by_cases hk0:k=0
    ·subst hk0;go_wp2_with fail;refine wp_region_quiet_below (by kernel_rfl) (by kernel_rfl) ?_
     repeat(first|go_big_quiet_step (fail) |quiet_step (fail))
     refine wpQuiet_nil ?_;intro _ hw';obtain⟨⟨dqV,osV⟩,hw2⟩:=hw';subst hw2;have aO:=ae (below_regrown wr dqV osV);generalize Sort.grow (redrawn wr dqV) osV=V at aO⊢;have gf:=aO.out.size;go_wp2_with fail;exact⟨⟨i+1,Lk,by omega,by go_num,kI.out,ju (k:=0) (fun x y z h1 h2 h3=>by unfold uo at*;omega) qL.out (Nat.zero_le _) (fun x y h=>by omega),al.grow' fz.out aO.out,gi.out.trans (aO.out.mono hzw)⟩,by simp[intOf];omega⟩
    ·obtain⟨p,hp⟩:∃p,Lk[k]? =some p:=⟨_,List.getElem?_eq_getElem (by omega)⟩;obtain⟨q,hq⟩:∃q,Lk[k-1]? =some q:=⟨_,List.getElem?_eq_getElem (by omega)⟩;obtain⟨g,gcap,hsl,hgb,hgs,hcells⟩:=aq.cells fz.out (by omega);injection hsl with hsl hnn hcap
     clear hnn;subst hsl hcap;have a0:=fun d os=>cell_regrown (show wr.cell? ⟨g,k*9,none⟩=some (.int .i64 p.id) from hcells k p hp 0 (by decide)) d os
     have b0:=fun d os=>cell_regrown (show wr.cell? ⟨g,(k-1)*9,none⟩=some (.int .i64 q.id) from hcells (k-1) q hq 0 (by decide)) d os
     have hg0:decide ((0:Int)<(k:Int))=true:=decide_eq_true (by omega);have hg1:0<k:=by omega
     have ib:=ae hp;have sF:=ae hq;clear hcells hp hq hLn;by_cases hlt2:p.id<q.id
     ·have hd:decide (p.id<q.id)=true:=decide_eq_true hlt2;go_wp2_with fail;refine wp_region_quiet_below (by kernel_rfl) (by kernel_rfl) ?_
      repeat(first|go_big_quiet_step (fail) |quiet_step (fail))
      refine wpQuiet_nil ?_;intro _ hw';obtain⟨⟨dqV,osV⟩,hw2⟩:=hw';subst hw2;have aO:=ae (below_regrown wr dqV osV);generalize Sort.grow (redrawn wr dqV) osV=V at aO⊢;have gf:=aO.out.size;have dK:=ae (al.grow' fz.out aO.out);have cr:=ae (gi.out.trans (aO.out.mono hzw));clear a0 b0;go_wp2_with fail;obtain⟨z1,C,z2,hC,hle,z3,Au,z4⟩:=eX dK.out;rw[List.length_map,kI.out.length_eq,<-HN.out] at hle;have Lm:n*9<=C.size:=by rw[Au];exact Nat.mul_le_mul_right 9 hle
      have YC:=ae hC;obtain⟨g',gcap',hsl',hgb',hgs',hcells⟩:=aq.cells dK.out (by rw[kI.out.length_eq,<-HN.out];omega);obtain rfl:g=g':=by injection hsl' with e;injection e with e;injection e
      clear hsl';have YP:=ae (fun j hj=>hcells k p ib.out j hj);have YQ:=ae (fun j hj=>hcells (k-1) q sF.out j hj);clear z1 z2 z3 z4 hcells hC Au hle hgb';obtain⟨p0,p1,p2,p3,p4,p5,p6,p7,p8⟩:=p;obtain⟨q0,q1,q2,q3,q4,q5,q6,q7,q8⟩:=q;have lm:=ae hlt2;clear hlt2 hd;refine bf (fun A0 hA=>?_);refine bD (by kernel_rfl) (by kernel_rfl) [some 33,some 34,some 35,some 36,some 37,some 38,some 39,some 40,some 41,some 42,some 43,some 44,some 45,some 46,some 47,none,some 48,none] rfl (by decide) (gN V.drew (V.drew.setRow g (fA C (k*9) [.int .i64 q0,.int .i64 q1,.int .i64 q2,.int .i64 q3,.int .i64 q4,.int .i64 q5,.int .i64 q6,.int .i64 q7,.int .i64 q8])) ((V.drew.setRow g (fA C (k*9) [.int .i64 q0,.int .i64 q1,.int .i64 q2,.int .i64 q3,.int .i64 q4,.int .i64 q5,.int .i64 q6,.int .i64 q7,.int .i64 q8])).setRow g (fA (fA C (k*9) [.int .i64 q0,.int .i64 q1,.int .i64 q2,.int .i64 q3,.int .i64 q4,.int .i64 q5,.int .i64 q6,.int .i64 q7,.int .i64 q8]) ((k-1)*9) [.int .i64 p0,.int .i64 p1,.int .i64 p2,.int .i64 p3,.int .i64 p4,.int .i64 p5,.int .i64 p6,.int .i64 p7,.int .i64 p8])) 15 17 [0,1,5,6,7,8,9,13,14] [.slice (some ⟨g,0,none⟩) n mcap,.int .i64 (k:Int),.slice (some ⟨g,0,none⟩) n mcap,.int .i64 (k:Int),.int .i64 ((k:Int)-1),.slice (some ⟨g,0,none⟩) n mcap,.int .i64 (k:Int),.int .i64 ((k:Int)-1),.pointer (some ⟨g,(k-1)*9,none⟩),.agg #[.int .i64 q0,.int .i64 q1,.int .i64 q2,.int .i64 q3,.int .i64 q4,.int .i64 q5,.int .i64 q6,.int .i64 q7,.int .i64 q8],.slice (some ⟨g,0,none⟩) n mcap,.int .i64 (k:Int),.pointer (some ⟨g,k*9,none⟩),.agg #[.int .i64 p0,.int .i64 p1,.int .i64 p2,.int .i64 p3,.int .i64 p4,.int .i64 p5,.int .i64 p6,.int .i64 p7,.int .i64 p8],.pointer (some ⟨g,k*9,none⟩),undef,.pointer (some ⟨g,(k-1)*9,none⟩),undef]) (fy A0 _) (ci A0 _) gN.start ?hs1_9_W1 ?hend_9_W1
      case hs1_9_W1=>
       refine⟨?_,?_,?_,?_,?_,?_,?_,?_,?_,?_,?_,?_,?_,?_,?_,?_,?_,?_,trivial⟩
       ·intro K L us W ak hL hd hR;have hK:=ae (fun v A' h1 h2=>ak v A' W h1 (hR.pure 0 (by decide) (by decide) h2));clear ak
        (try simp[Region.binds] at hd)
        clear hd hR;simp only[ah];rw[hA];go_frame;go_wp2_with fail;exact hK.out _ _ (by rw[hA];simp only[ah];kernel_rfl) rfl
       ·intro K L us W ak hL hd hR;have hK:=ae (fun v A' h1 h2=>ak v A' W h1 (hR.pure 1 (by decide) (by decide) h2));clear ak
        (try simp[Region.binds] at hd)
        clear hd hR;simp only[ah];rw[hA];go_frame;go_wp2_with fail;exact hK.out _ _ (by rw[hA];simp only[ah];kernel_rfl) rfl
       ·intro K L us W ak hL hd hR;have hK:=ae (fun v A' h1 h2=>ak v A' W h1 (hR.pure 2 (by decide) (by decide) h2));clear ak
        (try simp[Region.binds] at hd)
        clear hd hR;simp only[ah];rw[hA];go_frame;go_wp2_with fail;exact hK.out _ _ (by rw[hA];simp only[ah];kernel_rfl) rfl
       ·intro K L us W ak hL hd hR;have hK:=ae (fun v A' h1 h2=>ak v A' W h1 (hR.pure 3 (by decide) (by decide) h2));clear ak
        (try simp[Region.binds] at hd)
        clear hd hR;simp only[ah];rw[hA];go_frame;go_wp2_with fail;exact hK.out _ _ (by rw[hA];simp only[ah];kernel_rfl) rfl
       ·intro K L us W ak hL hd hR;have hK:=ae (fun v A' h1 h2=>ak v A' W h1 (hR.pure 4 (by decide) (by decide) h2));clear ak
        (try simp[Region.binds] at hd)
        have e3:us 3=.int .i64 (k:Int):=hR.vals 3 (by simp[hd]) (by decide) (by decide);clear hd hR;simp only[ah];rw[hA,e3];go_frame;go_wp2_with fail;exact hK.out _ _ (by rw[hA];simp only[ah];rw[e3];kernel_rfl) rfl
       ·intro K L us W ak hL hd hR;have hK:=ae (fun v A' h1 h2=>ak v A' W h1 (hR.pure 5 (by decide) (by decide) h2));clear ak
        (try simp[Region.binds] at hd)
        clear hd hR;simp only[ah];rw[hA];go_frame;go_wp2_with fail;exact hK.out _ _ (by rw[hA];simp only[ah];kernel_rfl) rfl
       ·intro K L us W ak hL hd hR;have hK:=ae (fun v A' h1 h2=>ak v A' W h1 (hR.pure 6 (by decide) (by decide) h2));clear ak
        (try simp[Region.binds] at hd)
        clear hd hR;simp only[ah];rw[hA];go_frame;go_wp2_with fail;exact hK.out _ _ (by rw[hA];simp only[ah];kernel_rfl) rfl
       ·intro K L us W ak hL hd hR;have hK:=ae (fun v A' h1 h2=>ak v A' W h1 (hR.pure 7 (by decide) (by decide) h2));clear ak
        (try simp[Region.binds] at hd)
        have e6:us 6=.int .i64 (k:Int):=hR.vals 6 (by simp[hd]) (by decide) (by decide);clear hd hR;simp only[ah];rw[hA,e6];go_frame;go_wp2_with fail;exact hK.out _ _ (by rw[hA];simp only[ah];rw[e6];kernel_rfl) rfl
       ·intro K L us W ak hL hd hR;have hK:=ae (fun v A' h1 h2=>ak v A' W h1 (hR.pure 8 (by decide) (by decide) h2));clear ak
        (try simp[Region.binds] at hd)
        have e5:us 5=.slice (some ⟨g,0,none⟩) n mcap:=hR.vals 5 (by simp[hd]) (by decide) (by decide);have e7:us 7=.int .i64 ((k:Int)-1):=hR.vals 7 (by simp[hd]) (by decide) (by decide);clear hd hR;simp only[ah];rw[hA,e5,e7];go_frame;go_wp2_with fail;exact hK.out _ _ (by rw[hA];simp only[ah];rw[e5,e7];kernel_rfl) rfl
       ·intro K L us W ak hL hd hR;have hK:=ae (fun v A' h1 h2=>ak v A' W h1 (hR.pure 9 (by decide) (by decide) h2));clear ak
        (try simp[Region.binds] at hd)
        have e8:us 8=.pointer (some ⟨g,(k-1)*9,none⟩):=hR.vals 8 (by simp[hd]) (by decide) (by decide);have hW:=hR.at0 (k:=9) (by decide) hL;clear hd hR;subst hW;have c0:V.drew.cell? ⟨g,(k-1)*9,none⟩=some (.int .i64 q0):=YQ.out 0 (by decide);have c1:V.drew.cell? ⟨g,(k-1)*9+1,none⟩=some (.int .i64 q1):=YQ.out 1 (by decide);have c2:V.drew.cell? ⟨g,(k-1)*9+2,none⟩=some (.int .i64 q2):=YQ.out 2 (by decide);have c3:V.drew.cell? ⟨g,(k-1)*9+3,none⟩=some (.int .i64 q3):=YQ.out 3 (by decide);have c4:V.drew.cell? ⟨g,(k-1)*9+4,none⟩=some (.int .i64 q4):=YQ.out 4 (by decide);have c5:V.drew.cell? ⟨g,(k-1)*9+5,none⟩=some (.int .i64 q5):=YQ.out 5 (by decide);have c6:V.drew.cell? ⟨g,(k-1)*9+6,none⟩=some (.int .i64 q6):=YQ.out 6 (by decide);have c7:V.drew.cell? ⟨g,(k-1)*9+7,none⟩=some (.int .i64 q7):=YQ.out 7 (by decide);have c8:V.drew.cell? ⟨g,(k-1)*9+8,none⟩=some (.int .i64 q8):=YQ.out 8 (by decide);simp only[ah];rw[hA,e8];go_frame;go_wp2_with fail;exact hK.out _ _ (by rw[hA];simp only[ah];rw[e8];kernel_rfl) rfl
       ·intro K L us W ak hL hd hR;have hK:=ae (fun v A' h1 h2=>ak v A' W h1 (hR.pure 10 (by decide) (by decide) h2));clear ak
        (try simp[Region.binds] at hd)
        clear hd hR;simp only[ah];rw[hA];go_frame;go_wp2_with fail;exact hK.out _ _ (by rw[hA];simp only[ah];kernel_rfl) rfl
       ·intro K L us W ak hL hd hR;have hK:=ae (fun v A' h1 h2=>ak v A' W h1 (hR.pure 11 (by decide) (by decide) h2));clear ak
        (try simp[Region.binds] at hd)
        clear hd hR;simp only[ah];rw[hA];go_frame;go_wp2_with fail;exact hK.out _ _ (by rw[hA];simp only[ah];kernel_rfl) rfl
       ·intro K L us W ak hL hd hR;have hK:=ae (fun v A' h1 h2=>ak v A' W h1 (hR.pure 12 (by decide) (by decide) h2));clear ak
        (try simp[Region.binds] at hd)
        have e10:us 10=.slice (some ⟨g,0,none⟩) n mcap:=hR.vals 10 (by simp[hd]) (by decide) (by decide);have e11:us 11=.int .i64 (k:Int):=hR.vals 11 (by simp[hd]) (by decide) (by decide);clear hd hR;simp only[ah];rw[hA,e10,e11];go_frame;go_wp2_with fail;exact hK.out _ _ (by rw[hA];simp only[ah];rw[e10,e11];kernel_rfl) rfl
       ·intro K L us W ak hL hd hR;have hK:=ae (fun v A' h1 h2=>ak v A' W h1 (hR.pure 13 (by decide) (by decide) h2));clear ak
        (try simp[Region.binds] at hd)
        have e12:us 12=.pointer (some ⟨g,k*9,none⟩):=hR.vals 12 (by simp[hd]) (by decide) (by decide);have hW:=hR.at0 (k:=13) (by decide) hL;clear hd hR;subst hW;have c0:V.drew.cell? ⟨g,k*9,none⟩=some (.int .i64 p0):=YP.out 0 (by decide);have c1:V.drew.cell? ⟨g,k*9+1,none⟩=some (.int .i64 p1):=YP.out 1 (by decide);have c2:V.drew.cell? ⟨g,k*9+2,none⟩=some (.int .i64 p2):=YP.out 2 (by decide);have c3:V.drew.cell? ⟨g,k*9+3,none⟩=some (.int .i64 p3):=YP.out 3 (by decide);have c4:V.drew.cell? ⟨g,k*9+4,none⟩=some (.int .i64 p4):=YP.out 4 (by decide);have c5:V.drew.cell? ⟨g,k*9+5,none⟩=some (.int .i64 p5):=YP.out 5 (by decide);have c6:V.drew.cell? ⟨g,k*9+6,none⟩=some (.int .i64 p6):=YP.out 6 (by decide);have c7:V.drew.cell? ⟨g,k*9+7,none⟩=some (.int .i64 p7):=YP.out 7 (by decide);have c8:V.drew.cell? ⟨g,k*9+8,none⟩=some (.int .i64 p8):=YP.out 8 (by decide);simp only[ah];rw[hA,e12];go_frame;go_wp2_with fail;exact hK.out _ _ (by rw[hA];simp only[ah];rw[e12];kernel_rfl) rfl
       ·intro K L us W ak hL hd hR;have hK:=ae (fun v A' h1 h2=>ak v A' W h1 (hR.pure 14 (by decide) (by decide) h2));clear ak
        (try simp[Region.binds] at hd)
        have e0:us 0=.slice (some ⟨g,0,none⟩) n mcap:=hR.vals 0 (by simp[hd]) (by decide) (by decide);have e1:us 1=.int .i64 (k:Int):=hR.vals 1 (by simp[hd]) (by decide) (by decide);clear hd hR;simp only[ah];rw[hA,e0,e1];go_frame;go_wp2_with fail;exact hK.out _ _ (by rw[hA];simp only[ah];rw[e0,e1];kernel_rfl) rfl
       ·intro K L us W ak hL hd hR;simp[Region.binds] at hd;have e14:us 14=.pointer (some ⟨g,k*9,none⟩):=hR.vals 14 (by simp[hd]) (by decide) (by decide);have e9:us 9=.agg #[.int .i64 q0,.int .i64 q1,.int .i64 q2,.int .i64 q3,.int .i64 q4,.int .i64 q5,.int .i64 q6,.int .i64 q7,.int .i64 q8]:=hR.vals 9 (by simp[hd]) (by decide) (by decide);have hp:∀j∈[0,1,5,6,7,8,9,13,14],L j=true:=by
         intro j hj;simp only[List.mem_cons,List.not_mem_nil,or_false] at hj
         rcases hj with rfl|rfl|rfl|rfl|rfl|rfl|rfl|rfl|rfl
         all_goals(simp[hd])
        have hW:=(hR.fst (v:=undef) hL hp (by decide)).1;have hK:=ae (fun A' h1=>ak undef A' _ h1 (hR.fst hL hp (by decide)).2);clear ak hp;clear hd hR;subst hW;simp only[ah];rw[hA,e14,e9];go_frame;go_wp2_with (refine eN rfl 106 (.tmp 47) (.tmp 42) rfl g (k*9) _ rfl rfl (show V.drew.heap[g]? =_ from YC.out) xo rfl (by show k*9+9<=C.size;omega) rfl ?_);exact hK.out _ (by rw[hA];simp only[ah];rw[e14,e9];kernel_rfl)
       ·intro K L us W ak hL hd hR;have hK:=ae (fun v A' h1 h2=>ak v A' W h1 (hR.pure 16 (by decide) (by decide) h2));clear ak
        (try simp[Region.binds] at hd)
        have e2:us 2=.slice (some ⟨g,0,none⟩) n mcap:=hR.vals 2 (by simp[hd]) (by decide) (by decide);have e4:us 4=.int .i64 ((k:Int)-1):=hR.vals 4 (by simp[hd]) (by decide) (by decide);clear hd hR;simp only[ah];rw[hA,e2,e4];go_frame;go_wp2_with fail;exact hK.out _ _ (by rw[hA];simp only[ah];rw[e2,e4];kernel_rfl) rfl
       ·intro K L us W ak hL hd hR;simp[Region.binds] at hd;have e16:us 16=.pointer (some ⟨g,(k-1)*9,none⟩):=hR.vals 16 (by simp[hd]) (by decide) (by decide);have e13:us 13=.agg #[.int .i64 p0,.int .i64 p1,.int .i64 p2,.int .i64 p3,.int .i64 p4,.int .i64 p5,.int .i64 p6,.int .i64 p7,.int .i64 p8]:=hR.vals 13 (by simp[hd]) (by decide) (by decide);have h5:L 15=true:=by simp[hd]
        have hW:=(hR.snd (v:=undef) h5 hL).1;have hK:=ae (fun A' h1=>ak undef A' _ h1 (hR.snd h5 hL).2);clear ak;clear hd hR;subst hW;simp only[ah];rw[hA,e16,e13];go_frame;go_wp2_with (refine eN rfl 106 (.tmp 48) (.tmp 46) rfl g ((k-1)*9) _ rfl rfl (setRow_heap _ _ _ _ _ _ (show V.drew.heap[g]? =_ from YC.out)) xo rfl (by show(k-1)*9+9<=(fA C (k*9) _).size;rw[i9];omega) rfl ?_);exact hK.out _ (by rw[hA];simp only[ah];rw[e16,e13];kernel_rfl)
      intro L us W1 hL hR;have hW:W1=(V.drew.setRow g (fA C (k*9) [.int .i64 q0,.int .i64 q1,.int .i64 q2,.int .i64 q3,.int .i64 q4,.int .i64 q5,.int .i64 q6,.int .i64 q7,.int .i64 q8])).setRow g (fA (fA C (k*9) [.int .i64 q0,.int .i64 q1,.int .i64 q2,.int .i64 q3,.int .i64 q4,.int .i64 q5,.int .i64 q6,.int .i64 q7,.int .i64 q8]) ((k-1)*9) [.int .i64 p0,.int .i64 p1,.int .i64 p2,.int .i64 p3,.int .i64 p4,.int .i64 p5,.int .i64 p6,.int .i64 p7,.int .i64 p8]):=by have:=hR.wld;rw[hL 17 (by decide)] at this;exact this
      clear hR hL;simp only[ah];rw[hA];clear hA;go_frame;subst hW;have zQ:=ae (lG (enc:=Pt.row) (show al V.drew w.heap.size 106 9 (.slice (some ⟨g,0,none⟩) n mcap) (Lk.map Pt.row) from al.drew dK.out) YC.out rfl rfl (Pt.row_one _) (Pt.row_one _) ib.out sF.out);have dQ:=ae (fun X Y=>dT (X:=Y) (dT (X:=X) (kg cr.out) hgb) hgb);simp only[Pt.row] at zQ;have jI:=ae ((qV ib.out sF.out).trans kI.out)
      have Jt:=ae (show jL uo ((Lk.set k ⟨q0,q1,q2,q3,q4,q5,q6,q7,q8⟩).set (k-1) ⟨p0,p1,p2,p3,p4,p5,p6,p7,p8⟩) i (k-1) by
       have e:k=(k-1)+1:=by omega
       have h:=nZ (r:=uo) (k:=k-1) (fun x y h h2=>by unfold uo at*;omega) (by rw[<-e];exact qL.out) (by omega) (by rw[<-e];exact ib.out) sF.out lm.out;rw[<-e] at h
       exact h)
      go_wp2_with fail;exact⟨⟨k-1,_,by omega,by congr 1;omega,jI.out,Jt.out,zQ.out,dQ.out _ _⟩,by simp[intOf];omega⟩
     ·have hd:decide (p.id<q.id)=false:=decide_eq_false hlt2;go_wp2_with fail;refine wp_region_quiet_below (by kernel_rfl) (by kernel_rfl) ?_
      repeat(first|go_big_quiet_step (fail) |quiet_step (fail))
      refine wpQuiet_nil ?_;intro _ hw';obtain⟨⟨dqV,osV⟩,hw2⟩:=hw';subst hw2;have aO:=ae (below_regrown wr dqV osV);generalize Sort.grow (redrawn wr dqV) osV=V at aO⊢;have gf:=aO.out.size;have dK:=ae (al.grow' fz.out aO.out);have cr:=ae (gi.out.trans (aO.out.mono hzw));clear a0 b0;go_wp2_with fail
      exact⟨⟨i+1,Lk,by omega,by go_num,kI.out,ju (k:=k) (fun x y z h1 h2 h3=>by unfold uo at*;omega) qL.out hk (fun x y _ h1 h2=>by
       rw[ib.out] at h1;rw[sF.out] at h2;injection h1 with h1
       injection h2 with h2
       subst h1 h2
       exact fun h=>by unfold uo at h;omega),dK.out,cr.out⟩,by simp[intOf];omega⟩
  ·obtain rfl:i=n:=by omega
   have d1:decide ((i:Int)<(i:Int))=false:=by simp
   go_wp2_with fail;go_ret;refine⟨⟨_,rfl,Ls,AF.out,rJ.out,?_⟩,aA.out⟩;have h:=HST.out;rw[HN.out,<-rJ.out.length_eq] at h;exact gB h
end Go.Proofs.YtcclpdfmmdonpaaGreat
