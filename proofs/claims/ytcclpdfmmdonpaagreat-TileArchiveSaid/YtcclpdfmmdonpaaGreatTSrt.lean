/- Texts of the seat Yteanlcefdoigcaa, turned to this one by wip/port.py: LayM SortF Lay1. -/
import Derived.Test.YtcclpdfmmdonpaaGreatTVal
import Derived.Shelf.SlSortCmp.NoneTotal
namespace Go.Proofs.YtcclpdfmmdonpaaGreat
set_option maxRecDepth 100000
open Go.RowKit
structure Pt where
 id:Int
 x:Int
 y:Int
 zl:Int
 zh:Int
 wd:Int
 nm:Int
 of:Int
 cl:Int
structure Ky where
 L:Int
 x:Int
 y:Int
 z:Int
structure Tl where
 key:Ky
 pts:List Pt
instance:Inhabited Pt:=⟨⟨0,0,0,0,0,0,0,0,0⟩⟩
instance:Inhabited Ky:=⟨⟨0,0,0,0⟩⟩
instance:Inhabited Tl:=⟨⟨default,[]⟩⟩
def Pt.f (p:Pt) (j:Nat):Int:=match j with|0=>p.id|1=>p.x|2=>p.y|3=>p.zl|4=>p.zh|5=>p.wd|6=>p.nm|7=>p.of|_=>p.cl
theorem Ky.ext' {a b:Ky} (h1:a.L=b.L) (h2:a.x=b.x) (h3:a.y=b.y) (h4:a.z=b.z):a=b:=by
 cases a;cases b;simp at*;exact⟨h1,h2,h3,h4⟩
instance:DecidableEq Ky:=fun a b=>
 if h:a.L=b.L/\a.x=b.x/\a.y=b.y/\a.z=b.z then isTrue (Ky.ext' h.1 h.2.1 h.2.2.1 h.2.2.2) else isFalse (fun e=>h (by subst e;exact⟨rfl,rfl,rfl,rfl⟩))
def Ky.lt (a b:Ky):Prop:=a.L<b.L∨(a.L=b.L/\(a.x<b.x∨(a.x=b.x/\(a.y<b.y∨(a.y=b.y/\a.z<b.z)))))
theorem Ky.lt_irrefl (a:Ky):¬a.lt a:=by unfold Ky.lt;omega
theorem Ky.lt_trans {a b c:Ky} (h:a.lt b) (h2:b.lt c):a.lt c:=by unfold Ky.lt at*;omega
theorem Ky.lt_total {a b:Ky} (h:a≠b):a.lt b∨b.lt a:=by
 by_cases h1:a.L=b.L/\a.x=b.x/\a.y=b.y/\a.z=b.z
 ·exact absurd (Ky.ext' h1.1 h1.2.1 h1.2.2.1 h1.2.2.2) h
 ·unfold Ky.lt;omega
def aK (l:Nat) (p:Pt):Ky:=⟨l,bN p.x l,bN p.y l,bN p.zl l⟩
def hD (l:Nat) (p q:Pt):Bool:=decide (aK l q=aK l p) && decide (aY q.id<aY p.id)
def dp (S:List Pt) (c:Nat):Nat->Pt->Bool
 |0=>fun _=>true
 |l+1=>fun p=>dp S c l p && !(decide (l=12) || decide (S.countP (fun q=>dp S c l q && hD l p q)<c))
def takes (S:List Pt) (c l:Nat) (p:Pt):Bool:=decide (l=12) || decide (S.countP (fun q=>dp S c l q && hD l p q)<c)
theorem dR (S:List Pt) (c l:Nat) (p:Pt):dp S c (l+1) p=(dp S c l p && !takes S c l p):=rfl
theorem io {S S':List Pt} (h:S.Perm S') (c:Nat):∀l,dp S c l=dp S' c l
 |0=>rfl
 |l+1=>by
  funext p;rw[dR,dR,io h c l];unfold takes;rw[io h c l,h.countP_eq]
theorem n7 {S S':List Pt} (h:S.Perm S') (c l:Nat) (p:Pt):takes S c l p=takes S' c l p:=by
 unfold takes;rw[io h c l,h.countP_eq]
theorem lA {S:List Pt} {c:Nat} {p:Pt} :∀{l m:Nat},l<=m->dp S c m p=true->dp S c l p=true
 |l,0,h,_=>by
  obtain rfl:l=0:=by omega
  rfl
 |l,m+1,h,h2=>by
  by_cases he:l=m+1
  ·subst he;exact h2
  ·rw[dR,Bool.and_eq_true] at h2;exact lA (by omega) h2.1
theorem qP (S:List Pt) (c:Nat) (p:Pt):dp S c 13 p=false:=by
 rw[dR];simp[takes]
def fZ (S:List Pt) (c:Nat) (p:Pt) (k:Ky):Prop:=∃l,l<=12/\dp S c l p=true/\takes S c l p=true/\k=aK l p
theorem zB {S S':List Pt} (h:S.Perm S') {c:Nat} {p:Pt} {k:Ky} :fZ S c p k↔fZ S' c p k:=by
 unfold fZ;constructor
 ·rintro⟨l,h1,h2,h3,h4⟩;exact⟨l,h1,by rw[<-io h];exact h2,by rw[<-n7 h];exact h3,h4⟩
 ·rintro⟨l,h1,h2,h3,h4⟩;exact⟨l,h1,by rw[io h];exact h2,by rw[n7 h];exact h3,h4⟩
theorem qw {S:List Pt} {c l m:Nat} {p:Pt} (h:takes S c l p=true) (hlm:l<m):dp S c m p=false:=by
 cases hm:dp S c m p
 ·rfl
 ·have:=lA (l:=l+1) (by omega) hm;rw[dR,h] at this;simp at this
theorem uG {S:List Pt} {c l m:Nat} {p:Pt} (h1:dp S c l p=true) (h2:takes S c l p=true) (h3:dp S c m p=true) (h4:takes S c m p=true):l=m:=by
 rcases Nat.lt_trichotomy l m with h|h|h
 ·rw[qw h2 h] at h3;cases h3
 ·exact h
 ·rw[qw h4 h] at h1;cases h1
theorem rp {S:List Pt} {c:Nat} {p:Pt} {k k':Ky} (h:fZ S c p k) (h':fZ S c p k'):k=k':=by
 obtain⟨l,_,h2,h3,rfl⟩:=h;obtain⟨m,_,g2,g3,rfl⟩:=h';rw[uG h2 h3 g2 g3]
theorem oS (S:List Pt) (c:Nat) (p:Pt):∀m,dp S c m p=true∨∃l,l<m/\dp S c l p=true/\takes S c l p=true
 |0=>.inl rfl
 |m+1=>by
  rcases oS S c p m with h| ⟨l,h1,h2,h3⟩
  ·cases ht:takes S c m p
   ·left;rw[dR,h,ht];rfl
   ·exact .inr ⟨m,by omega,h,ht⟩
  ·exact .inr ⟨l,by omega,h2,h3⟩
theorem wt (S:List Pt) (c:Nat) (p:Pt):∃k,fZ S c p k:=by
 rcases oS S c p 13 with h| ⟨l,h1,h2,h3⟩
 ·rw[qP] at h;cases h
 ·exact⟨_,l,by omega,h2,h3,rfl⟩
theorem xi {S:List Pt} {c:Nat} {p:Pt} {k:Ky} (h:fZ S c p k):∃l:Nat,l<=12/\k.L=l:=by
 obtain⟨l,h1,_,_,rfl⟩:=h;exact⟨l,h1,rfl⟩
structure cC (Q:Pt->Ky->Prop) (T:List Tl):Prop where
 keys:T.Pairwise (fun t u=>t.key≠u.key)
 pts:∀t∈T,t.pts≠[]/\t.pts.Pairwise (fun p q=>p.id<q.id)
 mem:∀t∈T,∀p,p∈t.pts↔Q p t.key
 all:∀p k,Q p k->∃t∈T,t.key=k
theorem cC.nil {Q:Pt->Ky->Prop} (h:∀p k,¬Q p k):cC Q []:=⟨List.Pairwise.nil,fun t ht=>(by simp at ht),fun t ht=>(by simp at ht),fun p k hq=>absurd hq (h p k)⟩
theorem cC.congr {Q Q':Pt->Ky->Prop} {T:List Tl} (h:cC Q T) (he:∀p k,Q p k↔Q' p k):cC Q' T:=
 ⟨h.keys,h.pts,fun t ht p=>(h.mem t ht p).trans (he p t.key),fun p k hq=>h.all p k ((he p k).2 hq)⟩
theorem cC.perm {Q:Pt->Ky->Prop} {T T':List Tl} (h:cC Q T) (hp:T.Perm T'):cC Q T':=
 ⟨(hp.pairwise_iff (fun {_ _} e=>Ne.symm e)).1 h.keys,fun t ht=>h.pts t (hp.mem_iff.2 ht),fun t ht=>h.mem t (hp.mem_iff.2 ht),fun p k hq=>by
   obtain⟨t,h1,h2⟩:=h.all p k hq
   exact⟨t,hp.mem_iff.1 h1,h2⟩⟩
theorem cC.add {Q:Pt->Ky->Prop} {T:List Tl} {k:Ky} {pts:List Pt} (h:cC Q T) (hk:∀p,¬Q p k) (hn:pts≠[]) (hs:pts.Pairwise (fun p q=>p.id<q.id)):
 cC (fun p x=>Q p x∨(x=k/\p∈pts)) (T++[⟨k,pts⟩]):=by
 have hne:∀t∈T,t.key≠k:=fun t ht e=>by
  obtain⟨h1,_⟩:=h.pts t ht
  cases hp:t.pts with
  |nil=>exact h1 hp
  |cons p l=>exact hk p (e▸(h.mem t ht p).1 (by rw[hp];simp))
 refine⟨?_,?_,?_,?_⟩
 ·rw[List.pairwise_append];exact⟨h.keys,List.pairwise_singleton _ _,fun t ht u hu=>by obtain rfl:=List.mem_singleton.1 hu;exact hne t ht⟩
 ·intro t ht
  rcases List.mem_append.1 ht with g|g
  ·exact h.pts t g
  ·obtain rfl:=List.mem_singleton.1 g;exact⟨hn,hs⟩
 ·intro t ht p
  rcases List.mem_append.1 ht with g|g
  ·rw[h.mem t g p];exact⟨.inl,fun e=>e.elim id (fun e=>absurd e.1 (hne t g))⟩
  ·obtain rfl:=List.mem_singleton.1 g;exact⟨fun e=>.inr ⟨rfl,e⟩,fun e=>e.elim (fun e=>absurd e (hk p)) (·.2)⟩
 ·intro p x hq
  rcases hq with g| ⟨rfl,g⟩
  ·obtain⟨t,h1,h2⟩:=h.all p x g;exact⟨t,List.mem_append_left _ h1,h2⟩
  ·exact⟨_,List.mem_append_right _ (List.mem_singleton.2 rfl),rfl⟩
theorem cC.more {Q:Pt->Ky->Prop} {T:List Tl} {n:Nat} {t:Tl} {p:Pt} (h:cC Q T) (hn:T[n]? =some t) (hp:∀q∈t.pts,q.id<p.id):
 cC (fun q x=>Q q x∨(x=t.key/\q=p)) (T.set n ⟨t.key,t.pts++[p]⟩):=by
 have hlt:n<T.length:=(List.getElem?_eq_some_iff.1 hn).1;have hel:T[n]=t:=(List.getElem?_eq_some_iff.1 hn).2;have hap:=List.pairwise_iff_getElem.1 h.keys;have hkey:∀i (hi:i<T.length),T[i].key =t.key->i=n:=fun i hi e=>by
  rcases Nat.lt_trichotomy i n with g|g|g
  ·exact absurd (e.trans (by rw[hel])) (hap i n hi hlt g)
  ·exact g
  ·exact absurd ((by rw[hel]:T[n].key =t.key).trans e.symm) (hap n i hlt hi g)
 have hmem:t∈T:=List.mem_of_getElem? hn;have hin:∀u,u∈T.set n ⟨t.key,t.pts++[p]⟩->u=⟨t.key,t.pts++[p]⟩∨(u∈T/\u.key≠t.key):=fun u hu=>by
  obtain⟨i,hi,e⟩:=List.mem_iff_getElem.1 hu;rw[List.getElem_set] at e
  split at e
  ·exact .inl e.symm
  ·rename_i g
   simp at hi;exact .inr ⟨e▸List.getElem_mem hi,fun e2=>g (hkey i hi (by rw[e];exact e2)).symm⟩
 refine⟨?_,?_,?_,?_⟩
 ·rw[List.pairwise_iff_getElem];intro i j hi hj hij;simp at hi hj;rw[List.getElem_set,List.getElem_set]
  split
  ·split
   ·omega
   ·rename_i g1 g2
    exact fun e=>g2 (hkey j hj e.symm).symm
  ·split
   ·rename_i g1 g2
    exact fun e=>g1 (hkey i hi e).symm
   ·exact hap i j hi hj hij
 ·intro u hu
  rcases hin u hu with rfl| ⟨g,_⟩
  ·refine⟨by simp,?_⟩;rw[List.pairwise_append];exact⟨(h.pts t hmem).2,List.pairwise_singleton _ _,fun a ha b hb=>by obtain rfl:=List.mem_singleton.1 hb;exact hp a ha⟩
  ·exact h.pts u g
 ·intro u hu q
  rcases hin u hu with rfl| ⟨g,gk⟩
  ·show q∈t.pts++[p]↔_;rw[List.mem_append,List.mem_singleton,h.mem t hmem q];exact⟨fun e=>e.elim .inl (fun e=>.inr ⟨rfl,e⟩),fun e=>e.elim .inl (fun e=>.inr e.2)⟩
  ·rw[h.mem u g q];exact⟨.inl,fun e=>e.elim id (fun e=>absurd e.1 gk)⟩
 ·intro q x hq;have hnew:(⟨t.key,t.pts++[p]⟩:Tl)∈T.set n ⟨t.key,t.pts++[p]⟩:=List.mem_iff_getElem.2 ⟨n,by simpa using hlt,by rw[List.getElem_set_self]⟩;by_cases hx:x=t.key
  ·exact⟨_,hnew,hx.symm⟩
  ·rcases hq with g| ⟨g,_⟩
   ·obtain⟨u,h1,h2⟩:=h.all q x g;obtain⟨i,hi,e⟩:=List.mem_iff_getElem.1 h1;refine⟨u,List.mem_iff_getElem.2 ⟨i,by simpa using hi,?_⟩,h2⟩;rw[List.getElem_set_ne (by intro e2;subst e2;rw[hel] at e;subst e;exact hx h2.symm)];exact e
   ·exact absurd g hx
theorem fo {α:Type} {r:α->α->Prop} (irr:∀a,¬r a a) (tr:∀a b c,r a b->r b c->r a c):∀{l m:List α},l.Pairwise r->m.Pairwise r->(∀a,a∈l↔a∈m)->l=m
 | [],[],_,_,_=>rfl
 | [],b::m,_,_,h=>by have:=(h b).2 (by simp);simp at this
 |a::l,[],_,_,h=>by have:=(h a).1 (by simp);simp at this
 |a::l,b::m,hl,hm,h=>by
  obtain⟨hl1,hl2⟩:=List.pairwise_cons.1 hl;obtain⟨Hg,hm2⟩:=List.pairwise_cons.1 hm;have e:a=b:=by
   rcases List.mem_cons.1 ((h a).1 (by simp)) with g|g
   ·exact g
   ·rcases List.mem_cons.1 ((h b).2 (by simp)) with g2|g2
    ·exact g2.symm
    ·exact absurd (tr _ _ _ (hl1 b g2) (Hg a g)) (irr a)
  subst e;rw[fo irr tr hl2 hm2 (fun x=>?_)];constructor
  ·intro hx
   rcases List.mem_cons.1 ((h x).1 (List.mem_cons_of_mem _ hx)) with g|g
   ·subst g;exact absurd (hl1 x hx) (irr x)
   ·exact g
  ·intro hx
   rcases List.mem_cons.1 ((h x).2 (List.mem_cons_of_mem _ hx)) with g|g
   ·subst g;exact absurd (Hg x hx) (irr x)
   ·exact g
structure bE (S:List Pt) (c:Nat) (T:List Tl):Prop where
 order:T.Pairwise (fun t u=>t.key.lt u.key)
 tiles:cC (fun p k=>p∈S/\fZ S c p k) T
theorem qh {Q:Pt->Ky->Prop} {T T':List Tl} (h:cC Q T) (h':cC Q T') (t:Tl) (ht:t∈T):t∈T':=by
 obtain⟨hn,hs⟩:=h.pts t ht;obtain⟨p,hp⟩:∃p,p∈t.pts:=List.exists_mem_of_ne_nil _ hn;obtain⟨u,hu,he⟩:=h'.all p t.key ((h.mem t ht p).1 hp);have e:t.pts=u.pts:=fo (r:=fun p q:Pt=>p.id<q.id) (fun a=>by omega) (fun a b c h1 h2=>by omega) hs (h'.pts u hu).2 (fun a=>by rw[h.mem t ht a,h'.mem u hu a,he]);have:t=u:=by
  cases t;cases u;simp at he e;rw[he,e]
 rw[this];exact hu
theorem qC {Q:Pt->Ky->Prop} {T T':List Tl} (h:cC Q T) (h':cC Q T') (o:T.Pairwise (fun t u=>t.key.lt u.key)) (o':T'.Pairwise (fun t u=>t.key.lt u.key)):T=T':=
 fo (r:=fun t u:Tl=>t.key.lt u.key) (fun _=>Ky.lt_irrefl _) (fun _ _ _=>Ky.lt_trans) o o' (fun t=>⟨qh h h' t,qh h' h t⟩)
theorem bE.unique {S:List Pt} {c:Nat} {T T':List Tl} (h:bE S c T) (h':bE S c T'):T=T':=qC h.tiles h'.tiles h.order h'.order
theorem iP {Q:Pt->Ky->Prop} {T:List Tl} (h:cC Q T) (ho:T.Pairwise (fun t u=>¬u.key.lt t.key)):T.Pairwise (fun t u=>t.key.lt u.key):=by
 refine(h.keys.and ho).imp ?_;rintro a b ⟨h1,h2⟩
 rcases Ky.lt_total h1 with g|g
 ·exact g
 ·exact absurd g h2
open Go.RowKit
def kZ (S:List Pt):Prop:=S.Pairwise (fun p q=>p.id≠q.id)/\∀p∈S,0<=p.id/\p.id<=1152921504606846976
structure cP (S:List Pt) (c l:Nat) (Lf:List Pt):Prop where
 perm:Lf.Perm (S.filter (dp S c l))
 rank:Lf.Pairwise (fun p q=>aY p.id<aY q.id)
theorem cP.mem {S:List Pt} {c l:Nat} {Lf:List Pt} (h:cP S c l Lf) {p:Pt} :p∈Lf↔p∈S/\dp S c l p=true:=by
 rw[h.perm.mem_iff,List.mem_filter]
theorem vx {S:List Pt} {c:Nat} {Lf:List Pt} (hS:kZ S) (hp:Lf.Perm S) (hs:Lf.Pairwise (fun p q=>¬aY q.id<aY p.id)):cP S c 0 Lf:=by
 refine⟨?_,?_⟩
 ·have e:S.filter (dp S c 0)=S:=List.filter_eq_self.2 (fun _ _=>rfl);rw[e];exact hp
 ·have hd:Lf.Pairwise (fun p q=>p.id≠q.id):=(hp.pairwise_iff (fun {_ _} e=>Ne.symm e)).2 hS.1;have hall:∀p∈Lf,0<=p.id/\p.id<=1152921504606846976:=fun p h=>hS.2 p (hp.mem_iff.1 h)
  refine List.Pairwise.imp_of_mem ?_ (hd.and hs);rintro a b ha hb ⟨h1,h2⟩;have:aY a.id≠aY b.id:=fun e=>h1 (B7 (hall a ha) (hall b hb) e)
  omega
theorem cP.next {S:List Pt} {c l:Nat} {Lf:List Pt} (h:cP S c l Lf):cP S c (l+1) (Lf.filter (fun q=> !takes S c l q)):=by
 refine⟨?_,h.rank.filter _⟩;refine(h.perm.filter _).trans ?_;rw[List.filter_filter];refine List.Perm.of_eq (List.filter_congr fun p _=>?_);rw[dR,Bool.and_comm]
theorem cP.count {S:List Pt} {c l i:Nat} {Lf:List Pt} {p:Pt} (h:cP S c l Lf) (hi:Lf[i]? =some p):S.countP (fun q=>dp S c l q && hD l p q)=(Lf.take i).countP (fun q=>decide (aK l q=aK l p)):=by
 have e1:S.countP (fun q=>dp S c l q && hD l p q)=(S.filter (dp S c l)).countP (hD l p):=by
  rw[List.countP_filter];exact List.countP_congr (fun q _=>by rw[Bool.and_comm])
 rw[e1,<-h.perm.countP_eq];obtain⟨hlt,hel⟩:=List.getElem?_eq_some_iff.1 hi;have hpw:=List.pairwise_iff_getElem.1 h.rank;have hsp:(Lf.take i++Lf.drop i).countP (hD l p)=(Lf.take i).countP (fun q=>decide (aK l q=aK l p)):=by
  rw[List.countP_append];have z:(Lf.drop i).countP (hD l p)=0:=by
   rw[List.countP_eq_zero];intro q hq;obtain⟨j,hj,e⟩:=List.mem_iff_getElem.1 hq;rw[List.getElem_drop] at e;simp at hj;have:¬aY q.id<aY p.id:=by
    rw[<-e,<-hel];by_cases h0:j=0
    ·subst h0;simp
    ·have:=hpw i (i+j) hlt (by omega) (by omega);omega
   simp[hD,this]
  rw[z,Nat.add_zero];refine List.countP_congr fun q hq=>?_
  obtain⟨j,hj,e⟩:=List.mem_iff_getElem.1 hq;rw[List.getElem_take] at e;simp at hj;have:aY q.id<aY p.id:=by
   rw[<-e,<-hel];exact hpw j i (by omega) hlt (by omega)
  simp[hD,this]
 rw[List.take_append_drop] at hsp;exact hsp
theorem cP.takes {S:List Pt} {c l i:Nat} {Lf:List Pt} {p:Pt} (h:cP S c l Lf) (hi:Lf[i]? =some p):takes S c l p=(decide (l=12) || decide ((Lf.take i).countP (fun q=>decide (aK l q=aK l p))<c)):=by
 unfold YtcclpdfmmdonpaaGreat.takes;rw[h.count hi]
def jw (S:List Pt) (c l:Nat) (Lf:List Pt) (i:Nat) (k:Ky):List Pt:=(Lf.take i).filter (fun q=>decide (aK l q=k) && takes S c l q)
def pe (S:List Pt) (c l:Nat) (Lf:List Pt) (i:Nat):List Pt:=(Lf.take i).filter (fun q=> !takes S c l q)
theorem eA {Lf:List Pt} {i:Nat} {p:Pt} (hi:Lf[i]? =some p):Lf.take (i+1)=Lf.take i++[p]:=by
 rw[List.take_add_one,hi];rfl
theorem wz {S:List Pt} {c l i:Nat} {Lf:List Pt} {p:Pt} (hi:Lf[i]? =some p) (ht:takes S c l p=true):jw S c l Lf (i+1) (aK l p)=jw S c l Lf i (aK l p)++[p]:=by
 unfold jw;rw[eA hi,List.filter_append];simp[ht]
theorem fL {S:List Pt} {c l i:Nat} {Lf:List Pt} {p:Pt} {k:Ky} (hi:Lf[i]? =some p) (h:takes S c l p=false∨aK l p≠k):jw S c l Lf (i+1) k=jw S c l Lf i k:=by
 unfold jw;rw[eA hi,List.filter_append]
 rcases h with h|h
 iterate 2 (·simp[h])
theorem EM {S:List Pt} {c l i:Nat} {Lf:List Pt} {p:Pt} (hi:Lf[i]? =some p) (ht:takes S c l p=true):pe S c l Lf (i+1)=pe S c l Lf i:=by
 unfold pe;rw[eA hi,List.filter_append];simp[ht]
theorem G9 {S:List Pt} {c l i:Nat} {Lf:List Pt} {p:Pt} (hi:Lf[i]? =some p) (ht:takes S c l p=false):pe S c l Lf (i+1)=pe S c l Lf i++[p]:=by
 unfold pe;rw[eA hi,List.filter_append];simp[ht]
theorem wF {S:List Pt} {c l:Nat} {Lf:List Pt} (h:cP S c l Lf) (hl:l≠12) (k:Ky):∀i,i<=Lf.length->(jw S c l Lf i k).length =min c ((Lf.take i).countP (fun q=>decide (aK l q=k)))
 |0,_=>by simp[jw]
 |i+1,hi=>by
  have ih:=wF h hl k i (by omega);have hp:Lf[i]? =some Lf[i]:=List.getElem?_eq_getElem (by omega);have ht:=h.takes hp;simp only[hl,decide_false,Bool.false_or] at ht;rw[eA hp,List.countP_append];by_cases hk:aK l Lf[i]=k
  ·subst hk;rw[show List.countP (fun q=>decide (aK l q=aK l Lf[i])) [Lf[i]]=1 by simp];by_cases hc:(Lf.take i).countP (fun q=>decide (aK l q=aK l Lf[i]))<c
   ·rw[wz hp (by rw[ht];exact decide_eq_true hc),List.length_append,ih];simp;omega
   ·rw[fL hp (Or.inl (by rw[ht];exact decide_eq_false hc)),ih];omega
  ·rw[fL hp (Or.inr hk),ih,show List.countP (fun q=>decide (aK l q=k)) [Lf[i]]=0 by simp[hk]];simp
theorem yF {S:List Pt} {c l i:Nat} {Lf:List Pt} {p:Pt} (h:cP S c l Lf) (hi:Lf[i]? =some p):takes S c l p=(decide (l=12) || decide ((jw S c l Lf i (aK l p)).length <c)):=by
 rw[h.takes hi];by_cases hl:l=12
 ·simp[hl]
 ·rw[wF h hl _ i (by have:=(List.getElem?_eq_some_iff.1 hi).1;omega)];simp[hl];omega
theorem xh {S:List Pt} {c l i:Nat} {Lf:List Pt} {p:Pt} {k:Ky} :p∈jw S c l Lf i k↔p∈Lf.take i/\aK l p=k/\takes S c l p=true:=by
 unfold jw;rw[List.mem_filter];simp
theorem tx {S:List Pt} {c l:Nat} {Lf:List Pt} {p:Pt} {k:Ky} (h:cP S c l Lf) (hl:l<=12) (hk:k.L=l):p∈jw S c l Lf Lf.length k↔p∈S/\fZ S c p k:=by
 rw[xh,List.take_length,h.mem];constructor
 ·rintro⟨⟨h1,h2⟩,h3,h4⟩;exact⟨h1,l,hl,h2,h4,h3.symm⟩
 ·rintro⟨h1,m,_,h3,h4,rfl⟩;have:m=l:=by
   have:(m:Int)=l:=hk;omega
  subst this;exact⟨⟨h1,h3⟩,rfl,h4⟩
theorem Ef {S:List Pt} {c l i:Nat} {Lf:List Pt} (hS:kZ S) (h:cP S c l Lf) (k:Ky):(jw S c l Lf i k).Pairwise (fun p q=>p.id≠q.id):=by
 have h1:Lf.Pairwise (fun p q=>p.id≠q.id):=(h.perm.pairwise_iff (fun {_ _} e=>Ne.symm e)).2 (hS.1.filter _);exact(h1.sublist (List.take_sublist ..)).filter _
theorem wI {l l':List Pt} (hp:l'.Perm l) (hd:l.Pairwise (fun p q=>p.id≠q.id)) (hs:l'.Pairwise (fun p q=>¬q.id<p.id)):l'.Pairwise (fun p q=>p.id<q.id):=by
 have h1:l'.Pairwise (fun p q=>p.id≠q.id):=(hp.pairwise_iff (fun {_ _} e=>Ne.symm e)).2 hd;refine(h1.and hs).imp ?_;rintro a b ⟨h2,h3⟩;omega
theorem cP.none {S:List Pt} {c l:Nat} (h:cP S c l []) {p:Pt} {k:Ky} (hp:p∈S) (hk:fZ S c p k):k.L<l:=by
 obtain⟨m,h1,h2,h3,rfl⟩:=hk;have hn:dp S c l p=false:=by
  cases hq:dp S c l p
  ·rfl
  ·have:=h.mem.2 ⟨hp,hq⟩;simp at this
 show(m:Int)<l
 rcases Nat.lt_or_ge m l with g|g
 ·omega
 ·rw[lA g h2] at hn;cases hn
theorem cP.end13 {S:List Pt} {c:Nat} {Lf:List Pt} (h:cP S c 13 Lf):Lf=[]:=by
 cases Lf with
 |nil=>rfl
 |cons p l=>
  have:=(h.mem.1 (List.mem_cons_self ..)).2;rw[qP] at this
  cases this
open Go.RowKit Go.Sort Go.Lib Go.Shelf Go.Proofs
theorem jo {α:Type} {enc:α->List Value} {k:Nat} (hk:∀x,(enc x).length =k) (h1:∀x,∀v∈enc x,v.oneCell'=true) (l:List α):bF k (l.map enc):=fun r hr=>by
 obtain⟨x,_,rfl⟩:=List.mem_map.1 hr;exact⟨hk x,h1 x⟩
theorem th {α:Type} {enc:α->List Value} {k:Nat} (hk:∀x,(enc x).length =k) (l:List α):((l.map enc).flatten).length =l.length*k:=by
 induction l with
 |nil=>simp
 |cons a l ih=>rw[List.map_cons,List.flatten_cons,List.length_append,ih,hk,List.length_cons,Nat.add_mul,Nat.one_mul,Nat.add_comm]
section
variable {α:Type} [Inhabited α] {enc:α->List Value} {k:Nat}
theorem wq (hk:∀x,(enc x).length =k):∀(l:List α) (i j:Nat),i<l.length->j<k->(l.map enc).flatten[i*k+j]? =(enc l[i]!)[j]?
 | [],i,_,h,_=>by simp at h
 |a::l,0,j,_,hj=>by
  rw[List.map_cons,List.flatten_cons,Nat.zero_mul,Nat.zero_add,List.getElem?_append_left (by rw[hk];exact hj)];rfl
 |a::l,i+1,j,h,hj=>by
  have e:(i+1)*k+j=k+(i*k+j):=by rw[Nat.add_mul];omega
  rw[List.map_cons,List.flatten_cons,e,List.getElem?_append_right (by rw[hk];omega),hk,Nat.add_sub_cancel_left,wq hk l i j (by simpa using h) hj];rfl
theorem uI (hk:∀x,(enc x).length =k) (d:Array α):(flatK enc k d).toList =(d.toList.map enc).flatten :=by
 refine List.ext_getElem? fun t=>?_
 by_cases ht:t<d.size*k
 ·have k0:0<k:=by
   rcases Nat.eq_zero_or_pos k with h|h
   ·subst h;simp at ht
   ·exact h
  have hd:t/k<d.size:=Nat.div_lt_of_lt_mul (by rw[Nat.mul_comm];exact ht);have hm:t%k<k:=Nat.mod_lt _ k0;have e:t/k*k+t%k=t:=by rw[Nat.mul_comm];exact Nat.div_add_mod t k
  have h1:=wq hk d.toList (t/k) (t%k) (by simpa using hd) hm;rw[e] at h1;rw[h1,Array.getElem?_toList,Array.getElem?_eq_getElem (by simpa using ht)];have h2:=get_flatK enc k d t ht;rw[getElem!_pos _ t (by simpa using ht)] at h2;rw[h2];have h3:d.toList[t/k]! =d[t/k]! :=by
   rw[getElem!_pos d _ hd,getElem!_pos d.toList _ (by simpa using hd)];simp
  rw[h3,List.getElem?_eq_getElem (by rw[hk];exact hm),getElem!_pos (enc d[t/k]!) _ (by rw[hk];exact hm)]
 ·rw[List.getElem?_eq_none (by simp;omega),List.getElem?_eq_none (by rw[th hk];simp;omega)]
theorem own_holds (hk:∀x,(enc x).length =k) {W:World} {base t g cap:Nat} {l:List α} (h:al W base t k (.slice (some ⟨g,0,none⟩) l.length cap) (l.map enc)):HoldsK enc k W g 0 l.toArray:=by
 intro j hj;rw[size_flatK] at hj;simp only[List.size_toArray] at hj;have k0:0<k:=by
  rcases Nat.eq_zero_or_pos k with h|h
  ·subst h;simp at hj
  ·exact h
 have hl:0<l.length:=by
  rcases Nat.eq_zero_or_pos l.length with h|h
  ·rw[h] at hj;simp at hj
  ·exact h
 obtain⟨g',cap',cur,he,_,hc,hr,_⟩:=h.rows (by simpa using hl);injection he with he _ _
 injection he with he
 injection he with he _
 subst he;have hd:j/k<l.length:=Nat.div_lt_of_lt_mul (by rw[Nat.mul_comm];exact hj);have hm:j%k<k:=Nat.mod_lt _ k0;have e:0+j/k*k+j%k=0+j:=by rw[Nat.add_assoc];congr 1;rw[Nat.mul_comm];exact Nat.div_add_mod j k
 have h1:=hr (j/k) (enc l[j/k]) (by rw[List.getElem?_map,List.getElem?_eq_getElem hd];rfl) (j%k) hm;rw[e] at h1;refine⟨?_,?_⟩
 ·rw[h1];have h2:=get_flatK enc k l.toArray j (by simpa using hj);have h3:l.toArray[j/k]! =l[j/k]:=by rw[getElem!_pos _ _ (by simpa using hd)];simp
  rw[h3] at h2;show _=some (id ((flatK enc k l.toArray)[j]!));rw[h2,List.getElem?_eq_getElem (by rw[hk];exact hm),getElem!_pos _ _ (by rw[hk];exact hm)];rfl
 ·simp[World.frozen?,hc]
theorem Ca (F c:Array Value) (h:F.size<=c.size):(putCells id 0 F c).toList.take F.size=F.toList:=by
 refine List.ext_getElem? fun t=>?_
 by_cases ht:t<F.size
 ·rw[List.getElem?_take_of_lt ht,Array.getElem?_toList,Array.getElem?_toList];unfold putCells;rw[Array.getElem?_mapIdx,Array.getElem?_eq_getElem (by omega:t<c.size),Array.getElem?_eq_getElem ht];simp[ht]
 ·rw[List.getElem?_eq_none (by simp;omega),List.getElem?_eq_none (by simp;omega)]
theorem j3 (W:World) (g n:Nat) (d:Array α) (os:Array Obj):W.grownBy (sortWorldK enc k W g 0 n d os) (some g):=by
 refine⟨rfl,rfl,rfl,?_,fun j hj hne=>?_⟩
 ·unfold sortWorldK;rw[size_grow,size_putRowK];exact Nat.le_add_right _ _
 ·unfold sortWorldK grow;show((putRowK enc k (Sort.ahead W n) g 0 d).heap ++os)[j]? =_;have hs:j<(putRowK enc k (Sort.ahead W n) g 0 d).heap.size :=by rw[size_putRowK];exact hj
  rw[Array.getElem?_append_left hs];show((Sort.ahead W n).heap.modify g _)[j]? =_;rw[Array.getElem?_modify,if_neg (fun e=>hne (by rw[e]))];rfl
theorem lQ {W:World} {g n t:Nat} {cur:Array Value} {d:Array α} {os:Array Obj} (h:W.heap[g]? =some (.cells cur t)):
 (sortWorldK enc k W g 0 n d os).heap[g]? =some (.cells (putCells id 0 (flatK enc k d) cur) t):=by
 have hg:g<W.heap.size:=(Array.getElem?_eq_some_iff.1 h).1;unfold sortWorldK grow;show((putRowK enc k (Sort.ahead W n) g 0 d).heap ++os)[g]? =_;rw[Array.getElem?_append_left (by rw[size_putRowK];exact hg)];show((Sort.ahead W n).heap.modify g _)[g]? =_;rw[Array.getElem?_modify,if_pos rfl,show(Sort.ahead W n).heap[g]? =some (.cells cur t) from h];rfl
theorem EV (hk:∀x,(enc x).length =k) (h1:∀x,∀v∈enc x,v.oneCell'=true) {W:World} {base t g cap n:Nat} {l:List α} {d:Array α} {os:Array Obj}
 (h:al W base t k (.slice (some ⟨g,0,none⟩) l.length cap) (l.map enc)) (hd:d.size=l.length):al (sortWorldK enc k W g 0 n d os) base t k (.slice (some ⟨g,0,none⟩) l.length cap) (d.toList.map enc):=by
 refine⟨jo hk h1 _,by rw[th hk];simp,?_⟩
 rcases h.2.2 with⟨h2,_⟩ | ⟨g',cap',cur,he,hB,hc,hle,hm,hcs,htk⟩
 ·cases h2
 ·simp only[List.length_map] at he hle htk;injection he with he _ hcap
  injection he with he
  injection he with he _
  subst he hcap;refine Or.inr ⟨g,cap,_,?_,hB,lQ hc,?_,hm,?_,?_⟩
  ·simp[hd]
  ·simp;omega
  ·unfold putCells;simpa using hcs
  ·have hf:(flatK enc k d).size =(d.toList.map enc).length *k:=by simp
   rw[<-hf,Ca _ _ (by rw[size_flatK,hcs,hd];exact Nat.mul_le_mul_right k hle),uI hk]
theorem pW {l:List α} {d:Array α} (h:PermIn 0 l.toArray.size l.toArray d):d.toList.Perm l:=by
 obtain⟨h1,_,h3⟩:=h;have e1:d.extract 0 l.toArray.size=d:=by rw[<-h1];exact Array.extract_size
 have e2:l.toArray.extract 0 l.toArray.size=l.toArray:=Array.extract_size;rw[e1,e2] at h3;simpa using h3
theorem uk {lt:α->α->Bool} {d:Array α} {n:Nat} (hn:d.size=n) (h:SortedIn lt 0 n d):d.toList.Pairwise (fun x y=>lt y x=false):=by
 subst hn;rw[List.pairwise_iff_getElem];intro i j hi hj hij;have:=h i j (Nat.zero_le _) hij (by simpa using hj);rw[getElem!_pos d j (by simpa using hj),getElem!_pos d i (by simpa using hi)] at this;simpa using this
end
theorem oj {P:Program} {ρ :Ren} {α:Type} [Inhabited α] (L:SlLaysF0.n6 P ρ) (k:Nat) (aE:∀w,(isAgg (ρ.t 24)).run P w=.ok true w) (zE:∀w,(Go.sizeOf (ρ.t 24)).run P w=.ok k w) (enc:α->List Value) (hk:∀x,(enc x).length =k)
 (h1:∀x,∀v∈enc x,v.oneCell'=true) (cf:α->α->Int) (hO:SWO (ltOf cf)) (f:Nat) (cb:Array Value) (eg:∀args w,(callFunc f args).run P w=.ok (.enter f args) w)
 (hcmp:∀g size W,CmpLays P f cb enc k cf g 0 size W) (W:World) (base t:Nat) (v:Value) (l:List α) (h:al W base t k v (l.map enc)) (hsz:l.length<4611686018427387904):
 Calls P (ρ.f 6) #[v,.func (.func f) #[] cb] W fun e w'=>e=.returned (.tuple #[])/\∃l':List α,l'.Perm l/\l'.Pairwise (fun x y=>ltOf cf y x=false)/\al w' base t k v (l'.map enc)/\W.grownBy w' v.ownBlock:=by
 by_cases hl:l.length=0
 ·obtain rfl:=List.eq_nil_of_length_eq_zero hl;obtain⟨a,cap,rfl⟩:=h.slice;refine(AnyF.slices_SortFunc_none L a cap _ W).mono ?_;rintro e w' ⟨rfl,rfl⟩;exact⟨rfl,[],List.Perm.refl _,List.Pairwise.nil,h,⟨rfl,rfl,rfl,Nat.le_refl _,fun _ _ _=>rfl⟩⟩
 ·obtain⟨g,cap,cur,rfl,_,hc,_⟩:=h.rows (by simp;omega);rw[List.length_map] at h⊢;have hcon:=AnyQ.slices_SortFunc L k aE zE enc hk h1 cf hO f cb g 0 cap l.toArray W eg (hcmp g _ W) (own_holds hk h) (Array.getElem?_eq_some_iff.1 hc).1 (by simpa using hsz);rw[List.size_toArray] at hcon;refine hcon.mono ?_;rintro e w' ⟨rfl,d',n,os,hp,hs,rfl⟩;have hd:d'.size=l.length:=by have:=hp.1;simpa using this
  refine⟨rfl,d'.toList,pW (by simpa using hp),uk hd hs,EV hk h1 h hd,j3 W g n d' os⟩
open Go.Shelf
def tj:Go.Shelf.Ren:=⟨fun|6=>59|15=>84|14=>83|28=>115|29=>116|20=>107|21=>108|22=>109|23=>110|24=>111|25=>112|26=>113|27=>114|46=>138|47=>139|48=>140|49=>141|50=>142|57=>149|n=>n,fun|22=>35|24=>106|25=>128|3=>3|39=>107|0=>0|53=>181|55=>59|4=>4|46=>174|45=>173|50=>178|5=>5|9=>9|66=>204|70=>208|76=>213|77=>214|n=>n,fun|n=>n⟩
theorem xw:Go.Proofs.SlLaysF0.n6 Tryz.prog tj:={
 mixed:=by kernel_rfl
 f6:=⟨Tryz.f59.name,by decide,Tryz.func59.trans (congrArg some (by kernel_rfl))⟩
 f14:=⟨Tryz.f83.name,by decide,Tryz.func83.trans (congrArg some (by kernel_rfl))⟩
 f15:=Tryz.func84.trans (congrArg some (by kernel_rfl))
 f20:=⟨Tryz.f107.name,by decide,Tryz.func107.trans (congrArg some (by kernel_rfl))⟩
 f21:=⟨Tryz.f108.name,by decide,Tryz.func108.trans (congrArg some (by kernel_rfl))⟩
 f22:=⟨Tryz.f109.name,by decide,Tryz.func109.trans (congrArg some (by kernel_rfl))⟩
 f23:=⟨Tryz.f110.name,by decide,Tryz.func110.trans (congrArg some (by kernel_rfl))⟩
 f24:=⟨Tryz.f111.name,by decide,Tryz.func111.trans (congrArg some (by kernel_rfl))⟩
 f25:=⟨Tryz.f112.name,by decide,Tryz.func112.trans (congrArg some (by kernel_rfl))⟩
 f26:=⟨Tryz.f113.name,by decide,Tryz.func113.trans (congrArg some (by kernel_rfl))⟩
 f27:=⟨Tryz.f114.name,by decide,Tryz.func114.trans (congrArg some (by kernel_rfl))⟩
 f28:=Tryz.func115.trans (congrArg some (by kernel_rfl))
 f29:=Tryz.func116.trans (congrArg some (by kernel_rfl))
 f46:=⟨Tryz.f138.name,by decide,Tryz.func138.trans (congrArg some (by kernel_rfl))⟩
 f47:=Tryz.func139.trans (congrArg some (by kernel_rfl))
 f48:=Tryz.func140.trans (congrArg some (by kernel_rfl))
 f49:=⟨Tryz.f141.name,by decide,Tryz.func141.trans (congrArg some (by kernel_rfl))⟩
 f50:=⟨Tryz.f142.name,by decide,Tryz.func142.trans (congrArg some (by kernel_rfl))⟩
 f57:=⟨Tryz.f149.name,by decide,Tryz.func149.trans (congrArg some (by kernel_rfl))⟩
 t0:=Tryz.underlying0
 a0:=Tryz.isAgg0
 z0:=Tryz.sizeOf0
 v0:=Tryz.zeroValue0
 t3:=Tryz.underlying3
 a3:=Tryz.isAgg3
 z3:=Tryz.sizeOf3
 v3:=Tryz.zeroValue3
 t4:=Tryz.underlying4
 a4:=Tryz.isAgg4
 z4:=Tryz.sizeOf4
 v4:=Tryz.zeroValue4
 t5:=Tryz.underlying5
 a5:=Tryz.isAgg5
 z5:=Tryz.sizeOf5
 v5:=Tryz.zeroValue5
 t9:=Tryz.underlying9
 a9:=Tryz.isAgg9
 z9:=Tryz.sizeOf9
 v9:=Tryz.zeroValue9
 t22:=Tryz.underlying35
 a22:=Tryz.isAgg35
 z22:=Tryz.sizeOf35
 v22:=Tryz.zeroValue35
 t25:=Tryz.underlying128
 a25:=Tryz.isAgg128
 z25:=Tryz.sizeOf128
 v25:=Tryz.zeroValue128
 t39:=Tryz.underlying107
 a39:=Tryz.isAgg107
 z39:=Tryz.sizeOf107
 v39:=Tryz.zeroValue107
 t45:=Tryz.underlying173
 a45:=Tryz.isAgg173
 z45:=Tryz.sizeOf173
 v45:=Tryz.zeroValue173
 t46:=Tryz.underlying174
 a46:=Tryz.isAgg174
 z46:=Tryz.sizeOf174
 v46:=Tryz.zeroValue174
 t50:=Tryz.underlying178
 a50:=Tryz.isAgg178
 z50:=Tryz.sizeOf178
 v50:=Tryz.zeroValue178
 t53:=Tryz.underlying181
 a53:=Tryz.isAgg181
 z53:=Tryz.sizeOf181
 v53:=Tryz.zeroValue181
 t55:=Tryz.underlying59
 a55:=Tryz.isAgg59
 z55:=Tryz.sizeOf59
 v55:=Tryz.zeroValue59
 t66:=Tryz.underlying204
 a66:=Tryz.isAgg204
 z66:=Tryz.sizeOf204
 v66:=Tryz.zeroValue204
 t70:=Tryz.underlying208
 a70:=Tryz.isAgg208
 z70:=Tryz.sizeOf208
 v70:=Tryz.zeroValue208
 t76:=Tryz.underlying213
 a76:=Tryz.isAgg213
 z76:=Tryz.sizeOf213
 v76:=Tryz.zeroValue213
 t77:=Tryz.underlying214
 a77:=Tryz.isAgg214
 z77:=Tryz.sizeOf214
 v77:=Tryz.zeroValue214}
def sh:Go.Shelf.Ren:=⟨fun|6=>66|15=>84|14=>90|28=>115|29=>116|20=>119|21=>120|22=>121|23=>122|24=>123|25=>124|26=>125|27=>126|46=>145|47=>139|48=>140|49=>146|50=>147|57=>151|n=>n,fun|22=>45|24=>101|25=>134|3=>3|39=>107|0=>0|53=>181|55=>59|4=>4|46=>174|45=>173|50=>178|5=>5|9=>9|66=>204|70=>208|76=>213|77=>214|n=>n,fun|n=>n⟩
theorem Ei:Go.Proofs.SlLaysF0.n6 Tryz.prog sh:={
 mixed:=by kernel_rfl
 f6:=⟨Tryz.f66.name,by decide,Tryz.func66.trans (congrArg some (by kernel_rfl))⟩
 f14:=⟨Tryz.f90.name,by decide,Tryz.func90.trans (congrArg some (by kernel_rfl))⟩
 f15:=Tryz.func84.trans (congrArg some (by kernel_rfl))
 f20:=⟨Tryz.f119.name,by decide,Tryz.func119.trans (congrArg some (by kernel_rfl))⟩
 f21:=⟨Tryz.f120.name,by decide,Tryz.func120.trans (congrArg some (by kernel_rfl))⟩
 f22:=⟨Tryz.f121.name,by decide,Tryz.func121.trans (congrArg some (by kernel_rfl))⟩
 f23:=⟨Tryz.f122.name,by decide,Tryz.func122.trans (congrArg some (by kernel_rfl))⟩
 f24:=⟨Tryz.f123.name,by decide,Tryz.func123.trans (congrArg some (by kernel_rfl))⟩
 f25:=⟨Tryz.f124.name,by decide,Tryz.func124.trans (congrArg some (by kernel_rfl))⟩
 f26:=⟨Tryz.f125.name,by decide,Tryz.func125.trans (congrArg some (by kernel_rfl))⟩
 f27:=⟨Tryz.f126.name,by decide,Tryz.func126.trans (congrArg some (by kernel_rfl))⟩
 f28:=Tryz.func115.trans (congrArg some (by kernel_rfl))
 f29:=Tryz.func116.trans (congrArg some (by kernel_rfl))
 f46:=⟨Tryz.f145.name,by decide,Tryz.func145.trans (congrArg some (by kernel_rfl))⟩
 f47:=Tryz.func139.trans (congrArg some (by kernel_rfl))
 f48:=Tryz.func140.trans (congrArg some (by kernel_rfl))
 f49:=⟨Tryz.f146.name,by decide,Tryz.func146.trans (congrArg some (by kernel_rfl))⟩
 f50:=⟨Tryz.f147.name,by decide,Tryz.func147.trans (congrArg some (by kernel_rfl))⟩
 f57:=⟨Tryz.f151.name,by decide,Tryz.func151.trans (congrArg some (by kernel_rfl))⟩
 t0:=Tryz.underlying0
 a0:=Tryz.isAgg0
 z0:=Tryz.sizeOf0
 v0:=Tryz.zeroValue0
 t3:=Tryz.underlying3
 a3:=Tryz.isAgg3
 z3:=Tryz.sizeOf3
 v3:=Tryz.zeroValue3
 t4:=Tryz.underlying4
 a4:=Tryz.isAgg4
 z4:=Tryz.sizeOf4
 v4:=Tryz.zeroValue4
 t5:=Tryz.underlying5
 a5:=Tryz.isAgg5
 z5:=Tryz.sizeOf5
 v5:=Tryz.zeroValue5
 t9:=Tryz.underlying9
 a9:=Tryz.isAgg9
 z9:=Tryz.sizeOf9
 v9:=Tryz.zeroValue9
 t22:=Tryz.underlying45
 a22:=Tryz.isAgg45
 z22:=Tryz.sizeOf45
 v22:=Tryz.zeroValue45
 t25:=Tryz.underlying134
 a25:=Tryz.isAgg134
 z25:=Tryz.sizeOf134
 v25:=Tryz.zeroValue134
 t39:=Tryz.underlying107
 a39:=Tryz.isAgg107
 z39:=Tryz.sizeOf107
 v39:=Tryz.zeroValue107
 t45:=Tryz.underlying173
 a45:=Tryz.isAgg173
 z45:=Tryz.sizeOf173
 v45:=Tryz.zeroValue173
 t46:=Tryz.underlying174
 a46:=Tryz.isAgg174
 z46:=Tryz.sizeOf174
 v46:=Tryz.zeroValue174
 t50:=Tryz.underlying178
 a50:=Tryz.isAgg178
 z50:=Tryz.sizeOf178
 v50:=Tryz.zeroValue178
 t53:=Tryz.underlying181
 a53:=Tryz.isAgg181
 z53:=Tryz.sizeOf181
 v53:=Tryz.zeroValue181
 t55:=Tryz.underlying59
 a55:=Tryz.isAgg59
 z55:=Tryz.sizeOf59
 v55:=Tryz.zeroValue59
 t66:=Tryz.underlying204
 a66:=Tryz.isAgg204
 z66:=Tryz.sizeOf204
 v66:=Tryz.zeroValue204
 t70:=Tryz.underlying208
 a70:=Tryz.isAgg208
 z70:=Tryz.sizeOf208
 v70:=Tryz.zeroValue208
 t76:=Tryz.underlying213
 a76:=Tryz.isAgg213
 z76:=Tryz.sizeOf213
 v76:=Tryz.zeroValue213
 t77:=Tryz.underlying214
 a77:=Tryz.isAgg214
 z77:=Tryz.sizeOf214
 v77:=Tryz.zeroValue214}
open Go.RowKit Go.Sort Go.Lib Go.Shelf Go.Proofs
def Pt.row (p:Pt):List Value:=[.int .i64 p.id,.int .i64 p.x,.int .i64 p.y,.int .i64 p.zl,.int .i64 p.zh,.int .i64 p.wd,.int .i64 p.nm,.int .i64 p.of,.int .i64 p.cl]
theorem Pt.row_one (p:Pt):∀v∈p.row,v.oneCell'=true:=fun v hv=>by
 simp[Pt.row] at hv
 rcases hv with rfl|rfl|rfl|rfl|rfl|rfl|rfl|rfl|rfl<;>rfl
theorem Pt.row_at (p:Pt) (j:Nat) (hj:j<9):p.row[j]? =some (.int .i64 (p.f j)):=by
 match j,hj with
 |0,_|1,_|2,_|3,_|4,_|5,_|6,_|7,_|8,_=>rfl
def Ky.row (k:Ky):List Value:=[.int .i64 k.L,.int .i64 k.x,.int .i64 k.y,.int .i64 k.z]
def ce (W X:World):Prop:=∃q os,X=grow (W.drewN q) os
theorem ce.refl (W:World):ce W W:=⟨0,#[],by rw[grow_empty];rfl⟩
theorem ce.alloc {W X:World} (h:ce W X) (o:Obj):ce W (X.alloc o):=by
 obtain⟨q,os,rfl⟩:=h;exact⟨q,_,by rw[alloc_eq_grow,grow_grow]⟩
theorem ce.drewN {W X:World} (h:ce W X) (n:Nat):ce W (X.drewN n):=by
 obtain⟨q,os,rfl⟩:=h;exact⟨q+n,os,by show grow ((W.drewN q).drewN n) os=_;rw[World.drewN_drewN]⟩
theorem ce.trans {W X Y:World} (h:ce W X) (h2:ce X Y):ce W Y:=by
 obtain⟨q,os,rfl⟩:=h;obtain⟨n,os',rfl⟩:=h2;exact⟨q+n,os++os',by show grow (grow ((W.drewN q).drewN n) os) os'=_;rw[grow_grow,World.drewN_drewN]⟩
def rD (p q:Pt):Int:=if aY p.id<aY q.id then-1 else if aY q.id<aY p.id then 1 else 0
theorem vg (p q:Pt) (W:World):Calls Tryz.prog 64 #[.agg p.row.toArray,.agg q.row.toArray] W fun e w'=>e=.returned (.int .i64 (rD p q))/\ce W w':=by
 have hr:=fun id W=>show Calls Tryz.prog 20 #[.int .i64 id] W fun e w'=>e=.returned (.int .u64 (aY id))/\w'=W from(pQ id W).mono (by rintro r w' ⟨h,rfl⟩;exact⟨h,rfl⟩)
 have HV:=ae (show rD p q=if aY p.id<aY q.id then-1 else if aY q.id<aY p.id then 1 else 0 from rfl);unfold Pt.row;generalize p.id=a at*;generalize q.id=b at*;go_enter Tryz.func64,Tryz.ntmps64;go_wp2_with fail;generalize KS:(W.alloc _).alloc _=Wq;have HG:=ae (show ce W Wq by rw[<-KS];exact((ce.refl W).alloc _).alloc _);have q0:Wq.cell? ⟨W.heap.size,0,none⟩=some (.int .i64 a):=by rw[<-KS,af (am _ _ _ _ (ai _ _ _ rfl))];rfl
 have q1:Wq.cell? ⟨W.heap.size+1,0,none⟩=some (.int .i64 b):=by rw[<-KS,af (ai _ _ _ (by simp))];rfl
 clear KS;by_cases h1:aY a<aY b
 ·have HX:=ae (show rD p q= -1 by rw[HV.out,if_pos h1]);have d1:decide (aY a<aY b)=true:=decide_eq_true h1
  go_quiet (first| (go_at_call 20;exact Calls.quiet_of_same (hr _ _)))
  go_wp2_with fail;go_ret;exact⟨by rw[HX.out];rfl,HG.out.drewN _⟩
 ·have d1:decide (aY a<aY b)=false:=decide_eq_false h1;by_cases h2:aY b<aY a
  ·have HX:=ae (show rD p q=1 by rw[HV.out,if_neg h1,if_pos h2]);have d2:decide (aY b<aY a)=true:=decide_eq_true h2
   go_quiet (first| (go_at_call 20;exact Calls.quiet_of_same (hr _ _)))
   go_wp2_with fail;go_ret;exact⟨by rw[HX.out];rfl,HG.out.drewN _⟩
  ·have HX:=ae (show rD p q=0 by rw[HV.out,if_neg h1,if_neg h2]);have d2:decide (aY b<aY a)=false:=decide_eq_false h2
   go_quiet (first| (go_at_call 20;exact Calls.quiet_of_same (hr _ _)))
   go_wp2_with fail;go_ret;exact⟨by rw[HX.out];rfl,HG.out.drewN _⟩
def tM (p q:Pt):Int:=wrap64 (p.id-q.id)
theorem BF (p q:Pt) (W:World):Calls Tryz.prog 60 #[.agg p.row.toArray,.agg q.row.toArray] W fun e w'=>e=.returned (.int .i64 (tM p q))/\ce W w':=by
 have HV:=ae (show tM p q=wrap64 (p.id-q.id) from rfl);unfold Pt.row;generalize p.id=a at*;generalize q.id=b at*;go_enter Tryz.func60,Tryz.ntmps60;go_wp2_with fail;go_ret;exact⟨by rw[HV.out];rfl,(by repeat' (first|exact ce.refl _|refine ce.alloc ?_ _|refine ce.drewN ?_ _))⟩
def ik (a b:Ky):Int:=if a.L=b.L then(if a.x=b.x then(if a.y=b.y then(if a.z=b.z then 0 else a.z-b.z) else a.y-b.y) else a.x-b.x) else a.L-b.L
def Ky.small (k:Ky):Prop:=(0<=k.L/\k.L<=12)/\(0<=k.x/\k.x<4096)/\(0<=k.y/\k.y<4096)/\(0<=k.z/\k.z<4096)
theorem ug (a b c d e f g h:Int) (w:World):(Instr.index 162 (.agg #[.int .i64 a,.int .i64 b,.int .i64 c,.int .i64 d,.int .i64 e,.int .i64 f,.int .i64 g,.int .i64 h]) (.int .i64 0)).run Tryz.prog w=.ok (.agg #[.int .i64 a,.int .i64 b]) w:=by kernel_rfl
theorem tp (a b c d e f g h:Int) (w:World):(Instr.index 162 (.agg #[.int .i64 a,.int .i64 b,.int .i64 c,.int .i64 d,.int .i64 e,.int .i64 f,.int .i64 g,.int .i64 h]) (.int .i64 1)).run Tryz.prog w=.ok (.agg #[.int .i64 c,.int .i64 d]) w:=by kernel_rfl
theorem sU (a b c d e f g h:Int) (w:World):(Instr.index 162 (.agg #[.int .i64 a,.int .i64 b,.int .i64 c,.int .i64 d,.int .i64 e,.int .i64 f,.int .i64 g,.int .i64 h]) (.int .i64 2)).run Tryz.prog w=.ok (.agg #[.int .i64 e,.int .i64 f]) w:=by kernel_rfl
theorem sI (a b c d e f g h:Int) (w:World):(Instr.index 162 (.agg #[.int .i64 a,.int .i64 b,.int .i64 c,.int .i64 d,.int .i64 e,.int .i64 f,.int .i64 g,.int .i64 h]) (.int .i64 3)).run Tryz.prog w=.ok (.agg #[.int .i64 g,.int .i64 h]) w:=by kernel_rfl
theorem xV (a b:Ky) (ha:a.small) (hb:b.small) (W:World):Calls Tryz.prog 68 #[.agg a.row.toArray,.agg b.row.toArray] W fun e w'=>e=.returned (.int .i64 (ik a b))/\ce W w':=by
 obtain⟨aL,ax,ay,az⟩:=a;obtain⟨bL,bx,b_y,bz⟩:=b;have HV:=ae (show ik ⟨aL,ax,ay,az⟩ ⟨bL,bx,b_y,bz⟩=if aL=bL then(if ax=bx then(if ay=b_y then(if az=bz then 0 else az-bz) else ay-b_y) else ax-bx) else aL-bL from rfl);simp only[Ky.small] at ha hb;simp only[Ky.row];have hi0:=ug;have hi1:=tp;have hi2:=sU;have PB:=sI;go_enter Tryz.func68,Tryz.ntmps68;go_wp2_with fail;refine wp_loop_rounds 5 ?_;rw[rounds_succ];by_cases h1:aL=bL
 ·subst h1;go_wp2_with fail;rw[rounds_succ];by_cases h2:ax=bx
  ·subst h2;go_wp2_with fail;rw[rounds_succ];by_cases h3:ay=b_y
   ·subst h3;go_wp2_with fail;rw[rounds_succ];by_cases h4:az=bz
    ·subst h4;have HX:=ae (show ik ⟨aL,ax,ay,az⟩ ⟨aL,ax,ay,az⟩=0 by rw[HV.out];simp);go_wp2_with fail;rw[rounds_succ];go_wp2_with fail;go_ret;exact⟨by rw[HX.out];rfl,(by repeat' (first|exact ce.refl _|refine ce.alloc ?_ _|refine ce.drewN ?_ _))⟩
    ·have HX:=ae (show ik ⟨aL,ax,ay,az⟩ ⟨aL,ax,ay,bz⟩=az-bz by rw[HV.out];simp[h4]);have d1:(az == bz)=false:=by simp[h4]
     go_wp2_with fail;go_ret;exact⟨by rw[HX.out];rfl,(by repeat' (first|exact ce.refl _|refine ce.alloc ?_ _|refine ce.drewN ?_ _))⟩
   ·have HX:=ae (show ik ⟨aL,ax,ay,az⟩ ⟨aL,ax,b_y,bz⟩=ay-b_y by rw[HV.out];simp[h3]);have d1:(ay == b_y)=false:=by simp[h3]
    go_wp2_with fail;go_ret;exact⟨by rw[HX.out];rfl,(by repeat' (first|exact ce.refl _|refine ce.alloc ?_ _|refine ce.drewN ?_ _))⟩
  ·have HX:=ae (show ik ⟨aL,ax,ay,az⟩ ⟨aL,bx,b_y,bz⟩=ax-bx by rw[HV.out];simp[h2]);have d1:(ax == bx)=false:=by simp[h2]
   go_wp2_with fail;go_ret;exact⟨by rw[HX.out];rfl,(by repeat' (first|exact ce.refl _|refine ce.alloc ?_ _|refine ce.drewN ?_ _))⟩
 ·have HX:=ae (show ik ⟨aL,ax,ay,az⟩ ⟨bL,bx,b_y,bz⟩=aL-bL by rw[HV.out,if_neg h1]);have d1:(aL == bL)=false:=by simp[h1]
  go_wp2_with fail;go_ret;exact⟨by rw[HX.out];rfl,(by repeat' (first|exact ce.refl _|refine ce.alloc ?_ _|refine ce.drewN ?_ _))⟩
structure Te where
 key:Ky
 v:Value
 pts:List Pt
instance:Inhabited Te:=⟨⟨default,.slice none 0 0,[]⟩⟩
def Te.row (e:Te):List Value:=e.key.row++[e.v]
def Te.tl (e:Te):Tl:=⟨e.key,e.pts⟩
def Te.ok (e:Te):Prop:=e.key.small/\e.v.oneCell'=true
theorem yd (a b:Te) (ha:a.ok) (hb:b.ok) (W:World):Calls Tryz.prog 67 #[.agg a.row.toArray,.agg b.row.toArray] W fun e w'=>e=.returned (.int .i64 (ik a.key b.key))/\ce W w':=by
 obtain⟨⟨aL,ax,ay,az⟩,av,ap⟩:=a;obtain⟨⟨bL,bx,b_y,bz⟩,bv,bp⟩:=b;have hO:=fun W=>xV ⟨aL,ax,ay,az⟩ ⟨bL,bx,b_y,bz⟩ ha.1 hb.1 W
 have h1:=ha.2;have h2:=hb.2;simp only[Ky.row,Te.row,List.cons_append,List.nil_append] at hO h1 h2⊢;generalize ik ⟨aL,ax,ay,az⟩ ⟨bL,bx,b_y,bz⟩=r at*;clear ha hb;go_enter Tryz.func67,Tryz.ntmps67;go_wp2_with fail;refine(hO _).mono ?_;rintro e w1 ⟨rfl,hg⟩;have HG:=ae (((ce.refl W).alloc _).alloc _ |>.trans hg);clear hg hO;go_wp2_with fail;go_ret;exact⟨rfl,HG.out⟩
theorem nh (p q:Pt):ltOf rD p q=decide (aY p.id<aY q.id):=by
 unfold ltOf rD;by_cases h1:aY p.id<aY q.id
 ·simp[h1]
 ·by_cases h2:aY q.id<aY p.id<;>simp[h1,h2]
theorem Bh:SWO (ltOf rD) where
 irrefl x:=by rw[nh];simp
 trans x y z h1 h2:=by rw[nh] at*;simp at*;omega
 ntrans x y z h1 h2:=by rw[nh] at*;simp at*;omega
theorem rj (a b:Ky):ik a b<0↔a.lt b:=by
 unfold ik Ky.lt;by_cases h1:a.L=b.L
 ·rw[if_pos h1];by_cases h2:a.x=b.x
  ·rw[if_pos h2];by_cases h3:a.y=b.y
   ·rw[if_pos h3];by_cases h4:a.z=b.z
    ·rw[if_pos h4];omega
    ·rw[if_neg h4];omega
   ·rw[if_neg h3];omega
  ·rw[if_neg h2];omega
 ·rw[if_neg h1];omega
theorem Ky.not_lt_trans {a b c:Ky} (h:¬a.lt b) (h2:¬b.lt c):¬a.lt c:=by unfold Ky.lt at*;omega
def Fy:Type:={p:Pt//0<=p.id/\p.id<=1152921504606846976}
def Fx:Type:={e:Te//e.ok}
instance:Inhabited Fy:=⟨⟨default,by decide⟩⟩
instance:Inhabited Fx:=⟨⟨default,⟨by unfold Ky.small;decide,rfl⟩⟩⟩
theorem m9 (p q:Fy):ltOf (fun x y:Fy=>tM x.1 y.1) p q=decide (p.1.id<q.1.id):=by
 obtain⟨p,hp⟩:=p;obtain⟨q,hq⟩:=q;have e:tM p q=p.id-q.id:=by unfold tM wrap64;omega
 show decide (tM p q<0)=decide (p.id<q.id);rw[e];simp;omega
theorem BE:SWO (ltOf (fun x y:Fy=>tM x.1 y.1)) where
 irrefl x:=by rw[m9];simp
 trans x y z h1 h2:=by rw[m9] at*;simp at*;omega
 ntrans x y z h1 h2:=by rw[m9] at*;simp at*;omega
theorem ng (a b:Fx):ltOf (fun x y:Fx=>ik x.1.key y.1.key) a b=true↔a.1.key.lt b.1.key:=by
 unfold ltOf;simp[rj]
theorem A7:SWO (ltOf (fun x y:Fx=>ik x.1.key y.1.key)) where
 irrefl x:=by
  rw[Bool.eq_false_iff,Ne,ng];exact Ky.lt_irrefl _
 trans x y z h1 h2:=by rw[ng] at*;exact Ky.lt_trans h1 h2
 ntrans x y z h1 h2:=by
  rw[Bool.eq_false_iff,Ne,ng] at*;exact Ky.not_lt_trans h1 h2
theorem nS {α:Type} {p:α->Prop} :∀(l:List α) (h:∀a∈l,p a),(l.pmap (fun a ha=>(⟨a,ha⟩: {a:α//p a})) h).map (·.1)=l
 | [],_=>rfl
 |a::l,h=>by
  rw[List.pmap_cons,List.map_cons,nS l]
theorem rr (v:Value) (l:List Pt) (base:Nat) (W:World) (h:al W base 106 9 v (l.map Pt.row)) (hn:l.length<4611686018427387904):
 Calls Tryz.prog 59 #[v,.func (.func 64) #[] #[]] W fun e w'=>e=.returned (.tuple #[])/\∃l':List Pt,l'.Perm l/\l'.Pairwise (fun p q=>¬aY q.id<aY p.id)/\al w' base 106 9 v (l'.map Pt.row)/\W.grownBy w' v.ownBlock:=by
 have hc:=oj xw 9 Tryz.isAgg106 Tryz.sizeOf106 Pt.row (fun _=>rfl) Pt.row_one rD Bh 64 #[] (enters_of Tryz.func64 (by kernel_rfl) rfl) (fun _ _ _ _ _ _ _ x y=>vg x y _) W base 106 v l h hn;refine Calls.mono (show Calls Tryz.prog 59 _ _ _ from hc) ?_;rintro e w' ⟨rfl,l',h1,h2,h3,h4⟩;refine⟨rfl,l',h1,h2.imp ?_,h3,h4⟩;intro a b hab;rw[nh] at hab;simpa using hab
theorem jS (v:Value) (l:List Pt) (base:Nat) (W:World) (h:al W base 106 9 v (l.map Pt.row)) (hn:l.length<4611686018427387904) (ae:∀p∈l,0<=p.id/\p.id<=1152921504606846976):
 Calls Tryz.prog 59 #[v,.func (.func 60) #[] #[]] W fun e w'=>e=.returned (.tuple #[])/\∃l':List Pt,l'.Perm l/\l'.Pairwise (fun p q=>¬q.id<p.id)/\al w' base 106 9 v (l'.map Pt.row)/\W.grownBy w' v.ownBlock:=by
 obtain⟨lg,hlg⟩:∃lg:List Fy,lg.map (·.1)=l:=⟨_,nS l ae⟩;subst hlg;rw[List.length_map] at hn;have h':al W base 106 9 v (lg.map (fun p:Fy=>p.1.row)):=by rw[List.map_map] at h;exact h
 have hc:=oj xw 9 Tryz.isAgg106 Tryz.sizeOf106 (fun p:Fy=>p.1.row) (fun _=>rfl) (fun p=>Pt.row_one p.1) (fun x y:Fy=>tM x.1 y.1) BE 60 #[] (enters_of Tryz.func60 (by kernel_rfl) rfl) (fun _ _ _ _ _ _ _ x y=>BF x.1 y.1 _) W base 106 v lg h' hn;refine Calls.mono (show Calls Tryz.prog 59 _ _ _ from hc) ?_;rintro e w' ⟨rfl,l',h1,h2,h3,h4⟩;refine⟨rfl,l'.map (·.1),h1.map _,?_,by rw[List.map_map];exact h3,h4⟩;rw[List.pairwise_map];refine h2.imp ?_;intro a b hab;rw[m9] at hab;simpa using hab
theorem Te.row_one (e:Te) (h:e.ok):∀v∈e.row,v.oneCell'=true:=fun v hv=>by
 simp[Te.row,Ky.row] at hv
 rcases hv with rfl|rfl|rfl|rfl|rfl
 iterate 4 (·rfl)
 ·exact h.2
theorem ms (v:Value) (l:List Te) (base:Nat) (W:World) (h:al W base 101 5 v (l.map Te.row)) (hn:l.length<4611686018427387904) (hok:∀e∈l,e.ok):
 Calls Tryz.prog 66 #[v,.func (.func 67) #[] #[]] W fun e w'=>e=.returned (.tuple #[])/\∃l':List Te,l'.Perm l/\l'.Pairwise (fun a b=>¬b.key.lt a.key)/\al w' base 101 5 v (l'.map Te.row)/\W.grownBy w' v.ownBlock:=by
 obtain⟨lg,hlg⟩:∃lg:List Fx,lg.map (·.1)=l:=⟨_,nS l hok⟩;subst hlg;rw[List.length_map] at hn;have h':al W base 101 5 v (lg.map (fun p:Fx=>p.1.row)):=by rw[List.map_map] at h;exact h
 have hc:=oj Ei 5 Tryz.isAgg101 Tryz.sizeOf101 (fun p:Fx=>p.1.row) (fun _=>rfl) (fun p=>Te.row_one p.1 p.2) (fun x y:Fx=>ik x.1.key y.1.key) A7 67 #[] (enters_of Tryz.func67 (by kernel_rfl) rfl) (fun _ _ _ _ _ _ _ x y=>yd x.1 y.1 x.2 y.2 _) W base 101 v lg h' hn;refine Calls.mono (show Calls Tryz.prog 66 _ _ _ from hc) ?_;rintro e w' ⟨rfl,l',h1,h2,h3,h4⟩;refine⟨rfl,l'.map (·.1),h1.map _,?_,by rw[List.map_map];exact h3,h4⟩;rw[List.pairwise_map];refine h2.imp ?_;intro a b hab;rw[Bool.eq_false_iff,Ne,ng] at hab;exact hab
open Go.RowKit Go.Maps
theorem et:Keyed Tryz.prog 99:=Keyed.of_law (deep_law_laid (by kernel_rfl) (m:=2) (by omega) (of_decide_eq_true (by kernel_rfl)) (by kernel_rfl) (by kernel_rfl))
theorem oF (w:World):(zeroValue 35).run Tryz.prog w=.ok (.slice none 0 0) w:=by kernel_rfl
theorem wS (W:World):(Instr.makeMap 130 none).run Tryz.prog W=.ok (.map (some W.heap.size)) (W.alloc (.map #[] 0)):=by
 simp[Instr.makeMap,newObj];rfl
theorem zA (b off c:Nat) (F:Nat->Nat->Int) (w:World) (hbw:b<w.heap.size) (hr:gF w b off 1 F):
 Calls Tryz.prog 57 #[.slice (some ⟨b,off,none⟩) 1 c] w fun r w'=>(∃g cap,r=.returned (.slice (some ⟨g,0,none⟩) 1 cap)/\w.heap.size<=g/\g<w'.heap.size/\gF w' g 0 1 F)/\Below w.heap.size w w':=by
 refine(pR b off 1 c F w (by omega) hbw hr).mono ?_;rintro r w1 ⟨⟨v,rfl,hv⟩,hb⟩;have hl:gR (gO F 1)=[jQ (F 0)]:=rfl;rw[hl] at hv;obtain⟨g,cap,cur,rfl,hgb,hg,hrows,hcap,hcm,hcs⟩:=hv.rows (by simp);refine⟨⟨g,cap,rfl,hgb,(Array.getElem?_eq_some_iff.1 hg).1,fun i hi j hj=>?_⟩,hb⟩;obtain rfl:i=0:=by omega
 rw[hrows 0 _ rfl j hj,tF _ _ hj]
theorem wO {W:World} {base t sz:Nat} {v:Value} {r:List Value} (h:al W base t sz v [r]):∃g cap,v=.slice (some ⟨g,0,none⟩) 1 cap/\base<=g/\g<W.heap.size/\aB W g 0 sz [r]:=by
 obtain⟨g,cap,cur,rfl,hgb,hg,hrows,hcap,hcm,hcs⟩:=h.rows (by simp);exact⟨g,cap,rfl,hgb,(Array.getElem?_eq_some_iff.1 hg).1,hrows⟩
theorem aB.one {W:World} {g sz:Nat} {C:Array Value} {t:TypeId} {fr:Nat×Nat} (h:W.heap[g]? =some (.cells C t fr)):aB W g 0 sz [C.toList]:=fun i r hi j hj=>by
 cases i with
 |zero=>
  simp at hi;subst hi;rw[af h];simp only[Nat.zero_mul,Nat.zero_add];exact Array.getElem?_toList.symm
 |succ i=>simp at hi
theorem tC (p0 p1 p2 p3 p4 p5 p6 p7 p8:Int):bF 9 [[Value.int .i64 p0,.int .i64 p1,.int .i64 p2,.int .i64 p3,.int .i64 p4,.int .i64 p5,.int .i64 p6,.int .i64 p7,.int .i64 p8]]:=by
 refine bF.one rfl (fun u hu=>?_);simp at hu
 rcases hu with rfl|rfl|rfl|rfl|rfl|rfl|rfl|rfl|rfl<;>rfl
theorem rZ {kl x:Lit} {u v y:Value} (h:dS (dS (fun _=>none) kl u) kl v x=some y):x=kl/\y=v:=by
 by_cases hx:x=kl
 ·subst hx;unfold dS at h;by_cases hs:x.sameKey x=true
  ·simp[hs] at h;exact⟨rfl,h.symm⟩
  ·simp[hs] at h
 ·rw[ew hx,ew hx] at h;simp at h
theorem cM {n:Nat} {W:World} (h:n<=W.heap.size) (o:Obj):n<=(W.alloc o).heap.size :=by
 simp;omega
theorem aB.kept {W W':World} {b off sz:Nat} {l:List (List Value)} {row:Option Nat} (h:aB W b off sz l) (hg:W.grownBy W' row) (hne:some b≠row) (hb:b<W.heap.size):aB W' b off sz l:=fun i r hi j hj=>by
 rw[World.cell?_of_block (w:=W) (hg.block b hb hne)];exact h i r hi j hj
theorem uD:(Tryz.prog.info? 101).map (fun i=>(i.zero,i.size,i.bytes))=some (some (.agg #[.int .i64 0,.int .i64 0,.int .i64 0,.int .i64 0,.slice none 0 0]),5,56):=by kernel_rfl
theorem CL (a b c d:Int) (ad:Option Addr) (n m:Nat):bF 5 [[Value.int .i64 a,.int .i64 b,.int .i64 c,.int .i64 d,.slice ad n m]]:=by
 refine bF.one rfl (fun u hu=>?_);simp at hu
 rcases hu with rfl|rfl|rfl|rfl|rfl<;>rfl
theorem GF (n:Int) (h: -268435456<=n/\n<=268435456):bN n 0=0:=by
 have e:bN n 0=min ((n+268435456)/536870912) 0:=rfl;rw[e];omega
theorem yZ (id x y zl zh wd nm of cl:Int) (hx: -268435456<=x/\x<=268435456) (hy: -268435456<=y/\y<=268435456) (hz: -268435456<=zl/\zl<=268435456) (w:World):
 Calls Tryz.prog 65 #[.agg #[.int .i64 id,.int .i64 x,.int .i64 y,.int .i64 zl,.int .i64 zh,.int .i64 wd,.int .i64 nm,.int .i64 of,.int .i64 cl],.int .i64 0] w fun e w'=>e=.returned (.agg #[.int .i64 0,.int .i64 0,.int .i64 0,.int .i64 0])/\Below w.heap.size w w':=by
 have h:=qm id x y zl zh wd nm of cl 0 (by omega) hx hy hz w;unfold fx at h;rw[GF x hx,GF y hy,GF zl hz] at h;exact h
set_option maxHeartbeats 1600000 in
theorem BY (b off cc:Nat) (F:Nat->Nat->Int) (w:World) (hbw:b<w.heap.size) (hr:gF w b off 1 F) (hx: -268435456<=F 0 1/\F 0 1<=268435456) (hy: -268435456<=F 0 2/\F 0 2<=268435456) (hz: -268435456<=F 0 3/\F 0 3<=268435456):
 Calls Tryz.prog 37 #[.slice (some ⟨b,off,none⟩) 1 cc,.int .i64 1] w fun r w'=>(∃g cap g7 cap7,r=.returned (.slice (some ⟨g,0,none⟩) 1 cap)/\aB w' g 0 5 [[.int .i64 0,.int .i64 0,.int .i64 0,.int .i64 0,.slice (some ⟨g7,0,none⟩) 1 cap7]]/\aB w' g7 0 9 [jQ (F 0)]/\w.heap.size<=g/\w.heap.size<=g7)/\Below w.heap.size w w':=by
 have HC:=ae hr;clear hr;go_enter Tryz.func37,Tryz.ntmps37;go_wp2_with fail;refine(zA b off cc F w hbw HC.out).mono ?_;rintro r w1 ⟨⟨g,cap,rfl,hgb,hg1,hrec⟩,hb1⟩;have hs1:=hb1.size;have HB1:=ae hb1;have HR:=ae hrec;clear hb1 hrec;go_wp2_with fail;refine(mn _ _ _ _).mono ?_;rintro r w2 ⟨rfl,hb2⟩;have HB2:=ae (HB1.out.trans (hb2.mono hs1));have HR2:=ae (HR.out.still hb2 hg1);have hs2:=hb2.size;have hmk:=wS;clear hb2 HB1 HR;go_wp2_with fail;refine wp_loop_rounds 2 ?_;rw[rounds_succ];go_wp2_with fail;refine wp_loop_rounds 2 ?_;rw[rounds_succ];refine au (fun W3 hW3=>?_);have hbb:Below w2.heap.size w2 W3:=by rw[hW3];(repeat' (first| (with_reducible first|exact Below.refl _ _|assumption|refine Below.alloc ?_ ?_ _|refine Below.drew ?_ |refine below_drewN ?_ _|refine Below.setCell ?_ ?_ _|refine below_setRow ?_ ?_ _) |go_size))
 have JJ:=ae (show bI Tryz.prog W3 99 w2.heap.size 0 (fun _=>none) by rw[hW3];exact bI.made w2);have HR3:=ae (HR2.out.still hbb (by omega));have HB3:=ae (HB2.out.trans (hbb.mono (by omega)));have hs3:W3.heap.size=w2.heap.size+1:=by rw[hW3];simp
 clear hW3 hbb HB2 HR2;have hcs:=HR3.out 0 (by omega);have c0:=hcs 0 (by decide);have c1:=hcs 1 (by decide);have c2:=hcs 2 (by decide);have c3:=hcs 3 (by decide);have c4:=hcs 4 (by decide);have c5:=hcs 5 (by decide);have c6:=hcs 6 (by decide);have c7:=hcs 7 (by decide);have c8:=hcs 8 (by decide);simp only[Nat.zero_mul,Nat.zero_add,Nat.add_zero] at c0 c1 c2 c3 c4 c5 c6 c7 c8;clear hcs;have Iv:=ae (show jQ (F 0)=[.int .i64 (F 0 0),.int .i64 (F 0 1),.int .i64 (F 0 2),.int .i64 (F 0 3),.int .i64 (F 0 4),.int .i64 (F 0 5),.int .i64 (F 0 6),.int .i64 (F 0 7),.int .i64 (F 0 8)] from rfl);generalize F 0 0=p0 at*;generalize F 0 1=p1 at*;generalize F 0 2=p2 at*;generalize F 0 3=p3 at*;generalize F 0 4=p4 at*;generalize F 0 5=p5 at*;generalize F 0 6=p6 at*;generalize F 0 7=p7 at*;generalize F 0 8=p8 at*;go_wp2_with fail;refine(yZ _ _ _ _ _ _ _ _ _ hx hy hz _).mono ?_;rintro r W4 ⟨rfl,hb4⟩;have Ix:W4.heap[w2.heap.size+1]? =some (.cells #[.int .i64 p0,.int .i64 p1,.int .i64 p2,.int .i64 p3,.int .i64 p4,.int .i64 p5,.int .i64 p6,.int .i64 p7,.int .i64 p8] 106):=aj hb4 (ai _ _ _ hs3.symm);have hbb:Below W3.heap.size W3 W4:=((Below.refl _ _).alloc (Nat.le_refl _) _).trans (hb4.mono (by simp));have px:=ae Ix;have KI:=ae (JJ.out.grow hbb);have bm:=ae (HB3.out.trans (hbb.mono (by omega)));have hs4:=hb4.size;simp at hs4;clear hb4 hbb Ix c0 c1 c2 c3 c4 c5 c6 c7 c8;obtain⟨kl,hkl⟩:∃kl,keyOf Tryz.prog 99 (.agg #[.int .i64 0,.int .i64 0,.int .i64 0,.int .i64 0])=some kl:=Option.isSome_iff_exists.1 (by kernel_rfl);have fF:=ae hkl;have hlook:(Instr.lookup 130 (.map (some w2.heap.size)) (.agg #[.int .i64 0,.int .i64 0,.int .i64 0,.int .i64 0]) false).run Tryz.prog (W4.alloc (.cells #[.int .i64 0,.int .i64 0,.int .i64 0,.int .i64 0] 99))=.ok (.slice none 0 0) (W4.alloc (.cells #[.int .i64 0,.int .i64 0,.int .i64 0,.int .i64 0] 99)):=(KI.out.grow ((Below.refl _ _).alloc (Nat.le_refl _) _)).look et Tryz.underlying130 (oF _) hkl;have q0:(W4.alloc (.cells #[.int .i64 0,.int .i64 0,.int .i64 0,.int .i64 0] 99)).cell? ⟨w2.heap.size+1,0,none⟩=some (.int .i64 p0):=(af (j:=0) (am _ _ _ _ px.out)).trans rfl;have q1:(W4.alloc (.cells #[.int .i64 0,.int .i64 0,.int .i64 0,.int .i64 0] 99)).cell? ⟨w2.heap.size+1,1,none⟩=some (.int .i64 p1):=(af (j:=1) (am _ _ _ _ px.out)).trans rfl;have q2:(W4.alloc (.cells #[.int .i64 0,.int .i64 0,.int .i64 0,.int .i64 0] 99)).cell? ⟨w2.heap.size+1,2,none⟩=some (.int .i64 p2):=(af (j:=2) (am _ _ _ _ px.out)).trans rfl;have q3:(W4.alloc (.cells #[.int .i64 0,.int .i64 0,.int .i64 0,.int .i64 0] 99)).cell? ⟨w2.heap.size+1,3,none⟩=some (.int .i64 p3):=(af (j:=3) (am _ _ _ _ px.out)).trans rfl;have q4:(W4.alloc (.cells #[.int .i64 0,.int .i64 0,.int .i64 0,.int .i64 0] 99)).cell? ⟨w2.heap.size+1,4,none⟩=some (.int .i64 p4):=(af (j:=4) (am _ _ _ _ px.out)).trans rfl;have q5:(W4.alloc (.cells #[.int .i64 0,.int .i64 0,.int .i64 0,.int .i64 0] 99)).cell? ⟨w2.heap.size+1,5,none⟩=some (.int .i64 p5):=(af (j:=5) (am _ _ _ _ px.out)).trans rfl;have q6:(W4.alloc (.cells #[.int .i64 0,.int .i64 0,.int .i64 0,.int .i64 0] 99)).cell? ⟨w2.heap.size+1,6,none⟩=some (.int .i64 p6):=(af (j:=6) (am _ _ _ _ px.out)).trans rfl;have q7:(W4.alloc (.cells #[.int .i64 0,.int .i64 0,.int .i64 0,.int .i64 0] 99)).cell? ⟨w2.heap.size+1,7,none⟩=some (.int .i64 p7):=(af (j:=7) (am _ _ _ _ px.out)).trans rfl;have q8:(W4.alloc (.cells #[.int .i64 0,.int .i64 0,.int .i64 0,.int .i64 0] 99)).cell? ⟨w2.heap.size+1,8,none⟩=some (.int .i64 p8):=(af (j:=8) (am _ _ _ _ px.out)).trans rfl;clear hkl;obtain⟨i0,hi,hz0,hz1,hz2⟩:=aF ix;have HI:=ae hi;have HZ0:=ae hz0;have HZ1:=ae hz1;have HZ2:=ae hz2;clear hi hz0 hz1 hz2;have hzw:=bm.out.size;have uM:=ae hzw;have F8:=ae (show w2.heap.size+1<W4.heap.size by omega)
 go_wp2_with (first
  | (refine iO rfl (.tmp 48) (.tmp 49) 130 rfl et Tryz.underlying130 rfl (KI.out.grow (((Below.refl _ _).alloc (Nat.le_refl _) _).alloc (by simp) _)) (by unfold maxLen;omega) (oF _) (.agg #[.int .i64 0,.int .i64 0,.int .i64 0,.int .i64 0]) kl rfl fF.out ?_
     intro W6 s zT da Ga;have HRW:=ae (aB.one (sz:=9) ((da.block (W4.heap.size+1) (by simp) (by intro h;injection h with h;have:=F8.out;omega)).trans (ai _ _ _ (by simp))));have Hk:=ae (show w.heap.size<=W6.heap.size by have h1:=da.size;have h2:=uM.out;simp at h1;omega);have Fa:=ae zT;have J3:=ae Ga;have yN:=ae da;have Qa:=ae (show w2.heap.size<W6.heap.size by have h1:=da.size;have h2:=F8.out;simp at h1;omega)
     clear zT Ga da)
  | (at_builtin
     refine ar rfl (.tmp 50) (.tmp 52) 35 rfl w.heap.size 106 i0 _ 9 72 Tryz.underlying35 HI.out HZ0.out HZ1.out HZ2.out rfl (by decide) (.slice none 0 0) [] [[.int .i64 p0,.int .i64 p1,.int .i64 p2,.int .i64 p3,.int .i64 p4,.int .i64 p5,.int .i64 p6,.int .i64 p7,.int .i64 p8]] rfl (al.nil _ _ _ _) (W4.heap.size+1) 0 1 1 rfl rfl HRW.out (tC _ _ _ _ _ _ _ _ _) (by show 0+1<=maxLen;unfold maxLen;omega) (by show(0+1)*72<=140737488355328;omega) Hk.out ?_;intro v7 W7 i4 jV mF;obtain⟨g7,cap7,rfl,gS,Nk,Ot⟩:=wO i4;have Dr:=ae (Fa.out.kept jV (by simp[Value.ownBlock]));have mm:=ae (J3.out.kept jV (by simp[Value.ownBlock]));have Qv:=ae Ot;have Io:=ae jV;have PC:=ae (show g7=W6.heap.size by rcases mF with h|h;(·simp[Value.ownBlock] at h);(·injection h));have cU:=ae gS;have Rg:=ae Nk
     clear i4 jV mF Ot gS Nk)
  | (refine eL rfl (.tmp 48) (.tmp 55) (.tmp 54) 130 rfl et Tryz.underlying130 rfl Dr.out (by unfold maxLen;omega) s rfl (.slice (some ⟨g7,0,none⟩) 1 cap7) rfl (.agg #[.int .i64 0,.int .i64 0,.int .i64 0,.int .i64 0]) kl fF.out mm.out ?_
     intro W8 xt rK;have Ic:=ae xt;have FP:=ae rK
     clear xt rK))
 rw[rounds_succ];have yR:=ae (et.key fF.out)
 go_wp2_with (refine gK rfl (.tmp 61) 130 rfl et Tryz.underlying130 rfl Ic.out ?_
              intro W9 cnt FT kF Bc;have Db:=ae FT;have qM:=ae kF;have Pb:=ae Bc
              clear FT kF Bc)
 refine wp_loop_rounds 2 ?_;rw[rounds_succ]
 go_wp2_with (refine fE rfl (.tmp 62) rfl et rfl Db.out (fun _ h=>h) (fun hd=>absurd (hd kl) (by rw[eF yR.out];simp)) ?_
              intro key vv KF W10 cnt2 hk2 hl2 hg2 rf hlt k8 mw hen;obtain⟨e1,e2⟩:=rZ hg2;subst e1 e2;obtain rfl:=et.inj hk2 fF.out;have BB:=ae rf;have mc:=ae k8;have KD:=ae mw
              clear rf k8 mw hk2 hl2 hg2 hlt)
 refine(mn _ _ _ _).mono ?_;rintro r W11 ⟨rfl,lE⟩;have ox:W11.heap[W10.heap.size]? =some (.cells #[.int .i64 0,.int .i64 0,.int .i64 0,.int .i64 0] 99):=aj lE (ai _ _ _ rfl);have k0:W11.cell? ⟨W10.heap.size,0,none⟩=some (.int .i64 0):=(af (j:=0) ox).trans rfl;have k1:W11.cell? ⟨W10.heap.size,1,none⟩=some (.int .i64 0):=(af (j:=1) ox).trans rfl;have k2:W11.cell? ⟨W10.heap.size,2,none⟩=some (.int .i64 0):=(af (j:=2) ox).trans rfl;have k3:W11.cell? ⟨W10.heap.size,3,none⟩=some (.int .i64 0):=(af (j:=3) ox).trans rfl;have Gf:=ae (BB.out.grow (((Below.refl _ _).alloc (Nat.le_refl _) _).trans (lE.mono (by simp))))
 have Ma:=ae (show w.heap.size<=W11.heap.size by
  have h1:=lE.size;have h2:=KD.out;have h3:=Pb.out;have h4:=FP.out.size;have h5:=Io.out.size;have h6:=Hk.out;simp at h1
  omega)
 have pp:=ae lE;clear ox lE;obtain⟨i1,hi,hz0,hz1,hz2⟩:=aF uD;have JI:=ae hi;have JZ0:=ae hz0;have JZ1:=ae hz1;have JZ2:=ae hz2;clear hi hz0 hz1 hz2
 go_wp2_with (at_builtin
              refine ar rfl (.tmp 70) (.tmp 74) 45 rfl w.heap.size 101 i1 _ 5 56 Tryz.underlying45 JI.out JZ0.out JZ1.out JZ2.out rfl (by decide) (.slice none 0 0) [] [[.int .i64 0,.int .i64 0,.int .i64 0,.int .i64 0,.slice (some ⟨g7,0,none⟩) 1 cap7]] rfl (al.nil _ _ _ _) W11.heap.size 0 1 1 rfl rfl (aB.one (ai _ _ _ rfl)) (CL _ _ _ _ _ _ _) (by show 0+1<=maxLen;unfold maxLen;omega) (by show(0+1)*56<=140737488355328;omega) (cM Ma.out _) ?_;intro v12 W12 lV zD uR;obtain⟨g12,cap12,rfl,I7,Jm,IK⟩:=wO lV;have yC:=ae ((Gf.out.grow ((Below.refl _ _).alloc (Nat.le_refl _) _)).kept zD (by simp[Value.ownBlock]) (by simp[Value.ownBlock]));have Kv:=ae lV;have vC:=ae zD;have Jz:=ae IK;have Km:=ae I7;have Jd:=ae Jm
              clear lV zD uR IK I7 Jm)
 rw[rounds_succ]
 go_wp2_with (refine fE rfl (.tmp 62) rfl et rfl yC.out (fun kl h=>(Bool.and_eq_true_iff.1 h).1) (fun _=>?_) (fun key vv KF W10 cnt2 hk2 hl2 hg2 rf hlt k8 mw hen=>absurd hl2 (by
  obtain⟨e1,e2⟩:=rZ hg2;subst e1;rw[WideAt.sameKey_self yR.out]
  simp)))
 rw[rounds_succ];go_wp2_with fail;refine(uX _ _ _ _).mono ?_;rintro r W13 ⟨rfl,Es⟩;have hw2:w.heap.size<=w2.heap.size:=by omega
 have b6:Below w.heap.size w W6:=((bm.out.alloc hzw _).alloc (cM hzw _) _).grown yN.out (cM (cM hzw _) _) (fun k hk=>by injection hk with hk;omega);have b7:Below w.heap.size w W7:=b6.grown Io.out b6.size (fun k hk=>by simp[Value.ownBlock] at hk);have z7:=b7.size;have b8:Below w.heap.size w W8:=b7.grown FP.out z7 (fun k hk=>by injection hk with hk;omega);have z8:=b8.size;have b9:Below w.heap.size w W9:=b8.grown qM.out z8 (fun k hk=>by cases hk);have b10:Below w.heap.size w W10:=b9.grown mc.out b9.size (fun k hk=>by injection hk with hk;omega);have b11:Below w.heap.size w W11:=(b10.alloc b10.size _).trans (pp.out.mono (cM b10.size _));have b12:Below w.heap.size w W12:=(b11.alloc b11.size _).grown vC.out (cM b11.size _) (fun k hk=>by simp[Value.ownBlock] at hk);have b13:Below w.heap.size w W13:=b12.trans (Es.mono b12.size);have e7:=PC.out;have t6:=Qa.out;have l7:=Rg.out;have l8:=FP.out.size;have l9:=qM.out.size;have l10:=mc.out.size;have l11:=pp.out.size;have l12:=vC.out.size;simp at l11 l12;have r8:=Qv.out.kept FP.out (by intro h;injection h with h;omega) l7;have r9:=r8.kept qM.out (by simp) (by omega);have r10:=r9.kept mc.out (by intro h;injection h with h;omega) (by omega);have r11:=r10.still (((Below.refl _ _).alloc (Nat.le_refl _) _).trans (pp.out.mono (by simp))) (by omega);have r12:=(r11.still ((Below.refl _ _).alloc (Nat.le_refl _) _) (by omega)).kept vC.out (by simp[Value.ownBlock]) (by simp;omega);have r13:=r12.still Es (by omega);have OO:=Jz.out.still Es Jd.out;rw[<-Iv.out] at r13;have RES:=ae (show ∃g cap g7 cap7,Ending.returned (.slice (some ⟨g12,0,none⟩) 1 cap12)=.returned (.slice (some ⟨g,0,none⟩) 1 cap)/\aB W13 g 0 5 [[.int .i64 0,.int .i64 0,.int .i64 0,.int .i64 0,.slice (some ⟨g7,0,none⟩) 1 cap7]]/\aB W13 g7 0 9 [jQ (F 0)]/\w.heap.size<=g/\w.heap.size<=g7 from⟨g12,cap12,g7,cap7,rfl,OO,r13,Km.out,cU.out⟩);have Qw:=ae b13;clear b6 b7 z7 b8 z8 b9 b10 b11 b12 b13 e7 t6 l7 l8 l9 l10 l11 l12 r8 r9 r10 r11 r12 r13 OO Es;go_wp2_with fail;go_ret;refine⟨?_,Qw.out⟩;obtain⟨x1,x2,x3,x4,h1,h2⟩:=RES.out;exact⟨x1,x2,x3,x4,Eq.trans rfl h1,h2⟩
open Go.RowKit
def rV:Nat->Nat->Int:=fun _ j=>if j=0 then 5 else if j=6∨j=7 then 1 else 0
theorem vW:i3 rV 1=true:=by decide
theorem uB (b off cc:Nat) (w:World) (hbw:b<w.heap.size) (hr:gF w b off 1 rV):
 Calls Tryz.prog 12 #[.slice (some ⟨b,off,none⟩) 1 cc,.int .i64 1] w fun r w'=>(∃g cap g7 cap7,r=.returned (.tuple #[.slice (some ⟨g,0,none⟩) 1 cap,.int .i64 0])/\aB w' g 0 5 [[.int .i64 0,.int .i64 0,.int .i64 0,.int .i64 0,.slice (some ⟨g7,0,none⟩) 1 cap7]]/\aB w' g7 0 9 [jQ (rV 0)])/\Below w.heap.size w w':=by
 have HC:=ae hr;clear hr;go_enter Tryz.func12,Tryz.ntmps12;go_wp2_with fail;refine(sP b off 1 cc rV w (by omega) (by unfold maxLen;omega) hbw HC.out).mono ?_;rintro r w1 ⟨rfl,hb1⟩;rw[vW];have HR1:=ae (HC.out.still hb1 hbw);have HB1:=ae hb1;have hs1:=hb1.size;clear hb1;go_wp2_with fail;refine(BY b off cc rV w1 (by omega) HR1.out (by decide) (by decide) (by decide)).mono ?_;rintro r w2 ⟨⟨g,cap,g7,cap7,rfl,h5,h9,_,_⟩,hb2⟩;have HB2:=ae (HB1.out.trans (hb2.mono hs1));have H5:=ae h5;have H9:=ae h9;clear hb2 h5 h9;go_wp2_with fail;go_ret2;exact⟨⟨g,cap,g7,cap7,rfl,H5.out,H9.out⟩,HB2.out⟩
theorem gW (w:World):Calls Tryz.prog 14 #[] w fun r w'=>r=.returned (.bool true)/\Below w.heap.size w w':=by
 go_enter Tryz.func14,Tryz.ntmps14;go_wp2_with fail;refine(uB _ _ _ _ (by simp) (fun i hi j hj=>?_)).mono ?_
 ·obtain rfl:i=0:=by omega
  rw[af (ai _ _ _ rfl)]
  match j,hj with
  |0,_|1,_|2,_|3,_|4,_|5,_|6,_|7,_|8,_=>rfl
 rintro r w1 ⟨⟨g,cap,g7,cap7,rfl,h5,h9⟩,hb1⟩;have HB1:=ae (show Below w.heap.size w w1 from((Below.refl _ _).alloc (Nat.le_refl _) _).trans (hb1.mono (by simp)));have t4:w1.cell? ⟨g,4,none⟩=some (.slice (some ⟨g7,0,none⟩) 1 cap7):=h5 0 _ rfl 4 (by omega);have p0:w1.cell? ⟨g7,0,none⟩=some (.int .i64 5):=h9 0 _ rfl 0 (by omega);clear hb1 h5 h9;go_wp2_with fail;refine(pQ 0 _).mono ?_;rintro r w2 ⟨rfl,rfl⟩;have hrk:aY 0=16294208416658607535:=by decide+kernel
 rw[hrk];go_wp2_with fail;go_ret;exact⟨rfl,HB1.out⟩
end Go.Proofs.YtcclpdfmmdonpaaGreat
