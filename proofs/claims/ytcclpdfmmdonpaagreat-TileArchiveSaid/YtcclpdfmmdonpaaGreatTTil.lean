/- Texts of the seat Yteanlcefdoigcaa, turned to this one by wip/port.py: TileM AffM TileX LevM UpdM SameX KeyV TlsX RefM EqX AmongX. -/
import Derived.Test.YtcclpdfmmdonpaaGreatTRla
namespace Go.Proofs.YtcclpdfmmdonpaaGreat
set_option maxHeartbeats 6400000
set_option maxRecDepth 100000
open Go.RowKit
structure hZ (t:Tl):Prop where
 key:kt t.key.L t.key.x t.key.y t.key.z=true
 ne:t.pts≠[]
 good:bQ t.pts=true
 asc:t.pts.Pairwise (fun p q=>p.id<q.id)
 cell:∀p∈t.pts,aK t.key.L.toNat p=t.key
structure cd (T:List Tl):Prop where
 all:∀t∈T,hZ t
 order:T.Pairwise (fun a b=>a.key.lt b.key)
 apart:T.Pairwise (fun a b=>∀p∈a.pts,∀q∈b.pts,p.id≠q.id)
instance (t:Tl):Decidable (hZ t):=
 decidable_of_iff (kt t.key.L t.key.x t.key.y t.key.z=true/\0<t.pts.length/\bQ t.pts=true/\t.pts.Pairwise (fun p q=>p.id<q.id)/\∀p∈t.pts,aK t.key.L.toNat p=t.key)
  ⟨fun⟨h1,h2,h3,h4,h5⟩=>⟨h1,List.length_pos_iff.1 h2,h3,h4,h5⟩,fun h=>⟨h.key,List.length_pos_iff.2 h.ne,h.good,h.asc,h.cell⟩⟩
instance (T:List Tl):Decidable (cd T):=
 decidable_of_iff ((∀t∈T,hZ t)/\T.Pairwise (fun a b=>a.key.lt b.key)/\T.Pairwise (fun a b=>∀p∈a.pts,∀q∈b.pts,p.id≠q.id))
  ⟨fun⟨h1,h2,h3⟩=>⟨h1,h2,h3⟩,fun h=>⟨h.all,h.order,h.apart⟩⟩
theorem cd.nil:cd []:=⟨fun t h=>by simp at h,List.Pairwise.nil,List.Pairwise.nil⟩
theorem aH {α:Type} {E:List α} {i:Nat} {x:α} (hx:E[i]? =some x):E.take (i+1)=E.take i++[x]:=by
 rw[List.take_add_one,hx];rfl
theorem jm {α:Type} {E:List α} {i:Nat} {a:α} (h:a∈E.take i):∃j,j<i/\E[j]? =some a:=by
 obtain⟨j,hj',e⟩:=List.mem_iff_getElem.1 h;have hj:=hj';rw[List.length_take,Nat.lt_min] at hj;rw[List.getElem_take] at e;exact⟨j,hj.1,by rw[List.getElem?_eq_getElem hj.2,e]⟩
theorem xg {α:Type} {r:α->α->Prop} (tr:∀a b c,r a b->r b c->r a c) {E:List α} {i:Nat} {x:α} (h:(E.take i).Pairwise r) (hx:E[i]? =some x)
 (hp:∀a,0<i->E[i-1]? =some a->r a x):(E.take (i+1)).Pairwise r:=by
 rw[aH hx,List.pairwise_append];refine⟨h,List.pairwise_singleton _ _,fun a ha b hb=>?_⟩;obtain rfl:=List.mem_singleton.1 hb;obtain⟨j,hj,ej⟩:=jm ha;have hlen:=(List.getElem?_eq_some_iff.1 hx).1;by_cases he:j=i-1
 ·subst he;exact hp a (by omega) ej
 ·have h2:=List.pairwise_iff_getElem.1 h j (i-1) (by simp;omega) (by simp;omega) (by omega);simp only[List.getElem_take] at h2;have e1:E[j]=a:=by have:=ej;rw[List.getElem?_eq_getElem (by omega)] at this;exact Option.some.inj this
  rw[e1] at h2;exact tr _ _ _ h2 (hp _ (by omega) (List.getElem?_eq_getElem (by omega)))
theorem ly {α:Type} {r:α->α->Prop} {E:List α} {i j:Nat} {a b:α} (hij:i<j) (hi:E[i]? =some a) (hj:E[j]? =some b) (hn:¬r a b):¬E.Pairwise r:=fun h=>by
 obtain⟨h1,rfl⟩:=List.getElem?_eq_some_iff.1 hi;obtain⟨h2,rfl⟩:=List.getElem?_eq_some_iff.1 hj;exact hn (List.pairwise_iff_getElem.1 h i j h1 h2 hij)
theorem cd.next {T:List Tl} {i:Nat} {t:Tl} (h:cd (T.take i)) (ht:T[i]? =some t) (hok:hZ t) (ho:∀a,0<i->T[i-1]? =some a->a.key.lt t.key)
 (hd:∀j a,j<i->T[j]? =some a->∀p∈a.pts,∀q∈t.pts,p.id≠q.id):cd (T.take (i+1)):=by
 refine⟨?_,xg (r:=fun a b:Tl=>a.key.lt b.key) (fun a b c=>Ky.lt_trans) h.order ht ho,?_⟩
 ·rw[aH ht];intro u hu
  rcases List.mem_append.1 hu with g|g
  ·exact h.all u g
  ·obtain rfl:=List.mem_singleton.1 g;exact hok
 ·rw[aH ht,List.pairwise_append];refine⟨h.apart,List.pairwise_singleton _ _,fun a ha b hb=>?_⟩;obtain rfl:=List.mem_singleton.1 hb;obtain⟨j,hj,e⟩:=jm ha;exact hd j a hj e
theorem cd.not_ok {T:List Tl} {i:Nat} {t:Tl} (ht:T[i]? =some t) (h:¬hZ t):¬cd T:=fun g=>h (g.all t (List.mem_of_getElem? ht))
theorem cd.not_order {T:List Tl} {i:Nat} {t a:Tl} (h0:0<i) (ha:T[i-1]? =some a) (ht:T[i]? =some t) (h:¬a.key.lt t.key):¬cd T:=fun g=>ly (show i-1<i by omega) ha ht h g.order
theorem cd.not_apart {T:List Tl} {i j:Nat} {t a:Tl} {p q:Pt} (hj:j<i) (ha:T[j]? =some a) (ht:T[i]? =some t) (hp:p∈a.pts) (hq:q∈t.pts) (h:p.id=q.id):¬cd T:=fun g=>
 ly hj ha ht (fun k=>k p hp q hq h) g.apart
structure fU (k:Ky) (P:List Pt) (i:Nat):Prop where
 asc:(P.take i).Pairwise (fun p q=>p.id<q.id)
 cell:∀p∈P.take i,aK k.L.toNat p=k
theorem fU.zero (k:Ky) (P:List Pt):fU k P 0:=⟨by simp,fun p h=>by simp at h⟩
theorem fU.next {k:Ky} {P:List Pt} {i:Nat} {p:Pt} (h:fU k P i) (hp:P[i]? =some p) (hc:aK k.L.toNat p=k) (ha:∀q,0<i->P[i-1]? =some q->q.id<p.id):fU k P (i+1):=by
 refine⟨xg (fun a b c h1 h2=>by omega) h.asc hp ha,?_⟩;rw[aH hp];intro u hu
 rcases List.mem_append.1 hu with g|g
 ·exact h.cell u g
 ·obtain rfl:=List.mem_singleton.1 g;exact hc
theorem fU.done {k:Ky} {P:List Pt} (h:fU k P P.length) (h1:kt k.L k.x k.y k.z=true) (h2:P≠[]) (h3:bQ P=true):hZ ⟨k,P⟩:=
 ⟨h1,h2,h3,by have:=h.asc;rwa[List.take_length] at this,by have:=h.cell;rwa[List.take_length] at this⟩
theorem hZ.not_cell {t:Tl} {i:Nat} {p:Pt} (hp:t.pts[i]? =some p) (h:aK t.key.L.toNat p≠t.key):¬hZ t:=fun g=>h (g.cell p (List.mem_of_getElem? hp))
theorem hZ.not_asc {t:Tl} {i:Nat} {p q:Pt} (h0:0<i) (hq:t.pts[i-1]? =some q) (hp:t.pts[i]? =some p) (h:¬q.id<p.id):¬hZ t:=fun g=>ly (show i-1<i by omega) hq hp h g.asc
theorem nM {D S:List Pt} (hp:D.Perm S) (hd:S.Pairwise (fun p q=>p.id≠q.id)) (hs:D.Pairwise (fun p q=>¬q.id<p.id)):D.Pairwise (fun p q=>p.id<q.id):=by
 have h2:=(hp.pairwise_iff (R:=fun p q:Pt=>p.id≠q.id) (fun {_ _} e=>Ne.symm e)).2 hd;refine(h2.and hs).imp ?_;rintro a b ⟨h1,h3⟩;omega
theorem CF {D D':List Pt} (h:D.Pairwise (fun p q=>p.id<q.id)) (h':D'.Pairwise (fun p q=>p.id<q.id)) (hm:∀p,p∈D↔p∈D'):D=D':=
 fo (r:=fun p q:Pt=>p.id<q.id) (fun a=>by omega) (fun a b c h1 h2=>by omega) h h' hm
open Go.RowKit
theorem uT (n:Int) (h: -268435456<=n/\n<=268435456) (l:Nat) (hl:l<=12):0<=bN n l/\bN n l<=md (l:Int)-1:=by
 match l,hl with
 |0,_|1,_|2,_|3,_|4,_|5,_|6,_|7,_|8,_|9,_|10,_|11,_|12,_=>
  simp[bN,md];omega
 |l+13,h=>omega
theorem Ab (x y z:Int) (hx: -268435456<=x/\x<=268435456) (hy: -268435456<=y/\y<=268435456) (hz: -268435456<=z/\z<=268435456) (l:Nat) (hl:l<=12):kt (l:Int) (bN x l) (bN y l) (bN z l)=true:=by
 have a:=uT x hx l hl;have b:=uT y hy l hl;have d:=uT z hz l hl;rw[qd (by omega)];generalize md (l:Int)=p at*;simp[dY];omega
theorem Bz {S:List Pt} (hS:kZ S) {p q:Pt} (hp:p∈S) (hq:q∈S) (h:p.id=q.id):p=q:=by
 obtain⟨i,hi,rfl⟩:=List.mem_iff_getElem.1 hp;obtain⟨j,hj,rfl⟩:=List.mem_iff_getElem.1 hq;have hpw:=List.pairwise_iff_getElem.1 hS.1
 rcases Nat.lt_trichotomy i j with g|g|g
 ·exact absurd h (hpw i j hi hj g)
 ·subst g;rfl
 ·exact absurd h.symm (hpw j i hj hi g)
theorem bE.ok {S:List Pt} {c:Nat} {E:List Te} (hg:bQ S=true) (h:bE S c (E.map Te.tl)):cd (E.map Te.tl):=by
 obtain⟨hS,hf,hl⟩:=aW hg;have hok:=((cS S).1 hg).2.1;have hlens:=(h.lens hl).1;refine⟨fun t ht=>?_,h.order,?_⟩
 ·obtain⟨hn,has⟩:=h.tiles.pts t ht;have hmem:=h.tiles.mem t ht;have hlen:t.pts.length<=1024:=by
   obtain⟨e,he,rfl⟩:=List.mem_map.1 ht;exact hlens e he
  refine⟨?_,hn,?_,has,?_⟩
  ·obtain⟨p,hp⟩:=List.exists_mem_of_ne_nil _ hn;obtain⟨PA,l,h1,_,_,hk⟩:=(hmem p).1 hp;obtain⟨_,hx,hy,hz⟩:=hf p PA;rw[hk];exact Ab p.x p.y p.zl hx hy hz l h1
  ·rw[cS];exact⟨hlen,fun p hp=>hok p ((hmem p).1 hp).1,has.imp (fun g=>by omega)⟩
  ·intro p hp;obtain⟨_,l,_,_,_,hk⟩:=(hmem p).1 hp;rw[hk];show aK ((l:Int).toNat) p=_;rw[Int.toNat_natCast]
 ·refine List.Pairwise.imp_of_mem ?_ h.tiles.keys;intro a b ha hb hne p hp q hq he;obtain⟨h1,h2⟩:=(h.tiles.mem a ha p).1 hp;obtain⟨h3,h4⟩:=(h.tiles.mem b hb q).1 hq;obtain rfl:=Bz hS h1 h3 he;exact hne (rp h2 h4)
open Go.RowKit
def iF (A B:List Tl) (k:Ky):Prop:=(∃t∈A,t.key=k/\t∉B)∨(∃t∈B,t.key=k/\t∉A)
theorem iF.symm {A B:List Tl} {k:Ky} (h:iF A B k):iF B A k:=h.elim Or.inr Or.inl
structure jg (A B:List Tl) (K:List Ky):Prop where
 order:K.Pairwise (fun a b=>a.lt b)
 mem:∀k,k∈K↔iF A B k
theorem zo {K K':List Ky} (h:K.Pairwise (fun a b=>a.lt b)) (h':K'.Pairwise (fun a b=>a.lt b)) (hm:∀k,k∈K↔k∈K'):K=K':=
 fo (r:=fun a b:Ky=>a.lt b) (fun _=>Ky.lt_irrefl _) (fun _ _ _=>Ky.lt_trans) h h' hm
theorem jg.unique {A B:List Tl} {K K':List Ky} (h:jg A B K) (h':jg A B K'):K=K':=zo h.order h'.order (fun k=>by rw[h.mem,h'.mem])
structure eB (A B:List Tl) (i j:Nat) (K:List Ky):Prop where
 order:K.Pairwise (fun a b=>a.lt b)
 mem:∀k,k∈K↔iF A B k/\((∃t∈A.take i,t.key=k)∨(∃t∈B.take j,t.key=k))
 left:∀a∈A.take i,∀b∈B.drop j,a.key.lt b.key
 right:∀b∈B.take j,∀a∈A.drop i,b.key.lt a.key
theorem eB.start (A B:List Tl):eB A B 0 0 []:=⟨List.Pairwise.nil,fun k=>by simp,fun a h=>by simp at h,fun a h=>by simp at h⟩
theorem eB.symm {A B:List Tl} {i j:Nat} {K:List Ky} (h:eB A B i j K):eB B A j i K:=
 ⟨h.order,fun k=>by
  rw[h.mem];constructor
  ·rintro⟨h1,h2⟩;exact⟨h1.symm,h2.elim Or.inr Or.inl⟩
  ·rintro⟨h1,h2⟩;exact⟨h1.symm,h2.elim Or.inr Or.inl⟩,h.right,h.left⟩
theorem gE {α:Type} {l:List α} {i:Nat} {x:α} (h:l[i]? =some x):l.drop i=x::l.drop (i+1):=by
 obtain⟨h1,h2⟩:=List.getElem?_eq_some_iff.1 h;rw[List.drop_eq_getElem_cons h1,h2]
theorem oK {A:List Tl} (hA:A.Pairwise (fun a b=>a.key.lt b.key)) {i:Nat} {t:Tl} (ht:A[i]? =some t):∀a∈A.take i,a.key.lt t.key:=fun a ha=>by
 obtain⟨j,hj,e⟩:=jm ha;obtain⟨h1,rfl⟩:=List.getElem?_eq_some_iff.1 e;obtain⟨h2,rfl⟩:=List.getElem?_eq_some_iff.1 ht;exact List.pairwise_iff_getElem.1 hA j i h1 h2 hj
theorem ki {A:List Tl} (hA:A.Pairwise (fun a b=>a.key.lt b.key)) {i:Nat} {t:Tl} (ht:A[i]? =some t):∀a∈A.drop (i+1),t.key.lt a.key:=fun a ha=>by
 have h:=hA.sublist (List.drop_sublist i A);rw[gE ht] at h;exact(List.pairwise_cons.1 h).1 a ha
theorem jU {A:List Tl} (hA:A.Pairwise (fun a b=>a.key.lt b.key)) {t u:Tl} (ht:t∈A) (hu:u∈A) (h:t.key=u.key):t=u:=by
 obtain⟨i,hi,rfl⟩:=List.mem_iff_getElem.1 ht;obtain⟨j,hj,rfl⟩:=List.mem_iff_getElem.1 hu;have hpw:=List.pairwise_iff_getElem.1 hA
 rcases Nat.lt_trichotomy i j with g|g|g
 ·have:=hpw i j hi hj g;rw[h] at this;exact absurd this (Ky.lt_irrefl _)
 ·subst g;rfl
 ·have:=hpw j i hj hi g;rw[h] at this;exact absurd this (Ky.lt_irrefl _)
theorem eB.before {A B:List Tl} (hA:A.Pairwise (fun a b=>a.key.lt b.key)) {i j:Nat} {K:List Ky} (h:eB A B i j K) {t:Tl} (ht:A[i]? =some t):∀k∈K,k.lt t.key:=fun k hk=>by
 rcases((h.mem k).1 hk).2 with⟨u,hu,rfl⟩ | ⟨u,hu,rfl⟩
 ·exact oK hA ht u hu
 ·exact h.right u hu t (by rw[gE ht];exact List.mem_cons_self ..)
theorem eB.next_left {A B:List Tl} (hA:A.Pairwise (fun a b=>a.key.lt b.key)) (hB:B.Pairwise (fun a b=>a.key.lt b.key)) {i j:Nat} {K:List Ky} (h:eB A B i j K) {t:Tl} (ht:A[i]? =some t)
 (hb:∀u,B[j]? =some u->t.key.lt u.key):eB A B (i+1) j (K++[t.key]):=by
 have hbd:∀b∈B.drop j,t.key.lt b.key:=fun b hbm=>by
  cases hj:B[j]? with
  |none=>
   rw[List.drop_eq_nil_of_le (List.getElem?_eq_none_iff.1 hj)] at hbm;simp at hbm
  |some u=>
   rw[gE hj] at hbm
   rcases List.mem_cons.1 hbm with g|g
   ·subst g;exact hb _ hj
   ·exact Ky.lt_trans (hb u hj) (ki hB hj b g)
 have hbt:∀b∈B.take j,b.key.lt t.key:=fun b hbm=>h.right b hbm t (by rw[gE ht];exact List.mem_cons_self ..)
 have hnb:∀b∈B,b.key≠t.key:=fun b hbm e=>by
  rw[<-List.take_append_drop j B] at hbm
  rcases List.mem_append.1 hbm with g|g
  ·have:=hbt b g;rw[e] at this;exact Ky.lt_irrefl _ this
  ·have:=hbd b g;rw[e] at this;exact Ky.lt_irrefl _ this
 have hta:=List.mem_of_getElem? ht;refine⟨?_,fun k=>?_,?_,?_⟩
 ·rw[List.pairwise_append];refine⟨h.order,List.pairwise_singleton _ _,fun a ha b hb=>?_⟩;obtain rfl:=List.mem_singleton.1 hb;exact h.before hA ht a ha
 ·rw[List.mem_append,h.mem,List.mem_singleton,aH ht];constructor
  ·rintro (⟨h1,h2⟩ |rfl)
   ·exact⟨h1,h2.imp (fun⟨u,g1,g2⟩=>⟨u,List.mem_append.2 (Or.inl g1),g2⟩) id⟩
   ·exact⟨Or.inl ⟨t,hta,rfl,fun g=>hnb t g rfl⟩,Or.inl ⟨t,by simp,rfl⟩⟩
  ·rintro⟨h1,⟨u,g1,g2⟩ |g⟩
   ·rcases List.mem_append.1 g1 with g3|g3
    ·exact Or.inl ⟨h1,Or.inl ⟨u,g3,g2⟩⟩
    ·obtain rfl:=List.mem_singleton.1 g3;exact Or.inr g2.symm
   ·exact Or.inl ⟨h1,Or.inr g⟩
 ·rw[aH ht];intro a ha b hb2
  rcases List.mem_append.1 ha with g|g
  ·exact h.left a g b hb2
  ·obtain rfl:=List.mem_singleton.1 g;exact hbd b hb2
 ·intro b hb a ha;exact h.right b hb a (by rw[gE ht];exact List.mem_cons_of_mem _ ha)
theorem eB.next_right {A B:List Tl} (hA:A.Pairwise (fun a b=>a.key.lt b.key)) (hB:B.Pairwise (fun a b=>a.key.lt b.key)) {i j:Nat} {K:List Ky} (h:eB A B i j K) {t:Tl} (ht:B[j]? =some t)
 (hb:∀u,A[i]? =some u->t.key.lt u.key):eB A B i (j+1) (K++[t.key]):=(h.symm.next_left hB hA ht hb).symm
theorem eB.next_both {A B:List Tl} (hA:A.Pairwise (fun a b=>a.key.lt b.key)) (hB:B.Pairwise (fun a b=>a.key.lt b.key)) {i j:Nat} {K:List Ky} (h:eB A B i j K) {t u:Tl} (ht:A[i]? =some t) (hu:B[j]? =some u)
 (hk:t.key=u.key) {K':List Ky} (hK:(t.pts=u.pts/\K'=K)∨(t.pts≠u.pts/\K'=K++[t.key])):eB A B (i+1) (j+1) K':=by
 have hta:=List.mem_of_getElem? ht;have hub:=List.mem_of_getElem? hu;have e1:∀a∈A.take (i+1),∀b∈B.drop (j+1),a.key.lt b.key:=fun a ha b hb=>by
  rw[aH ht] at ha
  rcases List.mem_append.1 ha with g|g
  ·exact h.left a g b (by rw[gE hu];exact List.mem_cons_of_mem _ hb)
  ·obtain rfl:=List.mem_singleton.1 g;rw[hk];exact ki hB hu b hb
 have e2:∀b∈B.take (j+1),∀a∈A.drop (i+1),b.key.lt a.key:=fun b hb a ha=>by
  rw[aH hu] at hb
  rcases List.mem_append.1 hb with g|g
  ·exact h.right b g a (by rw[gE ht];exact List.mem_cons_of_mem _ ha)
  ·obtain rfl:=List.mem_singleton.1 g;rw[<-hk];exact ki hA ht a ha
 have hin:∀k,((∃t∈A.take (i+1),t.key=k)∨(∃t∈B.take (j+1),t.key=k))↔((∃t∈A.take i,t.key=k)∨(∃t∈B.take j,t.key=k))∨k=t.key:=fun k=>by
  rw[aH ht,aH hu];constructor
  ·rintro (⟨a,g,rfl⟩ | ⟨a,g,rfl⟩)
   ·rcases List.mem_append.1 g with g|g
    ·exact Or.inl (Or.inl ⟨a,g,rfl⟩)
    ·obtain rfl:=List.mem_singleton.1 g;exact Or.inr rfl
   ·rcases List.mem_append.1 g with g|g
    ·exact Or.inl (Or.inr ⟨a,g,rfl⟩)
    ·obtain rfl:=List.mem_singleton.1 g;exact Or.inr hk.symm
  ·rintro ((⟨a,g,rfl⟩ | ⟨a,g,rfl⟩) |rfl)
   ·exact Or.inl ⟨a,List.mem_append.2 (Or.inl g),rfl⟩
   ·exact Or.inr ⟨a,List.mem_append.2 (Or.inl g),rfl⟩
   ·exact Or.inl ⟨t,by simp,rfl⟩
 rcases hK with⟨hp,rfl⟩ | ⟨hp,rfl⟩
 ·have htu:t=u:=by cases t;cases u;simp at hk hp;rw[hk,hp]
  subst htu;have hnd:¬iF A B t.key:=by
   rintro (⟨a,g1,g2,g3⟩ | ⟨a,g1,g2,g3⟩)
   ·obtain rfl:=jU hA g1 hta g2;exact g3 hub
   ·obtain rfl:=jU hB g1 hub g2;exact g3 hta
  refine⟨h.order,fun k=>?_,e1,e2⟩;rw[h.mem,hin];constructor
  ·rintro⟨g1,g2⟩;exact⟨g1,Or.inl g2⟩
  ·rintro⟨g1,g2|rfl⟩
   ·exact⟨g1,g2⟩
   ·exact absurd g1 hnd
 ·have hd:iF A B t.key:=Or.inl ⟨t,hta,rfl,fun g=>by
   obtain rfl:=jU hB g hub hk
   exact hp rfl⟩
  refine⟨?_,fun k=>?_,e1,e2⟩
  ·rw[List.pairwise_append];refine⟨h.order,List.pairwise_singleton _ _,fun a ha b hb=>?_⟩;obtain rfl:=List.mem_singleton.1 hb;exact h.before hA ht a ha
  ·rw[List.mem_append,h.mem,hin,List.mem_singleton];constructor
   ·rintro (⟨g1,g2⟩ |rfl)
    ·exact⟨g1,Or.inl g2⟩
    ·exact⟨hd,Or.inr rfl⟩
   ·rintro⟨g1,g2|rfl⟩
    ·exact Or.inl ⟨g1,g2⟩
    ·exact Or.inr rfl
theorem eB.done {A B:List Tl} {i j:Nat} {K:List Ky} (h:eB A B i j K) (hi:A.length<=i) (hj:B.length<=j):jg A B K:=by
 refine⟨h.order,fun k=>?_⟩;rw[h.mem,List.take_of_length_le hi,List.take_of_length_le hj];constructor
 ·exact fun g=>g.1
 ·rintro g;refine⟨g,?_⟩
  rcases g with⟨t,h1,h2,_⟩ | ⟨t,h1,h2,_⟩
  ·exact Or.inl ⟨t,h1,h2⟩
  ·exact Or.inr ⟨t,h1,h2⟩
open Go.RowKit
section
variable {S S':List Pt} {c:Nat} (hS:kZ S') (hf:∀p∈S',p.fine) (hc:1<=c)
end
open Go.ChangeShapes Go.WideShapes Go.RowKit Go.Sort
theorem pH (k:Ky) (v:Value) (P:List Pt) (w:World) (hp:cj w v P) (hn:P.length<=maxLen):
 Calls Tryz.prog 96 #[.agg #[.int .i64 k.L,.int .i64 k.x,.int .i64 k.y,.int .i64 k.z,v]] w fun r w'=>r=.returned (.bool (decide (hZ ⟨k,P⟩)))/\Below w.heap.size w w':=by
 obtain⟨gv,hgv⟩:∃gv,gv=decide (hZ ⟨k,P⟩):=⟨_,rfl⟩;rw[<-hgv];have gL:=ae (fun h:¬hZ ⟨k,P⟩=>show gv=false by rw[hgv];exact decide_eq_false h);have gP:=ae (fun h:hZ ⟨k,P⟩=>show gv=true by rw[hgv];exact decide_eq_true h);clear hgv;have HP:=ae hp;have CT:=ae hn;obtain⟨a,cap,rfl,hpd⟩:=hp;obtain⟨n,hnl⟩:∃n,n=P.length:=⟨_,rfl⟩;rw[<-hnl] at HP hn⊢;have AT:n<=9223372036854775807:=by unfold maxLen at hn;omega
 have HN:=ae hnl;have vG:=ae hpd;clear hn hnl hpd;obtain⟨kL,kx,ky,kz⟩:=k
 cases hkb:kt kL kx ky kz
 ·have HF:=ae (gL.out (fun h=>by have:=h.key;simp only at this;rw[hkb] at this;cases this));have HK:=ae hkb;clear hkb;go_enter Tryz.func96,Tryz.ntmps96;go_wp2_with fail;refine(oA _ _ _ _ _).mono ?_;rintro r w1 ⟨rfl,hb⟩;rw[HK.out];have HB1:=ae ((by refine Below.trans ?_ (hb.mono ?_);(focus ((repeat' (first| (with_reducible first|exact Below.refl _ _|assumption|refine Below.alloc ?_ ?_ _|refine Below.drew ?_ |refine below_drewN ?_ _|refine Below.setCell ?_ ?_ _|refine below_setRow ?_ ?_ _) |go_size));done));(focus (first| (simp;done) | (simp;omega)))):Below w.heap.size w w1);clear hb;go_wp2_with fail;go_ret;exact⟨by rw[HF.out];rfl,HB1.out⟩
 ·have HK:=ae hkb;have hkl:=sy hkb;have OD:=ae hkl;clear hkb hkl;by_cases hn0:n=0
  ·have Rq:P=[]:=List.eq_nil_of_length_eq_zero (by rw[<-HN.out];exact hn0);have HF:=ae (gL.out (fun h=>h.ne Rq));subst hn0;go_enter Tryz.func96,Tryz.ntmps96;go_wp2_with fail;refine(oA _ _ _ _ _).mono ?_;rintro r w1 ⟨rfl,hb⟩;rw[HK.out];have HB1:=ae ((by refine Below.trans ?_ (hb.mono ?_);(focus ((repeat' (first| (with_reducible first|exact Below.refl _ _|assumption|refine Below.alloc ?_ ?_ _|refine Below.drew ?_ |refine below_drewN ?_ _|refine Below.setCell ?_ ?_ _|refine below_setRow ?_ ?_ _) |go_size));done));(focus (first| (simp;done) | (simp;omega)))):Below w.heap.size w w1);have t4:w1.cell? ⟨w.heap.size,4,none⟩=some (.slice a 0 cap):=(af (j:=4) (aj hb (ai _ _ _ rfl))).trans rfl;clear hb;go_wp2_with fail;go_ret;exact⟨by rw[HF.out];rfl,HB1.out⟩
  ·have d0:((n:Int) == 0)=false:=by simp;omega
   have hnp:(n:Int)≠0:=by omega
   have Im:P≠[]:=fun e=>hn0 (by rw[HN.out,e];rfl)
   obtain⟨b,off,rfl,hbw,hrows⟩:=vG.out.resolve_left Im;have HRW:=ae hrows;have aA:=ae hbw;have Mt:=ae Im;clear hrows hbw Im;go_enter Tryz.func96,Tryz.ntmps96;go_wp2_with fail;refine(oA _ _ _ _ _).mono ?_;rintro r w1 ⟨rfl,hb⟩;rw[HK.out];have HB1:=ae ((by refine Below.trans ?_ (hb.mono ?_);(focus ((repeat' (first| (with_reducible first|exact Below.refl _ _|assumption|refine Below.alloc ?_ ?_ _|refine Below.drew ?_ |refine below_drewN ?_ _|refine Below.setCell ?_ ?_ _|refine below_setRow ?_ ?_ _) |go_size));done));(focus (first| (simp;done) | (simp;omega)))):Below w.heap.size w w1);have HR1:=ae (show w1.heap[w.heap.size]? =some (.cells #[.int .i64 kL,.int .i64 kx,.int .i64 ky,.int .i64 kz,.slice (some ⟨b,off,none⟩) n cap] 101) from aj hb (ai _ _ _ rfl));have t4:w1.cell? ⟨w.heap.size,4,none⟩=some (.slice (some ⟨b,off,none⟩) n cap):=(af (j:=4) HR1.out).trans rfl;have FE:=ae (HP.out.still HB1.out);clear hb
   cases hg:bQ P
   ·have HF:=ae (gL.out (fun h=>by have:=h.good;simp only at this;rw[hg] at this;cases this));have HG:=ae hg;clear hg;go_wp2_with fail;refine(eD _ P w1 FE.out).mono ?_;rintro r w2 ⟨rfl,hb⟩;rw[HG.out];have HB2:=ae (HB1.out.trans (hb.mono HB1.out.size));clear hb;go_wp2_with fail;go_ret;exact⟨by rw[HF.out];rfl,HB2.out⟩
   ·have HG:=ae hg;have Jl:=ae (aW hg).2.1;have JZ:n<=1024:=by rw[HN.out];exact(aW hg).2.2
    clear hg;go_wp2_with fail;refine(eD _ P w1 FE.out).mono ?_;rintro r w2 ⟨rfl,hb⟩;rw[HG.out];have HB2:=ae (HB1.out.trans (hb.mono HB1.out.size));have HR2:=ae (aj hb HR1.out);clear hb t4 AT;have t4:w2.cell? ⟨w.heap.size,4,none⟩=some (.slice (some ⟨b,off,none⟩) n cap):=(af (j:=4) HR2.out).trans rfl;go_wp2_with fail;clear t4;have hgs:w.heap.size<w2.heap.size:=(Array.getElem?_eq_some_iff.1 HR2.out).1
    go_loopw [24] (fun iv W=>∃i:Nat,i<=n/\iv=.int .i64 (i:Int)/\fU ⟨kL,kx,ky,kz⟩ P i/\Below w2.heap.size w2 W) (fun iv _=>n-(intOf iv).toNat)
    case atStart=>exact⟨0,by omega,rfl,fU.zero _ _,Below.refl _ _⟩
    case round=>
     obtain⟨i,hi,rfl,hst,hB⟩:=hrel;have HST:=ae hst;have bm:=ae hB;have fT:=hB.size;clear hst hB;have Da:=ae (HB2.out.trans (bm.out.mono HB2.out.size));by_cases hlt:i<n
     ·have d1:decide ((i:Int)<(n:Int))=true:=decide_eq_true (by omega);obtain⟨p,hp⟩:∃p,P[i]? =some p:=⟨_,List.getElem?_eq_getElem (by rw[<-HN.out];exact hlt)⟩;have pu:=ae hp;have Dx:=ae (Jl.out p (List.mem_of_getElem? hp));have hcs:∀j,j<9->wr.cell? ⟨b,off+i*9+j,none⟩=some (.int .i64 (p.f j)):=fun j hj=>by
       rw[Da.out.cell aA.out,HRW.out i p.row (by rw[List.getElem?_map,hp];rfl) j hj,Pt.row_at p j hj]
      have Jc:=ae (fun(hc:aK kL.toNat p=⟨kL,kx,ky,kz⟩) (ha:∀q,0<i->P[i-1]? =some q->q.id<p.id)=>fU.next HST.out hp hc ha);obtain⟨l,hl12,hkl⟩:∃l:Nat,l<=12/\kL=l:=by
       obtain⟨h1,_⟩:=OD.out;exact⟨kL.toNat,by omega,by omega⟩
      have fF:=ae (show((kL.toNat:Nat):Int)=kL by rw[hkl];simp);have rR:=ae (fun W=>jr p.id p.x p.y p.zl p.zh p.wd p.nm p.of p.cl kL.toNat (by omega) Dx.out.2.1 Dx.out.2.2.1 Dx.out.2.2.2 W);clear hp hkl hl12;obtain⟨p0,p1,p2,p3,p4,p5,p6,p7,p8⟩:=p;simp only[fF.out] at rR;have a0:wr.cell? ⟨b,off+i*9,none⟩=some (.int .i64 p0):=hcs 0 (by decide);have a1:wr.cell? ⟨b,off+i*9+1,none⟩=some (.int .i64 p1):=hcs 1 (by decide);have a2:wr.cell? ⟨b,off+i*9+2,none⟩=some (.int .i64 p2):=hcs 2 (by decide);have a3:wr.cell? ⟨b,off+i*9+3,none⟩=some (.int .i64 p3):=hcs 3 (by decide);have a4:wr.cell? ⟨b,off+i*9+4,none⟩=some (.int .i64 p4):=hcs 4 (by decide);have a5:wr.cell? ⟨b,off+i*9+5,none⟩=some (.int .i64 p5):=hcs 5 (by decide);have a6:wr.cell? ⟨b,off+i*9+6,none⟩=some (.int .i64 p6):=hcs 6 (by decide);have a7:wr.cell? ⟨b,off+i*9+7,none⟩=some (.int .i64 p7):=hcs 7 (by decide);have a8:wr.cell? ⟨b,off+i*9+8,none⟩=some (.int .i64 p8):=hcs 8 (by decide);clear hcs;go_upto_region 6 with fail;refine au (fun W5 gx=>?_);have jI:=ae (show W5.heap[wr.heap.size]? =some (.cells #[.int .i64 p0,.int .i64 p1,.int .i64 p2,.int .i64 p3,.int .i64 p4,.int .i64 p5,.int .i64 p6,.int .i64 p7,.int .i64 p8] 106) by rw[gx];exact ai _ _ _ rfl);have dQ:=ae (show Below w2.heap.size w2 W5 by rw[gx];exact bm.out.alloc fT _);have sN:=ae (aj dQ.out HR2.out);have fq:=ae (show Below w.heap.size w W5 from HB2.out.trans (dQ.out.mono HB2.out.size));clear gx a0 a1 a2 a3 a4 a5 a6 a7 a8;obtain⟨g,hg⟩:∃g,g=wr.heap.size:=⟨_,rfl⟩;rw[<-hg] at jI⊢;clear hg;have t0:=fun d os=>cell_regrown (show W5.cell? ⟨w.heap.size,0,none⟩=some (.int .i64 kL) from(af (j:=0) sN.out).trans rfl) d os
      have t1:=fun d os=>cell_regrown (show W5.cell? ⟨w.heap.size,1,none⟩=some (.int .i64 kx) from(af (j:=1) sN.out).trans rfl) d os
      have t2:=fun d os=>cell_regrown (show W5.cell? ⟨w.heap.size,2,none⟩=some (.int .i64 ky) from(af (j:=2) sN.out).trans rfl) d os
      have t3:=fun d os=>cell_regrown (show W5.cell? ⟨w.heap.size,3,none⟩=some (.int .i64 kz) from(af (j:=3) sN.out).trans rfl) d os
      have t4:=fun d os=>cell_regrown (show W5.cell? ⟨w.heap.size,4,none⟩=some (.slice (some ⟨b,off,none⟩) n cap) from(af (j:=4) sN.out).trans rfl) d os
      have c0:=fun d os=>cell_regrown (show W5.cell? ⟨g,0,none⟩=some (.int .i64 p0) from(af (j:=0) jI.out).trans rfl) d os
      have c1:=fun d os=>cell_regrown (show W5.cell? ⟨g,1,none⟩=some (.int .i64 p1) from(af (j:=1) jI.out).trans rfl) d os
      have c2:=fun d os=>cell_regrown (show W5.cell? ⟨g,2,none⟩=some (.int .i64 p2) from(af (j:=2) jI.out).trans rfl) d os
      have c3:=fun d os=>cell_regrown (show W5.cell? ⟨g,3,none⟩=some (.int .i64 p3) from(af (j:=3) jI.out).trans rfl) d os
      have c4:=fun d os=>cell_regrown (show W5.cell? ⟨g,4,none⟩=some (.int .i64 p4) from(af (j:=4) jI.out).trans rfl) d os
      have c5:=fun d os=>cell_regrown (show W5.cell? ⟨g,5,none⟩=some (.int .i64 p5) from(af (j:=5) jI.out).trans rfl) d os
      have c6:=fun d os=>cell_regrown (show W5.cell? ⟨g,6,none⟩=some (.int .i64 p6) from(af (j:=6) jI.out).trans rfl) d os
      have c7:=fun d os=>cell_regrown (show W5.cell? ⟨g,7,none⟩=some (.int .i64 p7) from(af (j:=7) jI.out).trans rfl) d os
      have c8:=fun d os=>cell_regrown (show W5.cell? ⟨g,8,none⟩=some (.int .i64 p8) from(af (j:=8) jI.out).trans rfl) d os
      by_cases hi0:i=0
      ·have dg:decide ((0:Int)<(i:Int))=false:=decide_eq_false (by omega);have dg2:¬ 0<i:=by omega
       cases hcb:decide (aK kL.toNat ⟨p0,p1,p2,p3,p4,p5,p6,p7,p8⟩=⟨kL,kx,ky,kz⟩)
       ·have heq:∀W,(Op.equalIn 10000 99 (.agg (fx kL.toNat p1 p2 p3)) (.agg #[.int .i64 kL,.int .i64 kx,.int .i64 ky,.int .i64 kz])).run Tryz.prog W=.ok false W:=nu (aK kL.toNat ⟨p0,p1,p2,p3,p4,p5,p6,p7,p8⟩) ⟨kL,kx,ky,kz⟩ false hcb.symm;have HF:=ae (gL.out (hZ.not_cell (t:=⟨⟨kL,kx,ky,kz⟩,P⟩) pu.out (of_decide_eq_false hcb)));clear hcb;go_wp2_with fail;refine wp_region_quiet_below (by kernel_rfl) (by kernel_rfl) ?_
        repeat(first|go_big_quiet_step ((go_at_call 93;with_reducible exact Calls.regrown_of (rR.out _))) |quiet_step ((go_at_call 93;with_reducible exact Calls.regrown_of (rR.out _))))
        refine wpQuiet_nil ?_;intro _ hw';obtain⟨⟨dqV,osV⟩,hw2⟩:=hw';subst hw2;have aO:=ae (below_regrown W5 dqV osV);generalize Sort.grow (redrawn W5 dqV) osV=V at aO⊢;have gf:=aO.out.size;clear c0 c1 c2 c3 c4 c5 c6 c7 c8 t0 t1 t2 t3 t4;clear heq;go_wp2_with fail;go_ret;exact⟨by rw[HF.out];rfl,fq.out.trans (aO.out.mono fq.out.size)⟩
       ·have heq:∀W,(Op.equalIn 10000 99 (.agg (fx kL.toNat p1 p2 p3)) (.agg #[.int .i64 kL,.int .i64 kx,.int .i64 ky,.int .i64 kz])).run Tryz.prog W=.ok true W:=nu (aK kL.toNat ⟨p0,p1,p2,p3,p4,p5,p6,p7,p8⟩) ⟨kL,kx,ky,kz⟩ true hcb.symm;have Gm:=ae (Jc.out (of_decide_eq_true hcb) (fun q h _=>absurd h dg2));clear hcb;go_wp2_with fail;refine wp_region_quiet_below (by kernel_rfl) (by kernel_rfl) ?_
        repeat(first|go_big_quiet_step ((go_at_call 93;with_reducible exact Calls.regrown_of (rR.out _))) |quiet_step ((go_at_call 93;with_reducible exact Calls.regrown_of (rR.out _))))
        refine wpQuiet_nil ?_;intro _ hw';obtain⟨⟨dqV,osV⟩,hw2⟩:=hw';subst hw2;have aO:=ae (below_regrown W5 dqV osV);generalize Sort.grow (redrawn W5 dqV) osV=V at aO⊢;have gf:=aO.out.size;clear c0 c1 c2 c3 c4 c5 c6 c7 c8 t0 t1 t2 t3 t4;clear heq;go_wp2_with fail;exact⟨⟨i+1,by omega,by go_num,Gm.out,dQ.out.trans (aO.out.mono dQ.out.size)⟩,by simp[intOf];omega⟩
      ·obtain⟨q,hq⟩:∃q,P[i-1]? =some q:=⟨_,List.getElem?_eq_getElem (by rw[<-HN.out];omega)⟩
       have b0:=fun d os=>cell_regrown (show W5.cell? ⟨b,off+(i-1)*9,none⟩=some (.int .i64 q.id) by
        rw[fq.out.cell aA.out]
        exact(HRW.out (i-1) q.row (by rw[List.getElem?_map,hq];rfl) 0 (by decide)).trans rfl) d os
       have dg:decide ((0:Int)<(i:Int))=true:=decide_eq_true (by omega);have dg2:0<i:=by omega
       have HQ:=ae hq;clear hq;by_cases hle:p0<=q.id
       ·have HF:=ae (gL.out (hZ.not_asc (t:=⟨⟨kL,kx,ky,kz⟩,P⟩) dg2 HQ.out pu.out (show ¬q.id<p0 by omega)));have dl:decide (p0<=q.id)=true:=decide_eq_true hle;go_wp2_with fail;refine wp_region_quiet_below (by kernel_rfl) (by kernel_rfl) ?_
        repeat(first|go_big_quiet_step (fail) |quiet_step (fail))
        refine wpQuiet_nil ?_;intro _ hw';obtain⟨⟨dqV,osV⟩,hw2⟩:=hw';subst hw2;have aO:=ae (below_regrown W5 dqV osV);generalize Sort.grow (redrawn W5 dqV) osV=V at aO⊢;have gf:=aO.out.size;clear c0 c1 c2 c3 c4 c5 c6 c7 c8 t0 t1 t2 t3 t4;clear b0;go_wp2_with fail;go_ret;exact⟨by rw[HF.out];rfl,fq.out.trans (aO.out.mono fq.out.size)⟩
       ·have dl:decide (p0<=q.id)=false:=decide_eq_false hle;have lm:=ae (show q.id<p0 by omega);have o4:=ae (fun(x:Pt) (_:0<i) (hx:P[i-1]? =some x)=>show x.id<p0 from by rw[Option.some.inj (hx.symm.trans HQ.out)];exact lm.out)
        cases hcb:decide (aK kL.toNat ⟨p0,p1,p2,p3,p4,p5,p6,p7,p8⟩=⟨kL,kx,ky,kz⟩)
        ·have heq:∀W,(Op.equalIn 10000 99 (.agg (fx kL.toNat p1 p2 p3)) (.agg #[.int .i64 kL,.int .i64 kx,.int .i64 ky,.int .i64 kz])).run Tryz.prog W=.ok false W:=nu (aK kL.toNat ⟨p0,p1,p2,p3,p4,p5,p6,p7,p8⟩) ⟨kL,kx,ky,kz⟩ false hcb.symm;have HF:=ae (gL.out (hZ.not_cell (t:=⟨⟨kL,kx,ky,kz⟩,P⟩) pu.out (of_decide_eq_false hcb)));clear hcb;go_wp2_with fail;refine wp_region_quiet_below (by kernel_rfl) (by kernel_rfl) ?_
         repeat(first|go_big_quiet_step ((go_at_call 93;with_reducible exact Calls.regrown_of (rR.out _))) |quiet_step ((go_at_call 93;with_reducible exact Calls.regrown_of (rR.out _))))
         refine wpQuiet_nil ?_;intro _ hw';obtain⟨⟨dqV,osV⟩,hw2⟩:=hw';subst hw2;have aO:=ae (below_regrown W5 dqV osV);generalize Sort.grow (redrawn W5 dqV) osV=V at aO⊢;have gf:=aO.out.size;clear c0 c1 c2 c3 c4 c5 c6 c7 c8 t0 t1 t2 t3 t4;clear heq;go_wp2_with fail;go_ret;exact⟨by rw[HF.out];rfl,fq.out.trans (aO.out.mono fq.out.size)⟩
        ·have heq:∀W,(Op.equalIn 10000 99 (.agg (fx kL.toNat p1 p2 p3)) (.agg #[.int .i64 kL,.int .i64 kx,.int .i64 ky,.int .i64 kz])).run Tryz.prog W=.ok true W:=nu (aK kL.toNat ⟨p0,p1,p2,p3,p4,p5,p6,p7,p8⟩) ⟨kL,kx,ky,kz⟩ true hcb.symm;have Gm:=ae (Jc.out (of_decide_eq_true hcb) o4.out);clear hcb;go_wp2_with fail;refine wp_region_quiet_below (by kernel_rfl) (by kernel_rfl) ?_
         repeat(first|go_big_quiet_step ((go_at_call 93;with_reducible exact Calls.regrown_of (rR.out _))) |quiet_step ((go_at_call 93;with_reducible exact Calls.regrown_of (rR.out _))))
         refine wpQuiet_nil ?_;intro _ hw';obtain⟨⟨dqV,osV⟩,hw2⟩:=hw';subst hw2;have aO:=ae (below_regrown W5 dqV osV);generalize Sort.grow (redrawn W5 dqV) osV=V at aO⊢;have gf:=aO.out.size;clear c0 c1 c2 c3 c4 c5 c6 c7 c8 t0 t1 t2 t3 t4;clear heq;go_wp2_with fail;exact⟨⟨i+1,by omega,by go_num,Gm.out,dQ.out.trans (aO.out.mono dQ.out.size)⟩,by simp[intOf];omega⟩
     ·obtain rfl:i=n:=by omega
      have d1:decide ((i:Int)<(i:Int))=false:=by simp
      have HF:=ae (gP.out (fU.done (by rw[<-HN.out];exact HST.out) HK.out Mt.out HG.out));go_wp2_with fail;go_ret;exact⟨by rw[HF.out];rfl,Da.out⟩
open Go.RowKit
section
variable {S:List Pt} {c:Nat} {T:List Tl}
end
open Go.RowKit
def gT (R:List Int) (p:Pt):Bool:=R.any (fun z=>z == p.id)
theorem yp {R:List Int} {p:Pt} :gT R p=true↔p.id∈R:=by
 unfold gT;rw[List.any_eq_true];constructor
 ·rintro⟨z,h1,h2⟩;rw[beq_iff_eq] at h2;exact h2▸h1
 ·intro h;exact⟨_,h,beq_iff_eq.2 rfl⟩
def aX (P:List Pt) (R:List Int):List Pt:=P.filter (fun p=> !gT R p)
theorem jt {P:List Pt} {R:List Int} {p:Pt} :p∈aX P R↔p∈P/\p.id∉R:=by
 unfold aX;rw[List.mem_filter,Bool.not_eq_true',Bool.eq_false_iff,Ne,yp]
theorem yl (P:List Pt):aX P []=P:=by
 unfold aX;rw[List.filter_eq_self];intro p _;rfl
theorem vh {P:List Pt} {R:List Int} {i:Nat} {z:Int} (h:R[i]? =some z):aX P (R.take (i+1))=(aX P (R.take i)).filter (fun p=> !(z == p.id)):=by
 unfold aX;rw[List.filter_filter,aH h];congr 1;funext p;unfold gT;rw[List.any_append];simp[Bool.and_comm]
def cn (P:List Pt) (R:List Int):Prop:=(∀z∈R,∃p∈P,p.id=z)/\R.Pairwise (fun a b=>a≠b)
instance (P:List Pt) (R:List Int):Decidable (cn P R):=by unfold cn;exact inferInstance
def dH (P A:List Pt) (R:List Int):Prop:=∀a∈A,∀p∈aX P R,p.id≠a.id
instance (P A:List Pt) (R:List Int):Decidable (dH P A R):=by unfold dH;exact inferInstance
def bA (P A:List Pt) (R:List Int):Int:=if cn P R then(if dH P A R then(if(aX P R).length +A.length<=1024 then 0 else 86) else 84) else 85
theorem el {P A:List Pt} {R:List Int} (h:¬cn P R):bA P A R=85:=by unfold bA;rw[if_neg h]
theorem fV {P A:List Pt} {R:List Int} (h:cn P R) (h2:¬dH P A R):bA P A R=84:=by unfold bA;rw[if_pos h,if_neg h2]
theorem gJ {P A:List Pt} {R:List Int} (h:cn P R) (h2:dH P A R) (h3:¬(aX P R).length +A.length<=1024):bA P A R=86:=by unfold bA;rw[if_pos h,if_pos h2,if_neg h3]
theorem me {P A:List Pt} {R:List Int} (h:cn P R) (h2:dH P A R) (h3:(aX P R).length +A.length<=1024):bA P A R=0:=by unfold bA;rw[if_pos h,if_pos h2,if_pos h3]
theorem pm {P A:List Pt} {R:List Int} (h:bA P A R=0):cn P R/\dH P A R/\(aX P R).length +A.length<=1024:=by
 by_cases h1:cn P R
 ·by_cases h2:dH P A R
  ·by_cases h3:(aX P R).length +A.length<=1024
   ·exact⟨h1,h2,h3⟩
   ·rw[gJ h1 h2 h3] at h;simp at h
  ·rw[fV h1 h2] at h;simp at h
 ·rw[el h1] at h;simp at h
structure aM (P A:List Pt) (R:List Int) (e:Int) (L:List Pt):Prop where
 err:e=bA P A R
 none:e≠0->L=[]
 perm:e=0->L.Perm (A++aX P R)
 asc:e=0->L.Pairwise (fun p q=>¬q.id<p.id)
section
variable {P A:List Pt} {R:List Int}
theorem kr (hP:bQ P=true) (hA:bQ A=true) (h:bA P A R=0):bQ (A++aX P R)=true:=by
 obtain⟨_,h2,h3⟩:=pm h;obtain⟨_,p2,p3⟩:=(cS P).1 hP;obtain⟨_,a2,a3⟩:=(cS A).1 hA;rw[cS];refine⟨by rw[List.length_append];omega,fun p hp=>?_,?_⟩
 ·rcases List.mem_append.1 hp with g|g
  ·exact a2 p g
  ·exact p2 p (jt.1 g).1
 ·rw[List.pairwise_append];exact⟨a3,p3.filter _,fun a ha p hp e=>h2 a ha p hp e.symm⟩
theorem aM.good {e:Int} {L:List Pt} (h:aM P A R e L) (hP:bQ P=true) (hA:bQ A=true) (he:e=0):bQ L=true:=
 kC (h.perm he).symm (kr hP hA (h.err▸he))
theorem aM.same {e e':Int} {L L':List Pt} (h:aM P A R e L) (h':aM P A R e' L') (hP:bQ P=true) (hA:bQ A=true):e=e'/\L=L':=by
 obtain rfl:e=e':=h.err.trans h'.err.symm;refine⟨rfl,?_⟩;by_cases h0:e=0
 ·have hd:=((cS _).1 (kr (R:=R) hP hA (h.err▸h0))).2.2;exact CF (nM (h.perm h0) hd (h.asc h0)) (nM (h'.perm h0) hd (h'.asc h0)) (fun p=>by rw[(h.perm h0).mem_iff,(h'.perm h0).mem_iff])
 ·rw[h.none h0,h'.none h0]
theorem aM.bad {e:Int} (h:bA P A R=e) (he:e≠0):aM P A R e []:=⟨h.symm,fun _=>rfl,fun h0=>absurd h0 he,fun h0=>absurd h0 he⟩
theorem aM.ok {L:List Pt} (h:bA P A R=0) (hp:L.Perm (A++aX P R)) (ha:L.Pairwise (fun p q=>¬q.id<p.id)):aM P A R 0 L:=⟨h.symm,fun h0=>absurd rfl h0,fun _=>hp,fun _=>ha⟩
theorem cn.nil:cn P []:=⟨fun z h=>by simp at h,List.Pairwise.nil⟩
theorem cn.next {i:Nat} {z:Int} (h:cn P (R.take i)) (hz:R[i]? =some z) (hp:∃p∈aX P (R.take i),p.id=z):cn P (R.take (i+1)):=by
 obtain⟨p,hp1,rfl⟩:=hp;obtain⟨hp2,hp3⟩:=jt.1 hp1;refine⟨?_,?_⟩
 ·rw[aH hz];intro u hu
  rcases List.mem_append.1 hu with g|g
  ·exact h.1 u g
  ·obtain rfl:=List.mem_singleton.1 g;exact⟨p,hp2,rfl⟩
 ·rw[aH hz,List.pairwise_append];refine⟨h.2,List.pairwise_singleton _ _,fun a ha b hb e=>?_⟩;obtain rfl:=List.mem_singleton.1 hb;exact hp3 (e▸ha)
theorem cn.stop {i:Nat} {z:Int} (hz:R[i]? =some z) (hp:¬ ∃p∈aX P (R.take i),p.id=z):¬cn P R:=fun h=>by
 obtain⟨p,hp1,hp2⟩:=h.1 z (List.mem_of_getElem? hz);refine hp ⟨p,jt.2 ⟨hp1,fun hm=>?_⟩,hp2⟩;rw[hp2] at hm;obtain⟨j,hj,ej⟩:=jm hm;exact ly hj ej hz (fun g=>g rfl) h.2
end
open Go.RowKit Go.Maps Go.Sort
def Pt.ns (p:Pt):List Int:=[p.id,p.x,p.y,p.zl,p.zh,p.wd,p.nm,p.of,p.cl]
theorem Pt.ns_iff {p q:Pt} :p.ns=q.ns↔p=q:=by
 constructor
 ·intro h;obtain⟨⟩:=p;obtain⟨⟩:=q;simp[Pt.ns] at h;simp[h]
 ·rintro rfl;rfl
instance:DecidableEq Pt:=fun _ _=>decidable_of_iff _ Pt.ns_iff
theorem Ko (p q:Pt) (W:World):(Op.equalIn 10000 106 (.agg p.row.toArray) (.agg q.row.toArray)).run Tryz.prog W=.ok (decide (p=q)) W:=by
 obtain⟨p0,p1,p2,p3,p4,p5,p6,p7,p8⟩:=p;obtain⟨q0,q1,q2,q3,q4,q5,q6,q7,q8⟩:=q;have h:=dU Tryz.underlying106 xe (tD [p0,p1,p2,p3,p4,p5,p6,p7,p8]) (tD [q0,q1,q2,q3,q4,q5,q6,q7,q8]) rfl rfl W;rw[jY (by rfl)] at h;refine Eq.trans (show _=_ from h) ?_;congr 1;rw[Bool.eq_iff_iff,decide_eq_true_eq,beq_iff_eq];exact Pt.ns_iff (p:=⟨p0,p1,p2,p3,p4,p5,p6,p7,p8⟩) (q:=⟨q0,q1,q2,q3,q4,q5,q6,q7,q8⟩)
theorem GL (a b:Ky) (W:World):(Op.equalIn 10000 99 (.agg a.row.toArray) (.agg b.row.toArray)).run Tryz.prog W=.ok (decide (a=b)) W:=by
 obtain⟨a0,a1,a2,a3⟩:=a;obtain⟨b0,b1,b2,b3⟩:=b;have h:=dU Tryz.underlying99 wW (tD [a0,a1,a2,a3]) (tD [b0,b1,b2,b3]) rfl rfl W;rw[jY (by rfl)] at h;refine Eq.trans (show _=_ from h) ?_;congr 1;rw[Bool.eq_iff_iff,decide_eq_true_eq,beq_iff_eq];simp
theorem lr {α:Type} {P Q:List α} {k:Nat} {p:α} (h:P.take k=Q.take k) (hp:P[k]? =some p) (hq:Q[k]? =some p):P.take (k+1)=Q.take (k+1):=by
 rw[aH hp,aH hq,h]
theorem iZ {α:Type} {P Q:List α} {k:Nat} {p q:α} (hp:P[k]? =some p) (hq:Q[k]? =some q) (h:p≠q):P≠Q:=fun e=>h (by
 rw[e,hq] at hp
 exact(Option.some.inj hp).symm)
theorem kh {α:Type} {P Q:List α} {n:Nat} (h:P.take n=Q.take n) (h1:n=P.length) (h2:n=Q.length):P=Q:=by
 rw[h1,List.take_length,<-h1,h2,List.take_length] at h;exact h
theorem Gh (va vb:Value) (P Q:List Pt) (w:World) (ha:cj w va P) (hb:cj w vb Q) (hn:P.length<=maxLen):
 Calls Tryz.prog 39 #[va,vb] w fun e w'=>e=.returned (.bool (decide (P=Q)))/\Below w.heap.size w w':=by
 obtain⟨z,hz⟩:∃z,z=decide (P=Q):=⟨_,rfl⟩;rw[<-hz];have gP:=ae (fun h:P=Q=>show z=true by rw[hz];exact decide_eq_true h);have gL:=ae (fun h:P≠Q=>show z=false by rw[hz];exact decide_eq_false h);clear hz;obtain⟨aa,ca,rfl,ha2⟩:=ha;obtain⟨ab,cb,rfl,hb2⟩:=hb;obtain⟨n,hnl⟩:∃n,n=P.length:=⟨_,rfl⟩;obtain⟨m,hml⟩:∃m,m=Q.length:=⟨_,rfl⟩;rw[<-hnl] at hn⊢;rw[<-hml];have js:=ae hnl;have Aa:=ae hml;have HA:=ae ha2;have HB:=ae hb2;have AT:n<=9223372036854775807:=by unfold maxLen at hn;omega
 clear hnl hml ha2 hb2 hn;by_cases hnm:n=m
 ·subst hnm;go_enter Tryz.func39,Tryz.ntmps39;go_wp2_with fail
  go_loopw [13] (fun iv W=>∃k:Nat,k<=n/\iv=.int .i64 (k:Int)/\P.take k=Q.take k/\Below w.heap.size w W) (fun iv _=>n-(intOf iv).toNat)
  case atStart=>exact⟨0,by omega,rfl,rfl,Below.refl _ _⟩
  case round=>
   obtain⟨k,hk,rfl,hsame,hB⟩:=hrel;have HS:=ae hsame;have aA:=ae hB;have hzw:=hB.size;clear hsame hB;by_cases hlt:k<n
   ·obtain⟨p,hp⟩:∃p,P[k]? =some p:=⟨_,List.getElem?_eq_getElem (by rw[<-js.out];exact hlt)⟩;obtain⟨q,hq⟩:∃q,Q[k]? =some q:=⟨_,List.getElem?_eq_getElem (by rw[<-Aa.out];exact hlt)⟩;obtain⟨b1,o1,rfl,hb1,hr1⟩:=HA.out.resolve_left (fun h=>by rw[h] at hp;simp at hp);obtain⟨b2,o2,rfl,mV,hr2⟩:=HB.out.resolve_left (fun h=>by rw[h] at hq;simp at hq);have hc1:∀j,j<9->wr.cell? ⟨b1,o1+k*9+j,none⟩=some (.int .i64 (p.f j)):=fun j hj=>by
     rw[aA.out.cell hb1,hr1 k p.row (by rw[List.getElem?_map,hp];rfl) j hj,Pt.row_at p j hj]
    have hc2:∀j,j<9->wr.cell? ⟨b2,o2+k*9+j,none⟩=some (.int .i64 (q.f j)):=fun j hj=>by
     rw[aA.out.cell mV,hr2 k q.row (by rw[List.getElem?_map,hq];rfl) j hj,Pt.row_at q j hj]
    have ib:=ae hp;have Cn:=ae hq;have heq:=fun W=>Ko p q W
    have rP:=ae (fun h:decide (p=q)=true=>show P.take (k+1)=Q.take (k+1) from lr HS.out ib.out ((of_decide_eq_true h)▸Cn.out));have mO:=ae (fun h:decide (p=q)=false=>show z=false from gL.out (iZ ib.out Cn.out (of_decide_eq_false h)));clear ib Cn hp hq hr1 hr2 hb1 mV;generalize decide (p=q)=bq at heq rP mO;obtain⟨p0,p1,p2,p3,p4,p5,p6,p7,p8⟩:=p;obtain⟨q0,q1,q2,q3,q4,q5,q6,q7,q8⟩:=q;simp only[Pt.row] at heq;have d3:decide ((k:Int)<(n:Int))=true:=decide_eq_true (by omega);have hk0:(0:Int)<=(k:Int):=by omega
    have a0:=fun d os=>cell_regrown (show wr.cell? ⟨b1,o1+k*9,none⟩=some (.int .i64 p0) from hc1 0 (by decide)) d os
    have a1:=fun d os=>cell_regrown (show wr.cell? ⟨b1,o1+k*9+1,none⟩=some (.int .i64 p1) from hc1 1 (by decide)) d os
    have a2:=fun d os=>cell_regrown (show wr.cell? ⟨b1,o1+k*9+2,none⟩=some (.int .i64 p2) from hc1 2 (by decide)) d os
    have a3:=fun d os=>cell_regrown (show wr.cell? ⟨b1,o1+k*9+3,none⟩=some (.int .i64 p3) from hc1 3 (by decide)) d os
    have a4:=fun d os=>cell_regrown (show wr.cell? ⟨b1,o1+k*9+4,none⟩=some (.int .i64 p4) from hc1 4 (by decide)) d os
    have a5:=fun d os=>cell_regrown (show wr.cell? ⟨b1,o1+k*9+5,none⟩=some (.int .i64 p5) from hc1 5 (by decide)) d os
    have a6:=fun d os=>cell_regrown (show wr.cell? ⟨b1,o1+k*9+6,none⟩=some (.int .i64 p6) from hc1 6 (by decide)) d os
    have a7:=fun d os=>cell_regrown (show wr.cell? ⟨b1,o1+k*9+7,none⟩=some (.int .i64 p7) from hc1 7 (by decide)) d os
    have a8:=fun d os=>cell_regrown (show wr.cell? ⟨b1,o1+k*9+8,none⟩=some (.int .i64 p8) from hc1 8 (by decide)) d os
    have b0:=fun d os=>cell_regrown (show wr.cell? ⟨b2,o2+k*9,none⟩=some (.int .i64 q0) from hc2 0 (by decide)) d os
    have b1':=fun d os=>cell_regrown (show wr.cell? ⟨b2,o2+k*9+1,none⟩=some (.int .i64 q1) from hc2 1 (by decide)) d os
    have b2':=fun d os=>cell_regrown (show wr.cell? ⟨b2,o2+k*9+2,none⟩=some (.int .i64 q2) from hc2 2 (by decide)) d os
    have b3:=fun d os=>cell_regrown (show wr.cell? ⟨b2,o2+k*9+3,none⟩=some (.int .i64 q3) from hc2 3 (by decide)) d os
    have b4:=fun d os=>cell_regrown (show wr.cell? ⟨b2,o2+k*9+4,none⟩=some (.int .i64 q4) from hc2 4 (by decide)) d os
    have b5:=fun d os=>cell_regrown (show wr.cell? ⟨b2,o2+k*9+5,none⟩=some (.int .i64 q5) from hc2 5 (by decide)) d os
    have b6:=fun d os=>cell_regrown (show wr.cell? ⟨b2,o2+k*9+6,none⟩=some (.int .i64 q6) from hc2 6 (by decide)) d os
    have b7:=fun d os=>cell_regrown (show wr.cell? ⟨b2,o2+k*9+7,none⟩=some (.int .i64 q7) from hc2 7 (by decide)) d os
    have b8:=fun d os=>cell_regrown (show wr.cell? ⟨b2,o2+k*9+8,none⟩=some (.int .i64 q8) from hc2 8 (by decide)) d os
    clear hc1 hc2
    cases bq
    ·have HF:=ae (mO.out rfl);clear mO rP;go_wp2_with fail;refine wp_region_quiet_below (by kernel_rfl) (by kernel_rfl) ?_
     repeat(first|go_big_quiet_step (fail) |quiet_step (fail))
     refine wpQuiet_nil ?_;intro _ hw';obtain⟨⟨dqV,osV⟩,hw2⟩:=hw';subst hw2;have aO:=ae (below_regrown wr dqV osV);generalize Sort.grow (redrawn wr dqV) osV=V at aO⊢;have gf:=aO.out.size;have HB3:=ae (aA.out.trans (aO.out.mono hzw));clear a0 a1 a2 a3 a4 a5 a6 a7 a8 b0 b1' b2' b3 b4 b5 b6 b7 b8;go_wp2_with fail;go_ret;exact⟨by rw[HF.out];rfl,HB3.out⟩
    ·have HF:=ae (rP.out rfl);clear mO rP;go_wp2_with fail;refine wp_region_quiet_below (by kernel_rfl) (by kernel_rfl) ?_
     repeat(first|go_big_quiet_step (fail) |quiet_step (fail))
     refine wpQuiet_nil ?_;intro _ hw';obtain⟨⟨dqV,osV⟩,hw2⟩:=hw';subst hw2;have aO:=ae (below_regrown wr dqV osV);generalize Sort.grow (redrawn wr dqV) osV=V at aO⊢;have gf:=aO.out.size;have HB3:=ae (aA.out.trans (aO.out.mono hzw));clear a0 a1 a2 a3 a4 a5 a6 a7 a8 b0 b1' b2' b3 b4 b5 b6 b7 b8;go_wp2_with fail;exact⟨⟨k+1,by omega,by go_num,HF.out,HB3.out⟩,by simp[intOf];omega⟩
   ·obtain rfl:k=n:=by omega
    have d3:decide ((k:Int)<(k:Int))=false:=by simp
    have HF:=ae (gP.out (kh HS.out js.out Aa.out));go_wp2_with fail;go_ret;exact⟨by rw[HF.out];rfl,aA.out⟩
 ·have d1:((n:Int) == (m:Int))=false:=by simp;omega
  have HF:=ae (gL.out (fun h=>hnm (by rw[js.out,Aa.out,h])));go_enter Tryz.func39,Tryz.ntmps39;go_wp2_with fail;go_ret;exact⟨by rw[HF.out];rfl,by(repeat' (first| (with_reducible first|exact Below.refl _ _|assumption|refine Below.alloc ?_ ?_ _|refine Below.drew ?_ |refine below_drewN ?_ _|refine Below.setCell ?_ ?_ _|refine below_setRow ?_ ?_ _) |go_size))⟩
open Go.RowKit Go.Maps
def bW (W:World) (base:Nat) (v:Value) (K:List Ky):Prop:=al W base 99 4 v (K.map Ky.row)
def oz (W:World) (v:Value) (K:List Ky):Prop:=∃a cap,v=.slice a K.length cap/\(K=[]∨∃b off,a=some ⟨b,off,none⟩/\b<W.heap.size/\aB W b off 4 (K.map Ky.row))
theorem Ky.row_one (k:Ky):∀v∈k.row,v.oneCell'=true:=fun v hv=>by
 simp[Ky.row] at hv
 rcases hv with rfl|rfl|rfl|rfl<;>rfl
theorem bW.nil (W:World) (base:Nat):bW W base (.slice none 0 0) []:=al.nil _ _ _ _
theorem bW.slice {W:World} {base:Nat} {v:Value} {K:List Ky} (h:bW W base v K):∃a cap,v=.slice a K.length cap:=by
 have:=al.slice h;rwa[List.length_map] at this
theorem oz.still {W W':World} {v:Value} {K:List Ky} (h:oz W v K) (hb:Below W.heap.size W W'):oz W' v K:=by
 obtain⟨a,cap,h1,h2⟩:=h;refine⟨a,cap,h1,?_⟩
 rcases h2 with h2| ⟨b,off,h3,h4,h5⟩
 ·exact Or.inl h2
 ·exact Or.inr ⟨b,off,h3,Nat.lt_of_lt_of_le h4 hb.size,h5.still hb h4⟩
theorem bW.cells {W:World} {base:Nat} {v:Value} {K:List Ky} (h:bW W base v K) (hn:0<K.length):
 ∃g cap,v=.slice (some ⟨g,0,none⟩) K.length cap/\base<=g/\g<W.heap.size/\∀i k,K[i]? =some k->∀j,j<4->W.cell? ⟨g,i*4+j,none⟩=k.row[j]? :=by
 obtain⟨g,cap,cur,h1,hb,h2,h3,_⟩:=al.rows h (by simpa using hn);rw[List.length_map] at h1;refine⟨g,cap,h1,hb,(Array.getElem?_eq_some_iff.1 h2).1,fun i k hi j hj=>?_⟩;have:=h3 i k.row (by rw[List.getElem?_map,hi];rfl) j hj;rwa[Nat.zero_add] at this
theorem i2 (a b c d:Int):bF 4 [[Value.int .i64 a,.int .i64 b,.int .i64 c,.int .i64 d]]:=bF.one rfl (Ky.row_one ⟨a,b,c,d⟩)
theorem CS:(Tryz.prog.info? 99).map (fun i=>(i.zero,i.size,i.bytes))=some (some (.agg #[.int .i64 0,.int .i64 0,.int .i64 0,.int .i64 0]),4,32):=by kernel_rfl
open Go.ChangeShapes Go.WideShapes Go.RowKit Go.Maps Go.Sort
def py (a b:Ky):Int:=if a.L=b.L then(if a.x=b.x then(if a.y=b.y then(if a.z=b.z then 0 else wrap64 (a.z-b.z)) else wrap64 (a.y-b.y)) else wrap64 (a.x-b.x)) else wrap64 (a.L-b.L)
theorem vl {a b:Ky} (ha:a.small) (hb:b.small):py a b=ik a b:=by
 unfold Ky.small at ha hb;unfold py ik wrap64;by_cases h1:a.L=b.L
 ·rw[if_pos h1,if_pos h1];by_cases h2:a.x=b.x
  ·rw[if_pos h2,if_pos h2];by_cases h3:a.y=b.y
   ·rw[if_pos h3,if_pos h3];by_cases h4:a.z=b.z
    ·rw[if_pos h4,if_pos h4]
    ·rw[if_neg h4,if_neg h4];omega
   ·rw[if_neg h3,if_neg h3];omega
  ·rw[if_neg h2,if_neg h2];omega
 ·rw[if_neg h1,if_neg h1];omega
theorem hZ.small {t:Tl} (h:hZ t):t.key.small:=sy h.key
theorem xy (a b:Ky) (W:World):Calls Tryz.prog 68 #[.agg a.row.toArray,.agg b.row.toArray] W fun e w'=>e=.returned (.int .i64 (py a b))/\ce W w':=by
 obtain⟨aL,ax,ay,az⟩:=a;obtain⟨bL,bx,b_y,bz⟩:=b;have HV:=ae (show py ⟨aL,ax,ay,az⟩ ⟨bL,bx,b_y,bz⟩=if aL=bL then(if ax=bx then(if ay=b_y then(if az=bz then 0 else wrap64 (az-bz)) else wrap64 (ay-b_y)) else wrap64 (ax-bx)) else wrap64 (aL-bL) from rfl);simp only[Ky.row];have hi0:=ug;have hi1:=tp;have hi2:=sU;have PB:=sI;go_enter Tryz.func68,Tryz.ntmps68;go_wp2_with fail;refine wp_loop_rounds 5 ?_;rw[rounds_succ];by_cases h1:aL=bL
 ·subst h1;go_wp2_with fail;rw[rounds_succ];by_cases h2:ax=bx
  ·subst h2;go_wp2_with fail;rw[rounds_succ];by_cases h3:ay=b_y
   ·subst h3;go_wp2_with fail;rw[rounds_succ];by_cases h4:az=bz
    ·subst h4;have HX:=ae (show py ⟨aL,ax,ay,az⟩ ⟨aL,ax,ay,az⟩=0 by rw[HV.out];simp);go_wp2_with fail;rw[rounds_succ];go_wp2_with fail;go_ret;exact⟨by rw[HX.out];rfl,(by repeat' (first|exact ce.refl _|refine ce.alloc ?_ _|refine ce.drewN ?_ _))⟩
    ·have HX:=ae (show py ⟨aL,ax,ay,az⟩ ⟨aL,ax,ay,bz⟩=wrap64 (az-bz) by rw[HV.out];simp[h4]);have d1:(az == bz)=false:=by simp[h4]
     go_wp2_with fail;go_ret;exact⟨by rw[HX.out];rfl,(by repeat' (first|exact ce.refl _|refine ce.alloc ?_ _|refine ce.drewN ?_ _))⟩
   ·have HX:=ae (show py ⟨aL,ax,ay,az⟩ ⟨aL,ax,b_y,bz⟩=wrap64 (ay-b_y) by rw[HV.out];simp[h3]);have d1:(ay == b_y)=false:=by simp[h3]
    go_wp2_with fail;go_ret;exact⟨by rw[HX.out];rfl,(by repeat' (first|exact ce.refl _|refine ce.alloc ?_ _|refine ce.drewN ?_ _))⟩
  ·have HX:=ae (show py ⟨aL,ax,ay,az⟩ ⟨aL,bx,b_y,bz⟩=wrap64 (ax-bx) by rw[HV.out];simp[h2]);have d1:(ax == bx)=false:=by simp[h2]
   go_wp2_with fail;go_ret;exact⟨by rw[HX.out];rfl,(by repeat' (first|exact ce.refl _|refine ce.alloc ?_ _|refine ce.drewN ?_ _))⟩
 ·have HX:=ae (show py ⟨aL,ax,ay,az⟩ ⟨bL,bx,b_y,bz⟩=wrap64 (aL-bL) by rw[HV.out,if_neg h1]);have d1:(aL == bL)=false:=by simp[h1]
  go_wp2_with fail;go_ret;exact⟨by rw[HX.out];rfl,(by repeat' (first|exact ce.refl _|refine ce.alloc ?_ _|refine ce.drewN ?_ _))⟩
open Go.RowKit
structure eM (A B:List Tl) (i j:Nat) (K:List Ky):Prop where
 mem:∀k,k∈K↔(∃t∈A.take i,t.key=k/\t∉B)∨(∃t∈B.take j,t.key=k/\t∉A)
 ne:K.Pairwise (fun a b=>a≠b)
theorem eM.start (A B:List Tl):eM A B 0 0 []:=⟨fun k=>by simp,List.Pairwise.nil⟩
section
variable {A B:List Tl} {i j:Nat} {K:List Ky} {t:Tl}
theorem wL {k:Ky} (h:K.Pairwise (fun a b=>a≠b)) (hk:k∉K):(K++[k]).Pairwise (fun a b=>a≠b):=by
 rw[List.pairwise_append];refine⟨h,List.pairwise_singleton _ _,fun a ha b hb e=>?_⟩;obtain rfl:=List.mem_singleton.1 hb;exact hk (e▸ha)
theorem eM.left_yes (hA:A.Pairwise (fun a b=>a.key.lt b.key)) (h:eM A B i 0 K) (ht:A[i]? =some t) (hn:t∉B):eM A B (i+1) 0 (K++[t.key]):=by
 refine⟨fun k=>?_,wL h.ne (fun hk=>?_)⟩
 ·rw[List.mem_append,h.mem,aH ht,List.mem_singleton];constructor
  ·rintro ((⟨u,g1,g2,g3⟩ | ⟨u,g1,_⟩) |rfl)
   ·exact Or.inl ⟨u,List.mem_append_left _ g1,g2,g3⟩
   ·simp at g1
   ·exact Or.inl ⟨t,List.mem_append_right _ (List.mem_singleton.2 rfl),rfl,hn⟩
  ·rintro (⟨u,g1,g2,g3⟩ | ⟨u,g1,_⟩)
   ·rcases List.mem_append.1 g1 with g|g
    ·exact Or.inl (Or.inl ⟨u,g,g2,g3⟩)
    ·obtain rfl:=List.mem_singleton.1 g;exact Or.inr g2.symm
   ·simp at g1
 ·rcases(h.mem _).1 hk with⟨u,g1,g2,_⟩ | ⟨u,g1,_⟩
  ·have:=oK hA ht u g1;rw[g2] at this;exact Ky.lt_irrefl _ this
  ·simp at g1
theorem eM.left_no (h:eM A B i 0 K) (ht:A[i]? =some t) (hn:t∈B):eM A B (i+1) 0 K:=by
 refine⟨fun k=>?_,h.ne⟩;rw[h.mem,aH ht];constructor
 ·rintro (⟨u,g1,g2,g3⟩ | ⟨u,g1,_⟩)
  ·exact Or.inl ⟨u,List.mem_append_left _ g1,g2,g3⟩
  ·simp at g1
 ·rintro (⟨u,g1,g2,g3⟩ | ⟨u,g1,_⟩)
  ·rcases List.mem_append.1 g1 with g|g
   ·exact Or.inl ⟨u,g,g2,g3⟩
   ·obtain rfl:=List.mem_singleton.1 g;exact absurd hn g3
  ·simp at g1
theorem eM.right_no (h:eM A B i j K) (ht:B[j]? =some t) (hn:t.key∈K∨t∈A):eM A B i (j+1) K:=by
 refine⟨fun k=>?_,h.ne⟩;constructor
 ·intro hk
  rcases(h.mem k).1 hk with g| ⟨u,g1,g2,g3⟩
  ·exact Or.inl g
  ·exact Or.inr ⟨u,by rw[aH ht];exact List.mem_append_left _ g1,g2,g3⟩
 ·rintro (g| ⟨u,g1,g2,g3⟩)
  ·exact(h.mem k).2 (Or.inl g)
  ·rw[aH ht] at g1
   rcases List.mem_append.1 g1 with g|g
   ·exact(h.mem k).2 (Or.inr ⟨u,g,g2,g3⟩)
   ·obtain rfl:=List.mem_singleton.1 g
    rcases hn with hn|hn
    ·exact g2▸hn
    ·exact absurd hn g3
theorem eM.right_yes (h:eM A B i j K) (ht:B[j]? =some t) (hk:t.key∉K) (hn:t∉A):eM A B i (j+1) (K++[t.key]):=by
 refine⟨fun k=>?_,wL h.ne hk⟩;rw[List.mem_append,h.mem,aH ht,List.mem_singleton];constructor
 ·rintro ((g| ⟨u,g1,g2,g3⟩) |rfl)
  ·exact Or.inl g
  ·exact Or.inr ⟨u,List.mem_append_left _ g1,g2,g3⟩
  ·exact Or.inr ⟨t,List.mem_append_right _ (List.mem_singleton.2 rfl),rfl,hn⟩
 ·rintro (g| ⟨u,g1,g2,g3⟩)
  ·exact Or.inl (Or.inl g)
  ·rcases List.mem_append.1 g1 with g|g
   ·exact Or.inl (Or.inr ⟨u,g,g2,g3⟩)
   ·obtain rfl:=List.mem_singleton.1 g;exact Or.inr g2.symm
theorem Ky.lt_of {a b:Ky} (h:¬b.lt a) (hne:a≠b):a.lt b:=by
 have:¬(a.L=b.L/\a.x=b.x/\a.y=b.y/\a.z=b.z):=fun⟨h1,h2,h3,h4⟩=>hne (Ky.ext' h1 h2 h3 h4)
 unfold Ky.lt at*;omega
theorem eM.done (h:eM A B A.length B.length K) {K':List Ky} (hp:K'.Perm K) (hs:K'.Pairwise (fun a b=>¬b.lt a)):jg A B K':=by
 have hne:=(hp.pairwise_iff (R:=fun a b:Ky=>a≠b) (fun {_ _} e=>Ne.symm e)).2 h.ne;refine⟨(hs.and hne).imp (fun g=>Ky.lt_of g.1 g.2),fun k=>?_⟩;rw[hp.mem_iff,h.mem,List.take_length,List.take_length];rfl
end
open Go.RowKit Go.Maps Go.Sort
theorem yY (va vb:Value) (P Q:List Pt) (w:World) (ha:cj w va P) (hb:cj w vb Q) (hn:P.length<=maxLen):
 Calls Tryz.prog 95 #[va,vb] w fun e w'=>e=.returned (.bool (decide (P=Q)))/\Below w.heap.size w w':=by
 obtain⟨z,hz⟩:∃z,z=decide (P=Q):=⟨_,rfl⟩;rw[<-hz];have gP:=ae (fun h:P=Q=>show z=true by rw[hz];exact decide_eq_true h);have gL:=ae (fun h:P≠Q=>show z=false by rw[hz];exact decide_eq_false h);clear hz;obtain⟨aa,ca,rfl,ha2⟩:=ha;obtain⟨ab,cb,rfl,hb2⟩:=hb;obtain⟨n,hnl⟩:∃n,n=P.length:=⟨_,rfl⟩;obtain⟨m,hml⟩:∃m,m=Q.length:=⟨_,rfl⟩;rw[<-hnl] at hn⊢;rw[<-hml];have js:=ae hnl;have Aa:=ae hml;have HA:=ae ha2;have HB:=ae hb2;have AT:n<=9223372036854775807:=by unfold maxLen at hn;omega
 clear hnl hml ha2 hb2 hn;by_cases hnm:n=m
 ·subst hnm;go_enter Tryz.func95,Tryz.ntmps95;go_wp2_with fail
  go_loopw [13] (fun iv W=>∃k:Nat,k<=n/\iv=.int .i64 (k:Int)/\P.take k=Q.take k/\Below w.heap.size w W) (fun iv _=>n-(intOf iv).toNat)
  case atStart=>exact⟨0,by omega,rfl,rfl,Below.refl _ _⟩
  case round=>
   obtain⟨k,hk,rfl,hsame,hB⟩:=hrel;have HS:=ae hsame;have aA:=ae hB;have hzw:=hB.size;clear hsame hB;by_cases hlt:k<n
   ·obtain⟨p,hp⟩:∃p,P[k]? =some p:=⟨_,List.getElem?_eq_getElem (by rw[<-js.out];exact hlt)⟩;obtain⟨q,hq⟩:∃q,Q[k]? =some q:=⟨_,List.getElem?_eq_getElem (by rw[<-Aa.out];exact hlt)⟩;obtain⟨b1,o1,rfl,hb1,hr1⟩:=HA.out.resolve_left (fun h=>by rw[h] at hp;simp at hp);obtain⟨b2,o2,rfl,mV,hr2⟩:=HB.out.resolve_left (fun h=>by rw[h] at hq;simp at hq);have hc1:∀j,j<9->wr.cell? ⟨b1,o1+k*9+j,none⟩=some (.int .i64 (p.f j)):=fun j hj=>by
     rw[aA.out.cell hb1,hr1 k p.row (by rw[List.getElem?_map,hp];rfl) j hj,Pt.row_at p j hj]
    have hc2:∀j,j<9->wr.cell? ⟨b2,o2+k*9+j,none⟩=some (.int .i64 (q.f j)):=fun j hj=>by
     rw[aA.out.cell mV,hr2 k q.row (by rw[List.getElem?_map,hq];rfl) j hj,Pt.row_at q j hj]
    have ib:=ae hp;have Cn:=ae hq;have heq:=fun W=>Ko p q W
    have rP:=ae (fun h:decide (p=q)=true=>show P.take (k+1)=Q.take (k+1) from lr HS.out ib.out ((of_decide_eq_true h)▸Cn.out));have mO:=ae (fun h:decide (p=q)=false=>show z=false from gL.out (iZ ib.out Cn.out (of_decide_eq_false h)));clear ib Cn hp hq hr1 hr2 hb1 mV;generalize decide (p=q)=bq at heq rP mO;obtain⟨p0,p1,p2,p3,p4,p5,p6,p7,p8⟩:=p;obtain⟨q0,q1,q2,q3,q4,q5,q6,q7,q8⟩:=q;simp only[Pt.row] at heq;have d3:decide ((k:Int)<(n:Int))=true:=decide_eq_true (by omega);have hk0:(0:Int)<=(k:Int):=by omega
    have a0:=fun d os=>cell_regrown (show wr.cell? ⟨b1,o1+k*9,none⟩=some (.int .i64 p0) from hc1 0 (by decide)) d os
    have a1:=fun d os=>cell_regrown (show wr.cell? ⟨b1,o1+k*9+1,none⟩=some (.int .i64 p1) from hc1 1 (by decide)) d os
    have a2:=fun d os=>cell_regrown (show wr.cell? ⟨b1,o1+k*9+2,none⟩=some (.int .i64 p2) from hc1 2 (by decide)) d os
    have a3:=fun d os=>cell_regrown (show wr.cell? ⟨b1,o1+k*9+3,none⟩=some (.int .i64 p3) from hc1 3 (by decide)) d os
    have a4:=fun d os=>cell_regrown (show wr.cell? ⟨b1,o1+k*9+4,none⟩=some (.int .i64 p4) from hc1 4 (by decide)) d os
    have a5:=fun d os=>cell_regrown (show wr.cell? ⟨b1,o1+k*9+5,none⟩=some (.int .i64 p5) from hc1 5 (by decide)) d os
    have a6:=fun d os=>cell_regrown (show wr.cell? ⟨b1,o1+k*9+6,none⟩=some (.int .i64 p6) from hc1 6 (by decide)) d os
    have a7:=fun d os=>cell_regrown (show wr.cell? ⟨b1,o1+k*9+7,none⟩=some (.int .i64 p7) from hc1 7 (by decide)) d os
    have a8:=fun d os=>cell_regrown (show wr.cell? ⟨b1,o1+k*9+8,none⟩=some (.int .i64 p8) from hc1 8 (by decide)) d os
    have b0:=fun d os=>cell_regrown (show wr.cell? ⟨b2,o2+k*9,none⟩=some (.int .i64 q0) from hc2 0 (by decide)) d os
    have b1':=fun d os=>cell_regrown (show wr.cell? ⟨b2,o2+k*9+1,none⟩=some (.int .i64 q1) from hc2 1 (by decide)) d os
    have b2':=fun d os=>cell_regrown (show wr.cell? ⟨b2,o2+k*9+2,none⟩=some (.int .i64 q2) from hc2 2 (by decide)) d os
    have b3:=fun d os=>cell_regrown (show wr.cell? ⟨b2,o2+k*9+3,none⟩=some (.int .i64 q3) from hc2 3 (by decide)) d os
    have b4:=fun d os=>cell_regrown (show wr.cell? ⟨b2,o2+k*9+4,none⟩=some (.int .i64 q4) from hc2 4 (by decide)) d os
    have b5:=fun d os=>cell_regrown (show wr.cell? ⟨b2,o2+k*9+5,none⟩=some (.int .i64 q5) from hc2 5 (by decide)) d os
    have b6:=fun d os=>cell_regrown (show wr.cell? ⟨b2,o2+k*9+6,none⟩=some (.int .i64 q6) from hc2 6 (by decide)) d os
    have b7:=fun d os=>cell_regrown (show wr.cell? ⟨b2,o2+k*9+7,none⟩=some (.int .i64 q7) from hc2 7 (by decide)) d os
    have b8:=fun d os=>cell_regrown (show wr.cell? ⟨b2,o2+k*9+8,none⟩=some (.int .i64 q8) from hc2 8 (by decide)) d os
    clear hc1 hc2
    cases bq
    ·have HF:=ae (mO.out rfl);clear mO rP;go_wp2_with fail;refine wp_region_quiet_below (by kernel_rfl) (by kernel_rfl) ?_
     repeat(first|go_big_quiet_step (fail) |quiet_step (fail))
     refine wpQuiet_nil ?_;intro _ hw';obtain⟨⟨dqV,osV⟩,hw2⟩:=hw';subst hw2;have aO:=ae (below_regrown wr dqV osV);generalize Sort.grow (redrawn wr dqV) osV=V at aO⊢;have gf:=aO.out.size;have HB3:=ae (aA.out.trans (aO.out.mono hzw));clear a0 a1 a2 a3 a4 a5 a6 a7 a8 b0 b1' b2' b3 b4 b5 b6 b7 b8;go_wp2_with fail;go_ret;exact⟨by rw[HF.out];rfl,HB3.out⟩
    ·have HF:=ae (rP.out rfl);clear mO rP;go_wp2_with fail;refine wp_region_quiet_below (by kernel_rfl) (by kernel_rfl) ?_
     repeat(first|go_big_quiet_step (fail) |quiet_step (fail))
     refine wpQuiet_nil ?_;intro _ hw';obtain⟨⟨dqV,osV⟩,hw2⟩:=hw';subst hw2;have aO:=ae (below_regrown wr dqV osV);generalize Sort.grow (redrawn wr dqV) osV=V at aO⊢;have gf:=aO.out.size;have HB3:=ae (aA.out.trans (aO.out.mono hzw));clear a0 a1 a2 a3 a4 a5 a6 a7 a8 b0 b1' b2' b3 b4 b5 b6 b7 b8;go_wp2_with fail;exact⟨⟨k+1,by omega,by go_num,HF.out,HB3.out⟩,by simp[intOf];omega⟩
   ·obtain rfl:k=n:=by omega
    have d3:decide ((k:Int)<(k:Int))=false:=by simp
    have HF:=ae (gP.out (kh HS.out js.out Aa.out));go_wp2_with fail;go_ret;exact⟨by rw[HF.out];rfl,aA.out⟩
 ·have d1:((n:Int) == (m:Int))=false:=by simp;omega
  have HF:=ae (gL.out (fun h=>hnm (by rw[js.out,Aa.out,h])));go_enter Tryz.func95,Tryz.ntmps95;go_wp2_with fail;go_ret;exact⟨by rw[HF.out];rfl,by(repeat' (first| (with_reducible first|exact Below.refl _ _|assumption|refine Below.alloc ?_ ?_ _|refine Below.drew ?_ |refine below_drewN ?_ _|refine Below.setCell ?_ ?_ _|refine below_setRow ?_ ?_ _) |go_size))⟩
theorem rA (va vb:Value) (P Q:List Ky) (w:World) (ha:oz w va P) (hb:oz w vb Q) (hn:P.length<=maxLen):
 Calls Tryz.prog 44 #[va,vb] w fun e w'=>e=.returned (.bool (decide (P=Q)))/\Below w.heap.size w w':=by
 obtain⟨z,hz⟩:∃z,z=decide (P=Q):=⟨_,rfl⟩;rw[<-hz];have gP:=ae (fun h:P=Q=>show z=true by rw[hz];exact decide_eq_true h);have gL:=ae (fun h:P≠Q=>show z=false by rw[hz];exact decide_eq_false h);clear hz;obtain⟨aa,ca,rfl,ha2⟩:=ha;obtain⟨ab,cb,rfl,hb2⟩:=hb;obtain⟨n,hnl⟩:∃n,n=P.length:=⟨_,rfl⟩;obtain⟨m,hml⟩:∃m,m=Q.length:=⟨_,rfl⟩;rw[<-hnl] at hn⊢;rw[<-hml];have js:=ae hnl;have Aa:=ae hml;have HA:=ae ha2;have HB:=ae hb2;have AT:n<=9223372036854775807:=by unfold maxLen at hn;omega
 clear hnl hml ha2 hb2 hn;by_cases hnm:n=m
 ·subst hnm;go_enter Tryz.func44,Tryz.ntmps44;go_wp2_with fail
  go_loopw [13] (fun iv W=>∃k:Nat,k<=n/\iv=.int .i64 (k:Int)/\P.take k=Q.take k/\Below w.heap.size w W) (fun iv _=>n-(intOf iv).toNat)
  case atStart=>exact⟨0,by omega,rfl,rfl,Below.refl _ _⟩
  case round=>
   obtain⟨k,hk,rfl,hsame,hB⟩:=hrel;have HS:=ae hsame;have aA:=ae hB;have hzw:=hB.size;clear hsame hB;by_cases hlt:k<n
   ·obtain⟨p,hp⟩:∃p,P[k]? =some p:=⟨_,List.getElem?_eq_getElem (by rw[<-js.out];exact hlt)⟩;obtain⟨q,hq⟩:∃q,Q[k]? =some q:=⟨_,List.getElem?_eq_getElem (by rw[<-Aa.out];exact hlt)⟩;obtain⟨b1,o1,rfl,hb1,hr1⟩:=HA.out.resolve_left (fun h=>by rw[h] at hp;simp at hp);obtain⟨b2,o2,rfl,mV,hr2⟩:=HB.out.resolve_left (fun h=>by rw[h] at hq;simp at hq);have hc1:∀j,j<4->wr.cell? ⟨b1,o1+k*4+j,none⟩=p.row[j]? :=fun j hj=>by
     rw[aA.out.cell hb1,hr1 k p.row (by rw[List.getElem?_map,hp];rfl) j hj]
    have hc2:∀j,j<4->wr.cell? ⟨b2,o2+k*4+j,none⟩=q.row[j]? :=fun j hj=>by
     rw[aA.out.cell mV,hr2 k q.row (by rw[List.getElem?_map,hq];rfl) j hj]
    have ib:=ae hp;have Cn:=ae hq;have heq:=fun W=>GL p q W
    have rP:=ae (fun h:decide (p=q)=true=>show P.take (k+1)=Q.take (k+1) from lr HS.out ib.out ((of_decide_eq_true h)▸Cn.out));have mO:=ae (fun h:decide (p=q)=false=>show z=false from gL.out (iZ ib.out Cn.out (of_decide_eq_false h)));clear ib Cn hp hq hr1 hr2 hb1 mV;generalize decide (p=q)=bq at heq rP mO;obtain⟨p0,p1,p2,p3⟩:=p;obtain⟨q0,q1,q2,q3⟩:=q;simp only[Ky.row] at heq;have d3:decide ((k:Int)<(n:Int))=true:=decide_eq_true (by omega);have hk0:(0:Int)<=(k:Int):=by omega
    have a0:=fun d os=>cell_regrown (show wr.cell? ⟨b1,o1+k*4,none⟩=some (.int .i64 p0) from hc1 0 (by decide)) d os
    have a1:=fun d os=>cell_regrown (show wr.cell? ⟨b1,o1+k*4+1,none⟩=some (.int .i64 p1) from hc1 1 (by decide)) d os
    have a2:=fun d os=>cell_regrown (show wr.cell? ⟨b1,o1+k*4+2,none⟩=some (.int .i64 p2) from hc1 2 (by decide)) d os
    have a3:=fun d os=>cell_regrown (show wr.cell? ⟨b1,o1+k*4+3,none⟩=some (.int .i64 p3) from hc1 3 (by decide)) d os
    have b0:=fun d os=>cell_regrown (show wr.cell? ⟨b2,o2+k*4,none⟩=some (.int .i64 q0) from hc2 0 (by decide)) d os
    have b1':=fun d os=>cell_regrown (show wr.cell? ⟨b2,o2+k*4+1,none⟩=some (.int .i64 q1) from hc2 1 (by decide)) d os
    have b2':=fun d os=>cell_regrown (show wr.cell? ⟨b2,o2+k*4+2,none⟩=some (.int .i64 q2) from hc2 2 (by decide)) d os
    have b3:=fun d os=>cell_regrown (show wr.cell? ⟨b2,o2+k*4+3,none⟩=some (.int .i64 q3) from hc2 3 (by decide)) d os
    clear hc1 hc2
    cases bq
    ·have HF:=ae (mO.out rfl);clear mO rP;go_wp2_with fail;refine wp_region_quiet_below (by kernel_rfl) (by kernel_rfl) ?_
     repeat(first|go_big_quiet_step (fail) |quiet_step (fail))
     refine wpQuiet_nil ?_;intro _ hw';obtain⟨⟨dqV,osV⟩,hw2⟩:=hw';subst hw2;have aO:=ae (below_regrown wr dqV osV);generalize Sort.grow (redrawn wr dqV) osV=V at aO⊢;have gf:=aO.out.size;have HB3:=ae (aA.out.trans (aO.out.mono hzw));clear a0 a1 a2 a3 b0 b1' b2' b3;go_wp2_with fail;go_ret;exact⟨by rw[HF.out];rfl,HB3.out⟩
    ·have HF:=ae (rP.out rfl);clear mO rP;go_wp2_with fail;refine wp_region_quiet_below (by kernel_rfl) (by kernel_rfl) ?_
     repeat(first|go_big_quiet_step (fail) |quiet_step (fail))
     refine wpQuiet_nil ?_;intro _ hw';obtain⟨⟨dqV,osV⟩,hw2⟩:=hw';subst hw2;have aO:=ae (below_regrown wr dqV osV);generalize Sort.grow (redrawn wr dqV) osV=V at aO⊢;have gf:=aO.out.size;have HB3:=ae (aA.out.trans (aO.out.mono hzw));clear a0 a1 a2 a3 b0 b1' b2' b3;go_wp2_with fail;exact⟨⟨k+1,by omega,by go_num,HF.out,HB3.out⟩,by simp[intOf];omega⟩
   ·obtain rfl:k=n:=by omega
    have d3:decide ((k:Int)<(k:Int))=false:=by simp
    have HF:=ae (gP.out (kh HS.out js.out Aa.out));go_wp2_with fail;go_ret;exact⟨by rw[HF.out];rfl,aA.out⟩
 ·have d1:((n:Int) == (m:Int))=false:=by simp;omega
  have HF:=ae (gL.out (fun h=>hnm (by rw[js.out,Aa.out,h])));go_enter Tryz.func44,Tryz.ntmps44;go_wp2_with fail;go_ret;exact⟨by rw[HF.out];rfl,by(repeat' (first| (with_reducible first|exact Below.refl _ _|assumption|refine Below.alloc ?_ ?_ _|refine Below.drew ?_ |refine below_drewN ?_ _|refine Below.setCell ?_ ?_ _|refine below_setRow ?_ ?_ _) |go_size))⟩
open Go.ChangeShapes Go.WideShapes Go.RowKit Go.Maps Go.Sort
instance:DecidableEq Tl:=fun a b=>decidable_of_iff (a.key=b.key/\a.pts=b.pts) ⟨fun h=>by cases a;cases b;cases h.1;cases h.2;rfl,fun h=>h▸⟨rfl,rfl⟩⟩
theorem uh {α:Type} {P:List α} {i:Nat} {p q:α} (h:p∉P.take i) (hq:P[i]? =some q) (hne:q≠p):p∉P.take (i+1):=fun hm=>by
 rw[aH hq] at hm
 rcases List.mem_append.1 hm with g|g
 ·exact h g
 ·exact hne (List.mem_singleton.1 g).symm
theorem qq (va ev:Value) (E:List Te) (ek:Ky) (Q:List Pt) (w:World) (ha:cQ w va E) (hq:cj w ev Q) (hn:E.length<=1000000) (hp:∀e∈E,e.pts.length<=maxLen):
 Calls Tryz.prog 97 #[va,.agg #[.int .i64 ek.L,.int .i64 ek.x,.int .i64 ek.y,.int .i64 ek.z,ev]] w fun e w'=>e=.returned (.bool (decide ((⟨ek,Q⟩:Tl)∉E.map Te.tl)))/\Below w.heap.size w w':=by
 obtain⟨z,hz⟩:∃z,z=decide ((⟨ek,Q⟩:Tl)∉E.map Te.tl):=⟨_,rfl⟩;rw[<-hz];have gP:=ae (fun h:(⟨ek,Q⟩:Tl)∉E.map Te.tl=>show z=true by rw[hz];exact decide_eq_true h);have gL:=ae (fun h:(⟨ek,Q⟩:Tl)∈E.map Te.tl=>show z=false by rw[hz];exact decide_eq_false (fun g=>g h));clear hz;obtain⟨⟨aa,ca,rfl,ha2⟩,hpv⟩:=ha;obtain⟨n,hnl⟩:∃n,n=E.length:=⟨_,rfl⟩;rw[<-hnl] at hn⊢;have js:=ae hnl;have HA:=ae ha2;have o4:=ae hpv;have FL:=ae hp;have HQ:=ae hq;obtain⟨qa,qc,rfl,_⟩:=hq;obtain⟨m,hm⟩:∃m,m=Q.length:=⟨_,rfl⟩;rw[<-hm] at HQ⊢;have heq:=fun a W=>GL a ek W
 clear hnl ha2 hpv hp hm;have RL:=ae (show ek=ek from rfl);obtain⟨k0,k1,k2,k3⟩:=ek;simp only[Ky.row] at heq;go_enter Tryz.func97,Tryz.ntmps97;go_upto_region 2 with fail;refine au (fun W1 hW1=>?_);have FE:=ae (show W1.heap[w.heap.size]? =some (.cells #[.int .i64 k0,.int .i64 k1,.int .i64 k2,.int .i64 k3,.slice qa m qc] 101) by rw[hW1];exact ai _ _ _ rfl);have HB1:=ae (show Below w.heap.size w W1 by rw[hW1];exact(Below.refl _ _).alloc (Nat.le_refl _) _);clear hW1;obtain⟨g,hg⟩:∃g,g=w.heap.size:=⟨_,rfl⟩;rw[<-hg] at FE⊢;have HG:=ae hg;clear hg
 go_loopw [8] (fun iv W=>∃k:Nat,k<=n/\iv=.int .i64 (k:Int)/\(⟨⟨k0,k1,k2,k3⟩,Q⟩:Tl)∉(E.map Te.tl).take k/\Below W1.heap.size W1 W) (fun iv _=>n-(intOf iv).toNat)
 case atStart=>exact⟨0,by omega,rfl,by simp,Below.refl _ _⟩
 case round=>
  obtain⟨k,hk,rfl,hnot,hB⟩:=hrel;have Hr:=ae hnot;have aA:=ae hB;have hzw:=hB.size;clear hnot hB;by_cases hlt:k<n
  ·obtain⟨e,he⟩:∃e,E[k]? =some e:=⟨_,List.getElem?_eq_getElem (by rw[<-js.out];exact hlt)⟩;have uw:=ae (show(E.map Te.tl)[k]? =some e.tl by rw[List.getElem?_map,he];rfl);obtain⟨b1,o1,rfl,hb1,hr1⟩:=HA.out.resolve_left (fun h=>by rw[h] at he;simp at he);have hcs:∀j,j<5->wr.cell? ⟨b1,o1+k*5+j,none⟩=e.row[j]? :=fun j hj=>by
    rw[aA.out.cell (Nat.lt_of_lt_of_le hb1 HB1.out.size),HB1.out.cell hb1,hr1 k e.row (by rw[List.getElem?_map,he];rfl) j hj]
   have eS:=ae (show wr.heap[g]? =some (.cells #[.int .i64 k0,.int .i64 k1,.int .i64 k2,.int .i64 k3,.slice qa m qc] 101) from aj aA.out FE.out);have hpe:=o4.out e (List.mem_of_getElem? he);have ib:=ae (FL.out e (List.mem_of_getElem? he));have hke:=heq e.key;clear he hr1 hb1 heq;obtain⟨⟨e0,e1,e2,e3⟩,ev,P⟩:=e;have yq:=ae hpe;obtain⟨ea,ec,hev,_⟩:=hpe;obtain rfl:ev=.slice ea P.length ec:=hev;obtain⟨l,hl⟩:∃l,l=P.length:=⟨_,rfl⟩;simp only[Te.row,Ky.row,<-hl] at hcs yq hke;clear hl;have Md:=ae (show cj wr (.slice ea l ec) P from(yq.out.still HB1.out).still aA.out);have kR:=ae (show cj wr (.slice qa m qc) Q from(HQ.out.still HB1.out).still aA.out);have gi:=ae (fun h:decide ((⟨e0,e1,e2,e3⟩:Ky)=⟨k0,k1,k2,k3⟩)=true=>of_decide_eq_true h);have mO:=ae (fun h:decide ((⟨e0,e1,e2,e3⟩:Ky)=⟨k0,k1,k2,k3⟩)=false=>uh Hr.out uw.out (fun g=>of_decide_eq_false h (congrArg Tl.key g)));generalize decide ((⟨e0,e1,e2,e3⟩:Ky)=⟨k0,k1,k2,k3⟩)=bk at hke gi mO;have d3:decide ((k:Int)<(n:Int))=true:=decide_eq_true (by omega);have hk0:(0:Int)<=(k:Int):=by omega
   have a0:=fun d os=>cell_regrown (show wr.cell? ⟨b1,o1+k*5,none⟩=some (.int .i64 e0) from hcs 0 (by decide)) d os
   have a1:=fun d os=>cell_regrown (show wr.cell? ⟨b1,o1+k*5+1,none⟩=some (.int .i64 e1) from hcs 1 (by decide)) d os
   have a2:=fun d os=>cell_regrown (show wr.cell? ⟨b1,o1+k*5+2,none⟩=some (.int .i64 e2) from hcs 2 (by decide)) d os
   have a3:=fun d os=>cell_regrown (show wr.cell? ⟨b1,o1+k*5+3,none⟩=some (.int .i64 e3) from hcs 3 (by decide)) d os
   have a4:=fun d os=>cell_regrown (show wr.cell? ⟨b1,o1+k*5+4,none⟩=some (.slice ea l ec) from hcs 4 (by decide)) d os
   have b0:=fun d os=>cell_regrown (show wr.cell? ⟨g,0,none⟩=some (.int .i64 k0) from(af (j:=0) eS.out).trans rfl) d os
   have b1':=fun d os=>cell_regrown (show wr.cell? ⟨g,1,none⟩=some (.int .i64 k1) from(af (j:=1) eS.out).trans rfl) d os
   have b2':=fun d os=>cell_regrown (show wr.cell? ⟨g,2,none⟩=some (.int .i64 k2) from(af (j:=2) eS.out).trans rfl) d os
   have b3:=fun d os=>cell_regrown (show wr.cell? ⟨g,3,none⟩=some (.int .i64 k3) from(af (j:=3) eS.out).trans rfl) d os
   have b4:=fun d os=>cell_regrown (show wr.cell? ⟨g,4,none⟩=some (.slice qa m qc) from(af (j:=4) eS.out).trans rfl) d os
   clear hcs
   cases bk
   ·have HF:=ae (mO.out rfl);clear mO gi;go_wp2_with fail;refine wp_region_quiet_below (by kernel_rfl) (by kernel_rfl) ?_
    repeat(first|go_big_quiet_step (fail) |quiet_step (fail))
    refine wpQuiet_nil ?_;intro _ hw';obtain⟨⟨dqV,osV⟩,hw2⟩:=hw';subst hw2;have aO:=ae (below_regrown wr dqV osV);generalize Sort.grow (redrawn wr dqV) osV=V at aO⊢;have gf:=aO.out.size;have HB3:=ae (aA.out.trans (aO.out.mono hzw));clear a0 a1 a2 a3 a4 b0 b1' b2' b3 b4;go_wp2_with fail;exact⟨⟨k+1,by omega,by go_num,HF.out,HB3.out⟩,by simp[intOf];omega⟩
   ·have Ld:=ae (gi.out rfl);clear mO gi;obtain⟨bs,hbs⟩:∃bs,bs=decide (P=Q):=⟨_,rfl⟩;have Dd:=ae (fun d os=>(show Calls Tryz.prog 39 #[.slice ea l ec,.slice qa m qc] (grow (redrawn wr d) os) fun r w'=>r=.returned (.bool bs)/\Below (grow (redrawn wr d) os).heap.size (grow (redrawn wr d) os) w' from hbs▸Gh _ _ P Q (grow (redrawn wr d) os) (Md.out.still (below_regrown wr d os)) (kR.out.still (below_regrown wr d os)) ib.out));have ni:=ae (fun h:bs=true=>of_decide_eq_true (show decide (P=Q)=true from hbs▸h));have pg:=ae (fun h:bs=false=>of_decide_eq_false (show decide (P=Q)=false from hbs▸h));clear hbs
    cases bs
    ·have HF:=ae (uh Hr.out uw.out (fun g=>pg.out rfl (congrArg Tl.pts g)));clear ni pg;go_wp2_with fail;refine wp_region_quiet_below (by kernel_rfl) (by kernel_rfl) ?_
     repeat(first|go_big_quiet_step ((go_at_call 39;with_reducible exact Calls.regrown_of (Dd.out _ _))) |quiet_step ((go_at_call 39;with_reducible exact Calls.regrown_of (Dd.out _ _))))
     refine wpQuiet_nil ?_;intro _ hw';obtain⟨⟨dqV,osV⟩,hw2⟩:=hw';subst hw2;have aO:=ae (below_regrown wr dqV osV);generalize Sort.grow (redrawn wr dqV) osV=V at aO⊢;have gf:=aO.out.size;have HB3:=ae (aA.out.trans (aO.out.mono hzw));clear a0 a1 a2 a3 a4 b0 b1' b2' b3 b4;go_wp2_with fail;exact⟨⟨k+1,by omega,by go_num,HF.out,HB3.out⟩,by simp[intOf];omega⟩
    ·have HF:=ae (gL.out (by
      have h1:=List.mem_of_getElem? uw.out;have h2:P=Q:=ni.out rfl;have h3:=Ld.out;rw[<-h3,<-h2]
      exact h1))
     clear ni pg;go_wp2_with fail;refine wp_region_quiet_below (by kernel_rfl) (by kernel_rfl) ?_
     repeat(first|go_big_quiet_step ((go_at_call 39;with_reducible exact Calls.regrown_of (Dd.out _ _))) |quiet_step ((go_at_call 39;with_reducible exact Calls.regrown_of (Dd.out _ _))))
     refine wpQuiet_nil ?_;intro _ hw';obtain⟨⟨dqV,osV⟩,hw2⟩:=hw';subst hw2;have aO:=ae (below_regrown wr dqV osV);generalize Sort.grow (redrawn wr dqV) osV=V at aO⊢;have gf:=aO.out.size;have HB3:=ae (aA.out.trans (aO.out.mono hzw));clear a0 a1 a2 a3 a4 b0 b1' b2' b3 b4;go_wp2_with fail;go_ret;exact⟨by rw[HF.out];rfl,HB1.out.trans (HB3.out.mono HB1.out.size)⟩
  ·obtain rfl:k=n:=by omega
   have d3:decide ((k:Int)<(k:Int))=false:=by simp
   have HF:=ae (gP.out (by have:=Hr.out;rwa[js.out,List.take_of_length_le (by rw[List.length_map];exact Nat.le_refl _)] at this));go_wp2_with fail;go_ret;exact⟨by rw[HF.out];rfl,HB1.out.trans (aA.out.mono HB1.out.size)⟩
end Go.Proofs.YtcclpdfmmdonpaaGreat
