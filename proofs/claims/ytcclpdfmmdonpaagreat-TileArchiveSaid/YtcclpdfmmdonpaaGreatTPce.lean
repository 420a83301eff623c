/- Drawn regions whose operations are plain values but for some, which go on from stage to stage (out of seat 2's DiskR). A piece of a function's code, by the number of its region (out of seat 1's FxR and OrdA). A region that draws its order, whose last but one operation need not wait for one of those ahead of it. -/
import Derived.Test.YtcclpdfmmdonpaaGreatTBas
namespace Go.Proofs.YtcclpdfmmdonpaaGreat
open Go.RowKit
theorem dO {L:Nat->Bool} {us:Nat->Value} {k j:Nat} {v:Value} (h:j≠k):((j == k || L j)=L j)/\ct us k v j=us j:=⟨by simp[h],by simp[ct,h]⟩
def fO (ps:List Nat) (us:Nat->Value) (i:Nat):Value:=if h:i<ps.length then us ps[i] else undef
structure qi (V:Nat->Value) (ps pl:List Nat) (S:Nat->(Nat->Value)->World->Prop) (L:Nat->Bool) (us:Nat->Value) (W:World):Prop where
 vals:∀j,j∉ps->L j=true->us j=V j
 st:∃k,k<=ps.length/\(∀i (h:i<ps.length),(L ps[i]=true↔i<k))/\S k (fO ps us) W
 pre:∀(h:ps.length-1<ps.length),L ps[ps.length-1]=true->∀j∈pl,L j=true
section
variable {V:Nat->Value} {ps pl:List Nat} {S:Nat->(Nat->Value)->World->Prop} {L:Nat->Bool} {us:Nat->Value} {W W':World}
theorem qi.start (h:S 0 (fO ps us) W) (hL:∀j,L j=false):qi V ps pl S L us W:=
 ⟨fun j _ h=>by rw[hL j] at h;exact absurd h (by simp),⟨0,Nat.zero_le _,fun i h=>by simp[hL],h⟩,fun _ h=>by rw[hL _] at h;exact absurd h (by simp)⟩
theorem qi.pure {k:Nat} {v:Value} (h:qi V ps pl S L us W) (hk:k∉ps) (hv:v=V k):qi V ps pl S (fun j=>j == k || L j) (ct us k v) W:=by
 refine⟨fun j hj hl=>?_,?_,fun hp hl j hj=>?_⟩
 ·by_cases e:j=k
  ·subst e;rw[ct,if_pos rfl];exact hv
  ·rw[(dO (L:=L) (us:=us) (v:=v) e).2];exact h.vals j hj (by simpa[e] using hl)
 ·obtain⟨m,hm,hL,hS⟩:=h.st;refine⟨m,hm,fun i hi=>?_,?_⟩
  ·have e:ps[i]≠k:=fun e=>hk (by rw[<-e];exact List.getElem_mem hi)
   rw[(dO (L:=L) (us:=us) (v:=v) e).1];exact hL i hi
  ·have e:fO ps (ct us k v)=fO ps us:=by
    funext i;unfold fO
    split
    ·rename_i hi
     exact(dO (L:=L) (us:=us) (v:=v) (fun e=>hk (by rw[<-e];exact List.getElem_mem hi))).2
    ·rfl
   rw[e];exact hS
 ·have e:ps[ps.length-1]≠k:=fun e=>hk (by rw[<-e];exact List.getElem_mem hp)
  rw[(dO (L:=L) (us:=us) (v:=v) e).1] at hl;simp[h.pre hp hl j hj]
theorem qi.at (h:qi V ps pl S L us W) (i:Nat) (hi:i<ps.length) (h0:i=0∨∃(h':i-1<ps.length),L ps[i-1]=true) (hL:L ps[i]=false):S i (fO ps us) W:=by
 obtain⟨m,hm,hl,hS⟩:=h.st;have h1:¬i<m:=fun hlt=>by rw[(hl i hi).2 hlt] at hL;exact absurd hL (by simp)
 have h2:i<=m:=by
  rcases h0 with h0| ⟨h',h0⟩
  ·omega
  ·have:=(hl (i-1) h').1 h0;omega
 obtain rfl:m=i:=by omega
 exact hS
theorem qi.next {v:Value} (h:qi V ps pl S L us W) (hnd:ps.Nodup) (i:Nat) (hi:i<ps.length) (h0:i=0∨∃(h':i-1<ps.length),L ps[i-1]=true) (hL:L ps[i]=false)
 (hS:S (i+1) (fun j=>if j=i then v else fO ps us j) W') (hpl:i+1=ps.length->∀j∈pl,L j=true):qi V ps pl S (fun j=>j == ps[i] || L j) (ct us ps[i] v) W':=by
 obtain⟨m,hm,hl,_⟩:=h.st;have h1:¬i<m:=fun hlt=>by rw[(hl i hi).2 hlt] at hL;exact absurd hL (by simp)
 have h2:i<=m:=by
  rcases h0 with h0| ⟨h',h0⟩
  ·omega
  ·have:=(hl (i-1) h').1 h0;omega
 obtain rfl:m=i:=by omega
 refine⟨fun j hj hl'=>?_,⟨m+1,hi,fun i' hi'=>?_,?_⟩,fun hp hl' j hj=>?_⟩
 ·have e:j≠ps[m]:=fun e=>hj (by rw[e];exact List.getElem_mem hi)
  rw[(dO (L:=L) (us:=us) (v:=v) e).2];exact h.vals j hj (by simpa[e] using hl')
 ·by_cases e:i'=m
  ·subst e;simp
  ·have e':ps[i']≠ps[m]:=fun e'=>e ((List.getElem_inj hnd).1 e')
   rw[(dO (L:=L) (us:=us) (v:=v) e').1,hl i' hi'];omega
 ·have e:fO ps (ct us ps[m] v)=fun j=>if j=m then v else fO ps us j:=by
   funext j;by_cases e:j=m
   ·subst e;simp[fO,hi,ct]
   ·rw[if_neg e];unfold fO
    split
    ·rename_i hj
     have e':ps[j]≠ps[m]:=fun e'=>e ((List.getElem_inj hnd).1 e')
     exact(dO (L:=L) (us:=us) (v:=v) e').2
    ·rfl
  rw[e];exact hS
 ·by_cases e:m+1=ps.length
  ·simp[hpl e j hj]
  ·have e':ps[ps.length-1]≠ps[m]:=fun e'=>by have:=(List.getElem_inj hnd).1 e';omega
   rw[(dO (L:=L) (us:=us) (v:=v) e').1] at hl';simp[h.pre hp hl' j hj]
theorem qi.early (h:qi V ps pl S L us W) {j:Nat} (hj:j∈pl) (hL:L j=false) (h0:0<ps.length):∃k,k<ps.length/\S k (fO ps us) W:=by
 obtain⟨m,hm,hl,hS⟩:=h.st;refine⟨m,?_,hS⟩
 rcases Nat.lt_or_ge m ps.length with h1|h1
 ·exact h1
 ·have h2:L ps[ps.length-1]=true:=(hl (ps.length-1) (by omega)).2 (by omega);have:=h.pre (by omega) h2 j hj;rw[hL] at this
  cases this
theorem qi.last (h:qi V ps pl S L us W) (hall:∀i (hi:i<ps.length),L ps[i]=true):S ps.length (fO ps us) W:=by
 obtain⟨m,hm,hl,hS⟩:=h.st;have:ps.length<=m:=by
  rcases Nat.lt_or_ge m ps.length with h1|h1
  ·have:=(hl m h1).1 (hall m h1);omega
  ·exact h1
 obtain rfl:m=ps.length:=by omega
 exact hS
end
theorem bh {a:Array Edge} {L:Nat->Bool} (h:(a.all fun e=> !Region.binds .any e || L e.on)=true) (e:Edge) (he:e∈a) (hb:Region.binds .any e=true):L e.on=true:=by
 rw[Array.all_eq_true'] at h;have:=h e he;rw[hb] at this;simpa using this
open Go.RowKit
def hI (n:Nat):Code->Option Code
 | .region id ops d=>if id=n then some (.region id ops d) else none
 | .seq a b=>match hI n a with|some c=>some c|none=>hI n b
 | .cond _ a b=>match hI n a with|some c=>some c|none=>hI n b
 | .block _ a=>hI n a
 | .loop a=>hI n a
 | .scope a=>hI n a
 |_=>none
def eV:Code->Option Nat
 | .region id _ _=>some id
 | .seq a _=>eV a
 |_=>none
def cy (n:Nat):Code->Option Code
 | .seq a b=>if eV a=some n then some (.seq a b) else match cy n a with|some c=>some c|none=>cy n b
 | .cond _ a b=>match cy n a with|some c=>some c|none=>cy n b
 | .block _ a=>cy n a
 | .loop a=>cy n a
 | .scope a=>cy n a
 |_=>none
open Go.RowKit
section
variable {P:Program} {Q:Exit->Act->World->Prop}
def EY (l:List Oper) (c h:Nat):Bool:=
 (match l[c]? with|some o=>(List.range c).all fun j=>j == h || (nQ l 9 (jd o)).contains j|none=>false) &&
 (match l[c+1]? with|some o=>(List.range (c+1)).all fun j=>(nQ l 9 (jd o)).contains j|none=>false)
def Bp (P:Program) (ops:Array Oper) (Q:Exit->Act->World->Prop) (l:List Oper) (A0:Act) (ds:List (Option Nat)) (B:World) (Pr:Nat->World->Value->Prop) (c h:Nat) (oh ol:Oper) (L:Nat->Bool) (us:Nat->Value) (W:World):Prop:=
 jW l L/\((L c=false/\L (c+1)=false/\Below B.heap.size B W/\∀j,j<c->L j=true->Pr j W (us j))∨
  (L c=true/\L (c+1)=false/\(∀j,j<c->j≠h->L j=true)/\((L h=true/\iu P ops Q [ol] (ah A0 ds us) W)∨(L h=false/\iu P ops Q [oh,ol] (ah A0 ds us) W)))∨
  (L (c+1)=true/\(∀j,j<c+1->L j=true)/\Q .normal (ah A0 ds us) W))
theorem nw {ops:Array Oper} {l:List Oper} {A0:Act} {ds:List (Option Nat)} {B:World} {Pr:Nat->World->Value->Prop} (uu:∀j W W' v,Below W.heap.size W W'->Pr j W v->Pr j W' v) (c h:Nat) (oh ol:Oper)
 (hdst:ds=l.map (·.dst)) (hds:(ds.filterMap _root_.id).Nodup) (hcl:c+1<l.length) (hoh:l[h]? =some oh) (hhc:h<c):
 ∀{l1:List Oper} {k:Nat},(∀j,j<l1.length->l[k+j]? =l1[j]?)->k+l1.length<=c->cI k l1=true->dX P ops Q A0 ds B Pr k l1->bK P ops Q A0 ds (Bp P ops Q l A0 ds B Pr c h oh ol) k l1
 | [],_,_,_,_,_=>trivial
 |o::rest,k,hat,hl,hb,hs=>by
  simp only[List.length_cons] at hl;simp only[cI,Bool.and_eq_true] at hb;refine⟨?_,nw uu c h oh ol hdst hds hcl hoh hhc (l1:=rest) (k:=k+1) (fun j hj=>by rw[show k+1+j=k+(j+1) by omega,hat (j+1) (by simp;omega)];rfl) (by omega) hb.2 hs.2⟩;intro K L us W hK hL hd hR;have ho:l[k]? =some o:=by have:=hat 0 (by simp);simpa using this
  have hdi:=iM hd;obtain⟨rE,hR⟩:=hR;have hkc:(c == k)=false:=by simp;omega
  have Pp:(c+1 == k)=false:=by simp;omega
  rcases hR with⟨hn,hn1,hB,hp⟩ | ⟨hn,hn1,ha,hS⟩ | ⟨_,ha,_⟩
  ·refine hs.1 K us W ?_ hB ?_
   ·intro v A' W' hA hB' hv;refine hK v A' W' hA ⟨rE.add ho hdi,Or.inl ⟨by simp[hn];omega,by simp[hn1];omega,hB.trans (hB'.mono hB.size),?_⟩⟩;intro j hjc hj;by_cases hjk:j=k
    ·subst hjk;simpa[ct] using hv
    ·simp only[ct,hjk,if_false];exact uu j W W' _ hB' (hp j hjc (by simpa[hjk] using hj))
   ·intro e he hbi;have hb1:=hb.1;rw[Array.all_eq_true'] at hb1 hd;have h1:=hb1 e he;have h2:=hd e he;rw[hbi] at h1 h2;simp at h1 h2;exact hp e.on (by omega) h2
  ·by_cases hkh:k=h
   ·subst hkh;rw[hoh] at ho;injection ho with ho
    subst ho
    rcases hS with⟨h1,_⟩ | ⟨_,hS⟩
    ·rw[h1] at hL;cases hL
    ·refine hS K (fun v A' W' hA hS'=>?_);have hdk:ds.getD k none=oh.dst:=by
      rw[hdst,List.getD_eq_getElem?_getD,List.getElem?_map,hoh];rfl
     refine hK v A' W' (by rw[hdk];exact hA) ⟨rE.add hoh hdi,Or.inr (Or.inl ⟨by simp[hn],by simp[hn1];omega,fun j hj hjk=>by simp[ha j hj hjk],Or.inl ⟨by simp,?_⟩⟩)⟩;rw[<-eQ ds A0 us k v hds (by rw[hdst,List.length_map];omega),hdk,<-hA];exact hS'
   ·rw[ha k (by omega) hkh] at hL
    cases hL
  ·rw[ha k (by omega)] at hL
   cases hL
theorem oY {id:Nat} {l:List Oper} {A0:Act} {w:World} (hm:P.follows .mixedOrders =true) (hb:cI 0 l=true) (ds:List (Option Nat)) (hdst:ds=l.map (·.dst)) (hds:(ds.filterMap _root_.id).Nodup)
 (c h:Nat) (oc oh ol:Oper) (hoc:l[c]? =some oc) (hoh:l[h]? =some oh) (hol:l[c+1]? =some ol) (hlen:l.length=c+2) (hhc:h<c) (hb1:cI 0 (l.take c)=true) (hch:EY l c h=true) (ps:List (World->Value->Prop)) (hps:pw ps)
 (hs1:dX P l.toArray Q A0 ds w (fun j=>ps.getD j (fun _ _=>True)) 0 (l.take c))
 (htail:∀us W,Below w.heap.size w W->(∀j,j<c->ps.getD j (fun _ _=>True) W (us j))->iu P l.toArray Q [oc,ol] (ah A0 ds us) W)
 (hlate:∀us W,Below w.heap.size w W->(∀j,j<c->j≠h->ps.getD j (fun _ _=>True) W (us j))->iu P l.toArray Q [oc,oh,ol] (ah A0 ds us) W):
 (Code.region id l.toArray true).wp P Q A0 w:=by
 have hl:l.length=ds.length:=by rw[hdst];simp
 refine bD hm hb ds hl hds (Bp P l.toArray Q l A0 ds w (fun j=>ps.getD j (fun _ _=>True)) c h oh ol) (fy A0 ds) (ci A0 ds) ⟨fun _ _ _ h=>by simp at h,Or.inl ⟨rfl,rfl,(Below.refl _ _).drew,fun _ _ h=>by simp at h⟩⟩ ?_ ?_
 ·have hlc:(l.take c).length =c:=by rw[List.length_take];omega
  have h1:=nw (ops:=l.toArray) (Q:=Q) (l:=l) (A0:=A0) (ds:=ds) (B:=w) hps.at c h oh ol hdst hds (by omega) hoh hhc (l1:=l.take c) (k:=0) (fun j hj=>by rw[Nat.zero_add,List.getElem?_take_of_lt (by omega)]) (by omega) hb1 hs1;have hdr:l.drop c=[oc,ol]:=by
   rw[List.drop_eq_getElem_cons (by omega),List.drop_eq_getElem_cons (by omega),List.drop_eq_nil_of_le (by omega)];have e1:=(List.getElem?_eq_some_iff.1 hoc).2;have e2:=(List.getElem?_eq_some_iff.1 hol).2;rw[e1,e2]
  unfold EY at hch;rw[hoc,hol] at hch;simp only[Bool.and_eq_true,List.all_eq_true] at hch;have dc:ds.getD c none=oc.dst:=by rw[hdst,List.getD_eq_getElem?_getD,List.getElem?_map,hoc];rfl
  have dl:ds.getD (c+1) none=ol.dst:=by rw[hdst,List.getD_eq_getElem?_getD,List.getElem?_map,hol];rfl
  have h2:bK P l.toArray Q A0 ds (Bp P l.toArray Q l A0 ds w (fun j=>ps.getD j (fun _ _=>True)) c h oh ol) c (l.drop c):=by
   rw[hdr];refine⟨?_,?_,trivial⟩
   ·intro K L us W hK hL hd hR;have hdi:=iM hd;obtain⟨rE,hR⟩:=hR;have hall:∀j,j<c->j≠h->L j=true:=by
     intro j hj hjh;have h3:=hch.1 j (List.mem_range.2 hj);simp only[Bool.or_eq_true,beq_iff_eq,List.contains_iff_mem] at h3
     rcases h3 with h3|h3
     ·exact absurd h3 hjh
     ·exact gV rE _ _ hdi j h3
    rcases hR with⟨_,hn1,hB,hp⟩ | ⟨hn,_⟩ | ⟨_,ha,_⟩
    ·by_cases IQ:L h=true
     ·have IR:∀j,j<c->L j=true:=fun j hj=>by
       by_cases hjh:j=h
       ·rw[hjh];exact IQ
       ·exact hall j hj hjh
      have hS:=htail us W hB (fun j hj=>hp j hj (IR j hj));refine hS K (fun v A' W' hA hS'=>?_);refine hK v A' W' (by rw[dc];exact hA) ⟨rE.add hoc hdi,Or.inr (Or.inl ⟨by simp,by simp[hn1],fun j hj hjh=>by simp[hall j hj hjh],Or.inl ⟨by simp[IQ],?_⟩⟩)⟩;rw[<-eQ ds A0 us c v hds (by rw[<-hl];omega),dc,<-hA];exact hS'
     ·have IQ:L h=false:=by simpa using IQ
      have hS:=hlate us W hB (fun j hj hjh=>hp j hj (hall j hj hjh));refine hS K (fun v A' W' hA hS'=>?_);refine hK v A' W' (by rw[dc];exact hA) ⟨rE.add hoc hdi,Or.inr (Or.inl ⟨by simp,by simp[hn1],fun j hj hjh=>by simp[hall j hj hjh],Or.inr ⟨by simp[IQ];omega,?_⟩⟩)⟩;rw[<-eQ ds A0 us c v hds (by rw[<-hl];omega),dc,<-hA];exact hS'
    ·rw[hn] at hL;cases hL
    ·rw[ha c (by omega)] at hL;cases hL
   ·intro K L us W hK hL hd hR;have hdi:=iM hd;obtain⟨rE,hR⟩:=hR;have hall:∀j,j<c+1->L j=true:=by
     intro j hj;have h3:=hch.2 j (List.mem_range.2 hj);rw[List.contains_iff_mem] at h3;exact gV rE _ _ hdi j h3
    rcases hR with⟨hn,_⟩ | ⟨_,_,_,hS⟩ | ⟨hn,_⟩
    ·rw[hall c (by omega)] at hn;cases hn
    ·rcases hS with⟨_,hS⟩ | ⟨hn,_⟩
     ·refine hS K (fun v A' W' hA hS'=>?_);refine hK v A' W' (by rw[dl];exact hA) ⟨rE.add hol hdi,Or.inr (Or.inr ⟨by simp,fun j hj=>by simp[hall j hj],?_⟩)⟩;rw[<-eQ ds A0 us (c+1) v hds (by rw[<-hl];omega),dl,<-hA];exact hS'
     ·rw[hall h (by omega)] at hn;cases hn
    ·rw[hn] at hL;cases hL
  have h3:=bK.append h1 (by rw[Nat.zero_add,hlc];exact h2);rw[List.take_append_drop] at h3;exact h3
 ·intro L us W hL hR
  rcases hR.2 with⟨hn,_⟩ | ⟨_,hn,_⟩ | ⟨_,_,hQ⟩
  ·rw[hL c (by omega)] at hn;cases hn
  ·rw[hL (c+1) (by omega)] at hn;cases hn
  ·exact hQ
end
end Go.Proofs.YtcclpdfmmdonpaaGreat
