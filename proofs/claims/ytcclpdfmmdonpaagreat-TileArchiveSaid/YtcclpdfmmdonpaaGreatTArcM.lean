/- The records of an archive's files: their bytes, and what a list of them says. Plain Lean, no program in sight. -/
import Derived.Test.YtcclpdfmmdonpaaGreatTDec
namespace Go.Proofs.YtcclpdfmmdonpaaGreat
open Go.RowKit
structure gh where
 add:List Pt
 rem:List Int
inductive bj where
 |base (a c f:Int) (P:List Pt)
 |step (s:gh)
 |stamp
def dA (b:List Nat):List Nat:=bY b.length++b++bY (tY (bY b.length++b))
def bj.kind:bj->Nat
 | .base _ _ _ _=>1
 | .step _=>2
 | .stamp =>3
def bj.data:bj->List Nat
 | .base a c f P=>bO aQ [a,c,f]++(bO aQ [(P.length:Int)]++bZ 0 P)
 | .step s=>(bO aQ [(s.add.length:Int)]++bZ 0 s.add)++(bO aQ [(s.rem.length:Int)]++bO aQ s.rem)
 | .stamp =>[]
def bj.body (r:bj):List Nat:=r.kind::r.data
def bj.enc (r:bj):List Nat:=dA r.body
def bG (R:List bj):List Nat:=(R.map bj.enc).flatten
structure dM (P:List Pt):Prop where
 good:bQ P=true
 asc:P.Pairwise (fun p q=>p.id<q.id)
theorem dM.nil:dM []:=⟨rfl,List.Pairwise.nil⟩
theorem dM.len {P:List Pt} (h:dM P):P.length<=1024:=((cS P).1 h.good).1
theorem dM.nums {P:List Pt} (h:dM P):qH P:=Ev h.good h.asc
def di (z:Int):Prop:=0<=z/\z<=4611686018427387903
structure eJ (s:gh):Prop where
 add:dM s.add
 few:s.add.length<=12
 cut:s.rem.length<=12
 num:∀z∈s.rem,di z
def bj.Ok:bj->Prop
 | .base a c f P=>di a/\di c/\di f/\dM P
 | .step s=>eJ s
 | .stamp =>True
theorem du (n:Nat):(bY n).length =4:=rfl
theorem iY (n:Nat):∀x∈bY n,x<256:=fun x hx=>by
 simp[bY] at hx;omega
theorem gU (b:List Nat):(dA b).length =b.length+8:=by
 simp[dA,du];omega
theorem pT {b:List Nat} (h:∀x∈b,x<256):∀x∈dA b,x<256:=dj (dj (iY _) h) (iY _)
theorem Dz (r:bj):r.kind<256:=by cases r<;>simp[bj.kind]
theorem pI (r:bj):∀x∈r.data,x<256:=by
 cases r with
 |base a c f P=>exact dj (eH eZ _) (dj (eH eZ _) (kB _ _))
 |step s=>exact dj (dj (eH eZ _) (kB _ _)) (dj (eH eZ _) (eH eZ _))
 |stamp=>exact fun x hx=>by simp[bj.data] at hx
theorem jq (r:bj):∀x∈r.body,x<256:=fun x hx=>by
 rcases List.mem_cons.1 hx with h|h
 ·rw[h];exact Dz r
 ·exact pI r x h
theorem tR (r:bj):∀x∈r.enc,x<256:=pT (jq r)
theorem kJ (r:bj):r.enc.length=r.body.length+8:=gU _
theorem xA (R:List bj):∀x∈bG R,x<256:=fun x hx=>by
 obtain⟨l,hl,hx⟩:=List.mem_flatten.1 hx;obtain⟨r,_,rfl⟩:=List.mem_map.1 hl;exact tR r x hx
theorem qQ {P:List Pt} (h:dM P):(bO aQ [(P.length:Int)]++bZ 0 P).length <=9+81*P.length:=by
 have h1:=dB (f:=aQ) (m:=9) [(P.length:Int)] (fun z hz=>gw (by
  simp at hz;have:=h.len;subst hz
  omega))
 have h2:=lZ h.nums P.length (Nat.le_refl _);rw[List.take_length] at h2;simp only[List.length_append,List.length_cons,List.length_nil] at h1⊢;omega
theorem jh {zs:List Int} (h:∀z∈zs,di z):(bO aQ zs).length <=zs.length*9:=dB (f:=aQ) (m:=9) zs (fun z hz=>gw (h z hz))
theorem Az {a c f:Int} {P:List Pt} (h:(bj.base a c f P).Ok):(bj.base a c f P).body.length <=83000:=by
 have h1:=qQ h.2.2.2;have h2:=jh (zs:=[a,c,f]) (by simp;exact⟨h.1,h.2.1,h.2.2.1⟩);have h3:=h.2.2.2.len;simp only[bj.body,bj.data,bj.kind,List.length_cons,List.length_append,List.length_nil] at h1 h2⊢;omega
theorem ub {s:gh} (h:eJ s):(bj.step s).body.length <=1100:=by
 have h1:=qQ h.add;have h2:=jh h.num
 have h3:=jh (zs:=[(s.rem.length:Int)]) (by
  intro z hz;simp at hz;have:=h.cut;subst hz;unfold di
  omega)
 have h4:=h.few;have h5:=h.cut;simp only[bj.body,bj.data,bj.kind,List.length_cons,List.length_append,List.length_nil] at h1 h2 h3⊢;omega
theorem i8 {r:bj} (h:r.Ok):1<=r.body.length/\r.body.length<=83000:=by
 refine⟨by simp[bj.body],?_⟩
 cases r with
 |base a c f P=>exact Az h
 |step s=>have:=ub h;omega
 |stamp=>simp[bj.body,bj.data]
theorem ig {r:bj} (h:r.Ok) (hk:r.kind≠1):r.enc.length<=1200:=by
 rw[kJ]
 cases r with
 |base a c f P=>exact absurd rfl hk
 |step s=>have:=ub h;omega
 |stamp=>simp[bj.body,bj.data]
theorem oL {r:bj} (h:r.Ok):r.enc.length<=83008:=by
 have:=i8 h;rw[kJ];omega
theorem wo (b rest:List Nat):(dA b++rest).getD 0 0=b.length/16777216%256/\(dA b++rest).getD 1 0=b.length/65536%256/\(dA b++rest).getD 2 0=b.length/256%256/\(dA b++rest).getD 3 0=b.length%256:=by
 simp[dA,bY]
theorem Ad (b:List Nat) {k:Nat} (hk:4<=k):((dA b).take k).getD 0 0=b.length/16777216%256/\((dA b).take k).getD 1 0=b.length/65536%256/\((dA b).take k).getD 2 0=b.length/256%256/\((dA b).take k).getD 3 0=b.length%256:=by
 have h:=wo b [];rw[List.append_nil] at h;simp only[List.getD_eq_getElem?_getD] at h⊢;rw[List.getElem?_take_of_lt (by omega),List.getElem?_take_of_lt (by omega),List.getElem?_take_of_lt (by omega),List.getElem?_take_of_lt (by omega)];exact h
theorem CA (b rest:List Nat):(dA b++rest).take (4+b.length)=bY b.length++b:=by
 rw[dA,List.append_assoc (bY b.length++b)];rw[List.take_append_of_le_length (by simp[du])];exact List.take_of_length_le (by simp[du])
theorem tE (b rest:List Nat) (i:Nat) (hi:i<b.length):(dA b++rest).getD (4+i) 0=b.getD i 0:=by
 simp only[List.getD_eq_getElem?_getD,dA,List.append_assoc];rw[List.getElem?_append_right (by simp[du]),du,Nat.add_sub_cancel_left,List.getElem?_append_left hi]
theorem Ag (b rest:List Nat) (i:Nat):(dA b++rest).getD (b.length+8+i) 0=rest.getD i 0:=by
 simp only[List.getD_eq_getElem?_getD];rw[List.getElem?_append_right (by rw[gU];omega),gU,Nat.add_sub_cancel_left]
theorem Ed (b rest:List Nat):(be (fun i=>(dA b++rest).getD (b.length+4+i) 0) 4).toNat =nK (fun i=>(dA b++rest).getD i 0) (b.length+4):=by
 rw[y8 (dA b++rest) (by simp[gU];omega),Nat.add_comm,CA];have hat:∀j,j<4->(dA b++rest).getD (4+b.length+j) 0=(bY (tY (bY b.length++b))).getD j 0:=fun j hj=>by
  simp only[List.getD_eq_getElem?_getD,dA,List.append_assoc];rw[List.getElem?_append_right (by simp[du];omega),du,List.getElem?_append_right (by omega),List.getElem?_append_left (by simp[du];omega)];congr 2;omega
 exact Rx (wX _) (hat 0 (by omega)) (hat 1 (by omega)) (hat 2 (by omega)) (hat 3 (by omega))
def vI (R:List bj):Prop:=∀i r,R[i]? =some r->r.Ok/\(r.kind=1↔i=0)
def mU (t:List Nat):Prop:=∃r:bj,r.Ok/\∃k,k<r.enc.length/\t=r.enc.take k
theorem mU.nil:mU []:=⟨.stamp,trivial,0,by rw[kJ];omega,rfl⟩
theorem mU.byte {t:List Nat} (h:mU t):∀x∈t,x<256:=fun x hx=>by
 obtain⟨r,_,k,_,rfl⟩:=h;exact tR r x (List.mem_of_mem_take hx)
theorem mU.len {t:List Nat} (h:mU t):t.length<=83008:=by
 obtain⟨r,hr,k,hk,rfl⟩:=h;have:=oL hr;rw[List.length_take];omega
theorem de (r:bj) (R:List bj):bG (r::R)=r.enc++bG R:=by simp[bG]
theorem mp (R S:List bj):bG (R++S)=bG R++bG S:=by simp[bG]
theorem yD {R:List bj} {i:Nat} {r:bj} (h:R[i]? =some r):bG (R.drop i)=r.enc++bG (R.drop (i+1)):=by
 obtain⟨hi,rfl⟩:=List.getElem?_eq_some_iff.1 h;rw[List.drop_eq_getElem_cons hi,de]
theorem kf:∀{R:List bj},(∀r∈R,r.Ok/\r.kind≠1)->(bG R).length <=1200*R.length
 | [],_=>by simp[bG]
 |r::R,h=>by
  have h1:=kf (R:=R) (fun x hx=>h x (by simp[hx]));have h2:=ig (h r (by simp)).1 (h r (by simp)).2;rw[de,List.length_append,List.length_cons];omega
theorem vI.tail {r:bj} {R:List bj} (h:vI (r::R)):∀x∈R,x.Ok/\x.kind≠1:=fun x hx=>by
 obtain⟨i,hi,rfl⟩:=List.mem_iff_getElem.1 hx;have h1:=h (i+1) R[i] (by simp);exact⟨h1.1,fun e=>by have:=h1.2.1 e;omega⟩
theorem vI.len {R:List bj} (h:vI R):(bG R).length <=84000+1200*R.length:=by
 cases R with
 |nil=>simp[bG]
 |cons r R=>
  have h1:=kf h.tail;have h2:=oL (h 0 r rfl).1;rw[de,List.length_append,List.length_cons];omega
theorem vI.take {R:List bj} (h:vI R) (j:Nat):vI (R.take j):=fun i r hi=>by
 refine h i r ?_;rw[List.getElem?_take] at hi
 split at hi
 ·exact hi
 ·cases hi
theorem vI.nil:vI []:=fun i r h=>by simp at h
theorem vI.snoc {R:List bj} (h:vI R) {r:bj} (hr:r.Ok) (hk:r.kind≠1) (hn:R≠[]):vI (R++[r]):=fun i x hi=>by
 by_cases hlt:i<R.length
 ·rw[List.getElem?_append_left hlt] at hi;exact h i x hi
 ·rw[List.getElem?_append_right (by omega)] at hi;have h0:i-R.length=0:=by
   have:=(List.getElem?_eq_some_iff.1 hi).1;simp at this;omega
  rw[h0] at hi;simp at hi;subst hi;have:R.length≠0:=fun e=>hn (List.length_eq_zero_iff.1 e)
  exact⟨hr,⟨fun e=>absurd e hk,fun e=>by omega⟩⟩
theorem qA:∀(R:List bj),(∀r∈R,r.Ok)->∀k,k<=(bG R).length ->
 ∃j t,(bG R).take k=bG (R.take j)++t/\mU t/\j<=R.length/\(k<(bG R).length ->j<R.length)/\(k=(bG R).length ->j=R.length/\t=[])
 | [],_,k,hk=>by
  simp[bG] at hk;subst hk;exact⟨0,[],rfl,mU.nil,Nat.le_refl _,fun h=>by simp[bG] at h,fun _=>⟨rfl,rfl⟩⟩
 |r::R,h,k,hk=>by
  rw[de,List.length_append] at hk;by_cases hlt:k<r.enc.length
  ·refine⟨0,r.enc.take k,?_,⟨r,h r (by simp),k,hlt,rfl⟩,by omega,fun _=>by simp,fun e=>?_⟩
   ·rw[de,List.take_append_of_le_length (by omega)];rfl
   ·rw[de,List.length_append] at e;omega
  ·obtain⟨j,t,h1,h2,h3,h4,h5⟩:=qA R (fun x hx=>h x (by simp[hx])) (k-r.enc.length) (by omega);refine⟨j+1,t,?_,h2,by simp;omega,fun e=>?_,fun e=>?_⟩
   ·rw[de,List.take_append,List.take_of_length_le (by omega),h1,List.take_succ_cons,de,List.append_assoc]
   ·rw[de,List.length_append] at e;have:=h4 (by omega);simp;omega
   ·rw[de,List.length_append] at e;have:=h5 (by omega);simp;omega
structure Lg where
 age:Int
 cap:Int
 first:Int
 base:List Pt
 steps:List gh
 sealed:Bool
def Lg.zero:Lg:=⟨0,0,0,[],[],false⟩
def Lg.next (l:Lg):bj->Lg
 | .base a c f P=>{l with age:=a,cap:=c,first:=f,base:=P}
 | .step s=>{l with steps:=l.steps++[s]}
 | .stamp =>{l with sealed:=true}
def bu (R:List bj):Lg:=R.foldl Lg.next Lg.zero
theorem pO {R:List bj} {i:Nat} {r:bj} (h:R[i]? =some r):bu (R.take (i+1))=(bu (R.take i)).next r:=by
 rw[aH h];simp[bu]
theorem mG (R S:List bj):bu (R++S)=S.foldl Lg.next (bu R):=by simp[bu]
theorem j7:∀(S:List gh) (l:Lg),(S.map bj.step).foldl Lg.next l= {l with steps:=l.steps++S}
 | [],l=>by simp
 |s::S,l=>by
  rw[List.map_cons,List.foldl_cons,j7 S];simp[Lg.next]
def cE (l:Lg):List bj:=.base l.age l.cap l.first l.base::(l.steps.map .step ++[.stamp])
theorem Aw (l:Lg) (S:List gh):bu (cE l++S.map .step)= {l with steps:=l.steps++S,sealed:=true}:=by
 rw[mG,j7];simp only[bu,cE,List.foldl_cons,List.foldl_append,List.foldl_nil,j7,Lg.next,Lg.zero,List.nil_append]
theorem mI:∀(R:List bj) (l:Lg),(∀r∈R,r.kind≠3)->(R.foldl Lg.next l).sealed =l.sealed
 | [],_,_=>rfl
 |r::R,l,h=>by
  rw[List.foldl_cons,mI R _ (fun x hx=>h x (by simp[hx]))]
  cases r with
  |base a c f P=>rfl
  |step s=>rfl
  |stamp=>exact absurd rfl (h .stamp (by simp))
theorem xL {R:List bj} (h:∀r∈R,r.kind≠3):(bu R).sealed =false:=mI R Lg.zero h
theorem BZ (l:Lg) {j:Nat} (hj:j<(cE l).length):∀r∈(cE l).take j,r.kind≠3:=fun r hr=>by
 have hlen:(cE l).length =l.steps.length+2:=by simp[cE]
 have h1:(cE l).take j=(bj.base l.age l.cap l.first l.base::l.steps.map .step).take j:=by
  rw[show cE l=(bj.base l.age l.cap l.first l.base::l.steps.map .step)++[.stamp] from rfl,List.take_append_of_le_length (by simp;omega)]
 rw[h1] at hr;have hr:=List.mem_of_mem_take hr
 rcases List.mem_cons.1 hr with e|e
 ·rw[e];simp[bj.kind]
 ·obtain⟨s,_,rfl⟩:=List.mem_map.1 e;simp[bj.kind]
structure gG (l:Lg):Prop where
 age:di l.age
 cap:di l.cap
 first:di l.first
 base:dM l.base
 steps:∀s∈l.steps,eJ s
theorem gG.recs {l:Lg} (h:gG l):∀r∈cE l,r.Ok:=fun r hr=>by
 rcases List.mem_cons.1 hr with e|e
 ·rw[e];exact⟨h.age,h.cap,h.first,h.base⟩
 ·rcases List.mem_append.1 e with e|e
  ·obtain⟨s,hs,rfl⟩:=List.mem_map.1 e;exact h.steps s hs
  ·simp at e;subst e;trivial
theorem gG.stm {l:Lg} (h:gG l) {S:List gh} (hS:∀s∈S,eJ s):vI (cE l++S.map .step):=fun i r hi=>by
 cases i with
 |zero=>
  simp[cE] at hi;subst hi;exact⟨⟨h.age,h.cap,h.first,h.base⟩,by simp[bj.kind]⟩
 |succ i=>
  have hm:r∈l.steps.map bj.step++[.stamp]++S.map .step :=by
   simp only[cE,List.cons_append,List.getElem?_cons_succ] at hi;exact List.mem_of_getElem? hi
  refine⟨?_,?_⟩
  ·rcases List.mem_append.1 hm with e|e
   ·exact h.recs r (List.mem_cons_of_mem _ e)
   ·obtain⟨s,hs,rfl⟩:=List.mem_map.1 e;exact hS s hs
  ·have hk:r.kind≠1:=by
    simp only[List.mem_append,List.mem_map,List.mem_singleton] at hm
    rcases hm with(⟨s,_,rfl⟩ |rfl) | ⟨s,_,rfl⟩<;>simp[bj.kind]
   exact⟨fun e=>absurd e hk,fun e=>by omega⟩
end Go.Proofs.YtcclpdfmmdonpaaGreat
