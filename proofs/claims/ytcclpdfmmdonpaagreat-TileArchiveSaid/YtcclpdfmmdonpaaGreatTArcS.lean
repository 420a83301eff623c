/- An archive and its disk, plain: what a commit and a Forget do to both, and that behind a loss of power the archive is in the state before or in that after. No program in sight. What a commit and a Forget leave on the disk, whatever operation fails (plain). -/
import Derived.Test.YtcclpdfmmdonpaaGreatTArcM
import Derived.Test.YtcclpdfmmdonpaaGreatTDkv
namespace Go.Proofs.YtcclpdfmmdonpaaGreat
open Go.RowKit
def gI:List Pt->List gh->List (List Pt)->Prop
 |b,[],L=>L=[b]
 |b,s::S,L=>∃q L',L=b::L'/\aM b s.add s.rem 0 q/\gI q S L'
theorem gI.len:∀{b:List Pt} {S:List gh} {L:List (List Pt)},gI b S L->L.length=S.length+1
 |_,[],_,h=>by rw[show _=_ from h];rfl
 |_,s::S,_,⟨q,L',e,_,h⟩=>by rw[e,List.length_cons,h.len];rfl
theorem gI.head:∀{b:List Pt} {S:List gh} {L:List (List Pt)},gI b S L->L[0]? =some b
 |_,[],_,h=>by rw[show _=_ from h];rfl
 |_,s::S,_,⟨q,L',e,_,h⟩=>by rw[e];rfl
theorem gI.snoc:∀{b:List Pt} {S:List gh} {L:List (List Pt)} {s:gh} {p q:List Pt},gI b S L->L[S.length]? =some p->aM p s.add s.rem 0 q->gI b (S++[s]) (L++[q])
 |b,[],L,s,p,q,h,hp,hm=>by
  have h:L=[b]:=h;subst h;simp at hp;subst hp;exact⟨q,[q],rfl,hm,rfl⟩
 |b,t::S,L,s,p,q,⟨r,L',e,h1,h2⟩,hp,hm=>by
  subst e;exact⟨r,L'++[q],rfl,h1,h2.snoc (by simpa using hp) hm⟩
theorem gI.drop:∀{n:Nat} {b:List Pt} {S:List gh} {L:List (List Pt)} {p:List Pt},gI b S L->L[n]? =some p->gI p (S.drop n) (L.drop n)
 |0,_,_,_,_,h,hp=>by
  rw[h.head] at hp;injection hp with hp
  subst hp;exact h
 |n+1,b,[],L,p,h,hp=>by
  have h:L=[b]:=h;subst h;simp at hp
 |n+1,b,s::S,L,p,⟨q,L',e,h1,h2⟩,hp=>by
  subst e;exact h2.drop (by simpa using hp)
theorem gI.step:∀{i:Nat} {b:List Pt} {S:List gh} {L:List (List Pt)} {s:gh} {p:List Pt},gI b S L->S[i]? =some s->L[i]? =some p->∃q,L[i+1]? =some q/\aM p s.add s.rem 0 q
 |i,b,[],L,s,p,h,hs,hp=>by simp at hs
 |0,b,t::S,L,s,p,⟨q,L',e,h1,h2⟩,hs,hp=>by
  subst e;simp at hs hp;subst hs hp;exact⟨q,by simpa using h2.head,h1⟩
 |i+1,b,t::S,L,s,p,⟨q,L',e,h1,h2⟩,hs,hp=>by
  subst e;obtain⟨r,h3,h4⟩:=h2.step (i:=i) (by simpa using hs) (by simpa using hp);exact⟨r,by simpa using h3,h4⟩
theorem mJ {L:List Pt} (hg:bQ L=true) (h:L.Pairwise (fun p q=>¬q.id<p.id)):L.Pairwise (fun p q=>p.id<q.id):=by
 have h2:=((cS L).1 hg).2.2;exact(h.and h2).imp (fun⟨a,b⟩=>by omega)
theorem aM.ptsOk {P A L:List Pt} {R:List Int} (h:aM P A R 0 L) (hP:dM P) (hA:bQ A=true):dM L:=⟨h.good hP.good hA rfl,mJ (h.good hP.good hA rfl) (h.asc rfl)⟩
theorem gI.ok:∀{b:List Pt} {S:List gh} {L:List (List Pt)},gI b S L->dM b->(∀s∈S,eJ s)->∀p∈L,dM p
 |b,[],L,h,hb,_,p,hp=>by
  have h:L=[b]:=h;subst h;simp at hp;subst hp;exact hb
 |b,s::S,L,⟨q,L',e,h1,h2⟩,hb,hS,p,hp=>by
  subst e
  rcases List.mem_cons.1 hp with rfl|hp
  ·exact hb
  ·exact h2.ok (h1.ptsOk hb (hS s (by simp)).add.good) (fun x hx=>hS x (by simp[hx])) p hp
theorem qD {P A A':List Pt} {R:List Int} (h:A.Perm A'):dH P A R↔dH P A' R:=⟨fun g a ha=>g a (h.mem_iff.2 ha),fun g a ha=>g a (h.mem_iff.1 ha)⟩
theorem pr {P A A':List Pt} {R:List Int} (h:A.Perm A'):bA P A R=bA P A' R:=by
 unfold bA;simp only[qD h,h.length_eq]
theorem aM.swap {P A A' L:List Pt} {R:List Int} {e:Int} (h:aM P A R e L) (hp:A.Perm A'):aM P A' R e L:=
 ⟨h.err.trans (pr hp),h.none,fun he=>(h.perm he).trans (hp.append_right _),h.asc⟩
structure Ac where
 lg:Lg
 torn:Bool
 pts:List (List Pt)
 c:Int
 file:Int
 dead:Bool
def Ac.empty (c:Int):Ac:=⟨⟨0,c,0,[],[],false⟩,false,[[]],c,-1,false⟩
structure iR (b:List Nat) (R:List bj) (t:List Nat):Prop where
 eq:b=bG R++t
 stm:vI R
 torn:mU t
theorem iR.len {b:List Nat} {R:List bj} {t:List Nat} (h:iR b R t):b.length<=170000+1200*R.length:=by
 have h1:=h.stm.len;have h2:=h.torn.len;rw[h.eq,List.length_append];omega
theorem iR.nil:iR [] [] []:=⟨rfl,vI.nil,mU.nil⟩
def Lg.same (l m:Lg):Prop:=l.age=m.age/\l.cap=m.cap/\l.first=m.first/\l.base=m.base/\l.steps=m.steps
def Kz (R:List bj) (t:List Nat) (a:Ac):Prop:=(bu R).sealed =true/\(bu R).same a.lg/\a.torn=decide (t≠[])/\R≠[]
def DD (R:List bj) (age:Int):Prop:=(bu R).sealed =false∨(bu R).age <age
def dG (file:Int):Int:=if file=0 then 1 else 0
theorem kY (f:Int):dG f=0∨dG f=1:=by unfold dG;split<;>omega
theorem rx {f:Int} (h:f=0∨f=1):dG (dG f)=f:=by rcases h with rfl|rfl<;>rfl
theorem nN {f:Int} (h:f= -1∨f=0∨f=1):f≠dG f:=by rcases h with rfl|rfl|rfl<;>decide
def Dk.get (d:Dk) (i:Int):Fi:=if i=0 then d.f0 else d.f1
def Ac.fresh (a:Ac):Prop:=a.lg.age=0/\a.lg.first=0/\a.lg.base=[]/\a.lg.steps=[]/\a.torn=false
def gq (N:Nat) (d:Dk) (a:Ac) (i:Int):Prop:=∃R t R' t',iR (d.get i).b R t/\iR (d.get (dG i)).b R' t'/\R.length<=N+2/\R'.length<=N+2/\
 ((a.file= -1/\(bu R).sealed =false/\(bu R').sealed =false/\a.fresh)∨(a.file=i/\Kz R t a/\DD R' a.lg.age)∨(a.file=dG i/\Kz R' t' a/\DD R a.lg.age))
theorem gq.swap {N:Nat} {d:Dk} {a:Ac} {i:Int} (hi:i=0∨i=1) (h:gq N d a i):gq N d a (dG i):=by
 obtain⟨R,t,R',t',h1,h2,h3,h4,h5⟩:=h;refine⟨R',t',R,t,h2,by rw[rx hi];exact h1,h4,h3,?_⟩
 rcases h5 with⟨a1,a2,a3,a4⟩ | ⟨a1,a2,a3⟩ | ⟨a1,a2,a3⟩
 ·exact .inl ⟨a1,a3,a2,a4⟩
 ·exact .inr (.inr ⟨by rw[rx hi];exact a1,a2,a3⟩)
 ·exact .inr (.inl ⟨a1,a2,a3⟩)
theorem gq.to {N:Nat} {d:Dk} {a:Ac} {i j:Int} (hi:i=0∨i=1) (hj:j=0∨j=1) (h:gq N d a i):gq N d a j:=by
 rcases hi with rfl|rfl<;>rcases hj with rfl|rfl
 ·exact h
 ·exact h.swap (.inl rfl)
 ·exact h.swap (.inr rfl)
 ·exact h
structure aS (N:Nat) (d:Dk) (a:Ac):Prop where
 up:d.dn=false
 l0:0<=d.lf
 l1:d.lf<=9223372036854775807
 dead:a.dead=false
 c1:1<=a.c
 c2:a.c<=64
 cap:a.lg.cap=a.c
 runs:gI a.lg.base a.lg.steps a.pts
 ok:gG a.lg
 safe:∀i,(d.get i).s =(d.get i).b.length
 few:a.lg.steps.length<=N
 young:0<=a.lg.age/\a.lg.age<=N
 low:0<=a.lg.first/\a.lg.first+a.lg.steps.length<=N
 files:gq N d a 0
theorem aS.bit {N:Nat} {d:Dk} {a:Ac} (h:aS N d a):a.file= -1∨a.file=0∨a.file=1:=by
 obtain⟨R,t,R',t',_,_,_,_,h5⟩:=h.files
 rcases h5 with⟨a1,_⟩ | ⟨a1,_⟩ | ⟨a1,_⟩
 ·exact .inl a1
 ·exact .inr (.inl a1)
 ·exact .inr (.inr a1)
theorem aS.at {N:Nat} {d:Dk} {a:Ac} (h:aS N d a) {i:Int} (hi:i=0∨i=1):gq N d a i:=h.files.to (.inl rfl) hi
theorem aS.dk {N:Nat} {d:Dk} {a:Ac} (h:aS N d a) (hN:N<=40):iV d:=by
 obtain⟨R0,t0,R1,t1,h0,h1,n0,n1,_⟩:=h.files;have e0:=h0.len;have e1:=h1.len;have s0:=h.safe 0;have s1:=h.safe 1;simp only[Dk.get,dG,if_pos,if_neg (show ¬(1:Int)=0 by decide)] at e0 e1 s0 s1;exact⟨h.l0,h.l1,by omega,by omega,by omega,by omega⟩
theorem aS.mono {N M:Nat} {d:Dk} {a:Ac} (h:aS N d a) (hN:N<=M):aS M d a:=by
 obtain⟨R0,t0,R1,t1,h0,h1,n0,n1,hf⟩:=h.files;have:=h.few;have:=h.young;have:=h.low;exact⟨h.up,h.l0,h.l1,h.dead,h.c1,h.c2,h.cap,h.runs,h.ok,h.safe,by omega,by omega,by omega,R0,t0,R1,t1,h0,h1,by omega,by omega,hf⟩
theorem cJ {f:Fi} (h:f.s=f.b.length) (k:Int):f.lost k=f:=by
 obtain⟨b,s⟩:=f;simp only at h;subst h;simp[Fi.lost]
theorem iL {f:Fi} (h:f.s<=f.b.length) (k:Int):(f.lost k).s =(f.lost k).b.length :=by
 simp only[Fi.lost,List.length_take];omega
theorem aS.crash {N:Nat} {d:Dk} {a:Ac} (h:aS N d a) (k0 k1:Int):(d.crash k0 k1).start =⟨false,0,d.f0,d.f1⟩/\aS N ⟨false,0,d.f0,d.f1⟩ a:=by
 have s0:=h.safe 0;have s1:=h.safe 1;simp only[Dk.get,if_pos,if_neg (show ¬(1:Int)=0 by decide)] at s0 s1;refine⟨?_,⟨rfl,Int.le_refl _,(show(0:Int)<=9223372036854775807 by decide),h.dead,h.c1,h.c2,h.cap,h.runs,h.ok,h.safe,h.few,h.young,h.low,h.files⟩⟩;simp only[Dk.crash,Dk.start,if_pos,cJ s0,cJ s1]
theorem yW {c:Int} (h1:1<=c) (h2:c<=64):aS 0 Dk.new (Ac.empty c):=by
 refine⟨rfl,Int.le_refl _,by decide,rfl,h1,h2,rfl,rfl,?_,?_,Nat.le_refl _,⟨Int.le_refl _,Int.le_refl _⟩,⟨Int.le_refl _,Int.le_refl _⟩,[],[],[],[],?_,?_,by simp,by simp,.inl ⟨rfl,rfl,rfl,rfl,rfl,rfl,rfl,rfl⟩⟩
 ·have z:di 0:=⟨by decide,by decide⟩;exact⟨z,⟨by show(0:Int)<=c;omega,by show c<=_;omega⟩,z,dM.nil,fun s hs=>by simp[Ac.empty] at hs⟩
 ·intro i;unfold Dk.get
  split<;>rfl
 iterate 2 (·exact iR.nil)
def Dk.rw (d:Dk) (o:Int) (bs:List Nat):Int×Dk:=
 if(d.op o Fi.clr).1 ≠0 then d.op o Fi.clr
 else if((d.op o Fi.clr).2.op o (Fi.app bs)).1 ≠0 then(d.op o Fi.clr).2.op o (Fi.app bs)
 else((d.op o Fi.clr).2.op o (Fi.app bs)).2.op o Fi.syn
def Dk.put (d:Dk) (i:Int) (bs:List Nat):Int×Dk:=
 if(d.op i (Fi.app bs)).1 ≠0 then d.op i (Fi.app bs) else(d.op i (Fi.app bs)).2.op i Fi.syn
structure Dk.is (d:Dk) (dn:Bool) (lf:Int) (i:Int) (x y:Fi):Prop where
 dn:d.dn=dn
 lf:d.lf=lf
 it:d.get i=x
 ot:d.get (dG i)=y
theorem pJ {d:Dk} {lf i:Int} {x y:Fi} (h:d.is false lf i x y) (hi:i=0∨i=1) (hl:0<=lf) (F:Fi->Fi):
 (lf=1/\(d.op i F).1 =82/\(d.op i F).2.is true 0 i x y)∨(lf≠1/\(d.op i F).1 =0/\(d.op i F).2.is false (mW lf) i (F x) y):=by
 obtain⟨dn,l,f0,f1⟩:=d;obtain⟨h1,h2,h3,h4⟩:=h;simp only at h1 h2;subst h1 h2;by_cases h1:l=1
 ·left;subst h1;exact⟨rfl,rfl,rfl,rfl,h3,h4⟩
 ·right;refine⟨h1,by simp[Dk.op,h1],?_⟩
  rcases hi with rfl|rfl
  iterate 2 (·simp only[Dk.get,dG,if_pos,if_neg (show ¬(1:Int)=0 by decide)] at h3 h4;subst h3 h4;exact⟨by simp[Dk.op,h1],by simp[Dk.op,h1],by simp[Dk.op,h1,Dk.get],by simp[Dk.op,h1,Dk.get,dG]⟩)
theorem fK {lf:Int} (h:0<=lf):0<=mW lf/\mW lf<=lf:=by
 unfold mW
 split<;>omega
theorem Jj {d:Dk} {lf i:Int} {x y:Fi} (h:d.is false lf i x y) (hi:i=0∨i=1) (hl:0<=lf) (bs:List Nat):
 ((d.rw i bs).1 =0/\∃lf',0<=lf'/\lf'<=lf/\(d.rw i bs).2.is false lf' i ⟨bs,bs.length⟩ y)∨
 ((d.rw i bs).1 =82/\lf≠0/\∃z,(z=x∨z=⟨[],0⟩∨z=⟨bs,0⟩)/\(d.rw i bs).2.is true 0 i z y):=by
 have s1:=fK hl;unfold Dk.rw
 rcases pJ h hi hl Fi.clr with⟨e1,e2,e3⟩ | ⟨e1,e2,e3⟩
 ·rw[if_pos (by rw[e2];decide)];exact .inr ⟨e2,by omega,x,.inl rfl,e3⟩
 ·rw[if_neg (by rw[e2];decide)];have s2:=fK s1.1
  rcases pJ e3 hi s1.1 (Fi.app bs) with⟨q1,q2,q3⟩ | ⟨q1,q2,q3⟩
  ·rw[if_pos (by rw[q2];decide)];refine .inr ⟨q2,?_,⟨[],0⟩,.inr (.inl rfl),q3⟩;intro h0;subst h0;exact absurd q1 (by decide)
  ·rw[if_neg (by rw[q2];decide)]
   rcases pJ q3 hi s2.1 Fi.syn with⟨r1,r2,r3⟩ | ⟨r1,r2,r3⟩
   ·refine .inr ⟨r2,?_,⟨bs,0⟩,.inr (.inr rfl),r3⟩;intro h0;subst h0;exact absurd r1 (by decide)
   ·have s3:=fK s2.1;exact .inl ⟨r2,_,s3.1,by omega,r3⟩
theorem Gi {d:Dk} {lf i:Int} {x y:Fi} (h:d.is false lf i x y) (hi:i=0∨i=1) (hl:0<=lf) (bs:List Nat):
 ((d.put i bs).1 =0/\∃lf',0<=lf'/\lf'<=lf/\(d.put i bs).2.is false lf' i ⟨x.b++bs,(x.b++bs).length⟩ y)∨
 ((d.put i bs).1 =82/\lf≠0/\∃z,(z=x∨z=⟨x.b++bs,x.s⟩)/\(d.put i bs).2.is true 0 i z y):=by
 have s1:=fK hl;unfold Dk.put
 rcases pJ h hi hl (Fi.app bs) with⟨e1,e2,e3⟩ | ⟨e1,e2,e3⟩
 ·rw[if_pos (by rw[e2];decide)];exact .inr ⟨e2,by omega,x,.inl rfl,e3⟩
 ·rw[if_neg (by rw[e2];decide)];have s2:=fK s1.1
  rcases pJ e3 hi s1.1 Fi.syn with⟨q1,q2,q3⟩ | ⟨q1,q2,q3⟩
  ·refine .inr ⟨q2,?_,_,.inr rfl,q3⟩;intro h0;subst h0;exact absurd q1 (by decide)
  ·exact .inl ⟨q2,_,s2.1,by omega,q3⟩
theorem oJ {d:Dk} {i:Int} {x y:Fi} (h:d.is true 0 i x y) (hi:i=0∨i=1) (hx:x.s<=x.b.length) (hy:y.s=y.b.length) (k0 k1:Int):∃k,((d.crash k0 k1).start).is false 0 i (x.lost k) y:=by
 obtain⟨dn,l,f0,f1⟩:=d;obtain⟨h1,h2,h3,h4⟩:=h;simp only at h1 h2;subst h1 h2
 rcases hi with rfl|rfl
 ·simp only[Dk.get,dG,if_pos,if_neg (show ¬(1:Int)=0 by decide)] at h3 h4;subst h3 h4;refine⟨k0,rfl,rfl,?_,?_⟩
  ·show(f0.lost k0).lost 0=_;exact cJ (iL hx k0) 0
  ·show(f1.lost k1).lost 0=_;rw[cJ hy,cJ hy]
 ·simp only[Dk.get,dG,if_pos,if_neg (show ¬(1:Int)=0 by decide)] at h3 h4;subst h3 h4;refine⟨k1,rfl,rfl,?_,?_⟩
  ·show(f1.lost k1).lost 0=_;exact cJ (iL hx k1) 0
  ·show(f0.lost k0).lost 0=_;rw[cJ hy,cJ hy]
theorem aS.is {N:Nat} {d:Dk} {a:Ac} (h:aS N d a) (i:Int):d.is false d.lf i (d.get i) (d.get (dG i)):=⟨h.up,rfl,rfl,rfl⟩
theorem jE {d:Dk} {dn:Bool} {lf i:Int} {x y:Fi} (h:d.is dn lf i x y) (hi:i=0∨i=1) (hx:x.s=x.b.length) (hy:y.s=y.b.length):∀j,(d.get j).s =(d.get j).b.length :=fun j=>by
 have h1:=h.it;have h2:=h.ot
 rcases hi with rfl|rfl
 ·simp only[Dk.get,dG,if_pos,if_neg (show ¬(1:Int)=0 by decide)] at h1 h2;unfold Dk.get
  split
  ·rw[h1];exact hx
  ·rw[h2];exact hy
 ·simp only[Dk.get,dG,if_pos,if_neg (show ¬(1:Int)=0 by decide)] at h1 h2;unfold Dk.get
  split
  ·rw[h2];exact hy
  ·rw[h1];exact hx
theorem aS.other {N:Nat} {d d':Dk} {a:Ac} {lf:Int} {z:Fi} {R:List bj} {t:List Nat} (h:aS N d a) (hd:d'.is false lf (dG a.file) z (d.get (dG (dG a.file)))) (hl:0<=lf) (hl1:lf<=9223372036854775807)
 (hz:z.s=z.b.length) (hc:iR z.b R t) (hR:(bu R).sealed =false) (hn:R.length<=N+3):aS (N+1) d' a:=by
 have hb:=kY a.file;have h2:=h.few;have h3:=h.young;have h4:=h.low;refine⟨hd.dn,by rw[hd.lf];exact hl,by rw[hd.lf];exact hl1,h.dead,h.c1,h.c2,h.cap,h.runs,h.ok,jE hd hb hz (h.safe _),by omega,by omega,by omega,?_⟩;refine gq.to hb (.inl rfl) ?_;obtain⟨R0,t0,R',t',q0,q1,q2,q3,q4⟩:=h.at hb;refine⟨R,t,R',t',by rw[hd.it];exact hc,by rw[hd.ot];exact q1,by omega,by omega,?_⟩
 rcases q4 with⟨a1,a2,a3,a4⟩ | ⟨a1,a2,a3⟩ | ⟨a1,a2,a3⟩
 ·exact .inl ⟨a1,hR,a3,a4⟩
 ·exact absurd a1 (nN h.bit)
 ·exact .inr (.inr ⟨a1,a2,.inl hR⟩)
theorem aS.newer {N:Nat} {d d':Dk} {a:Ac} {lf:Int} {z:Fi} {l:Lg} {L:List (List Pt)} (h:aS N d a) (hd:d'.is false lf (dG a.file) z (d.get (dG (dG a.file)))) (hl:0<=lf) (hl1:lf<=9223372036854775807)
 (hz:z.s=z.b.length) (hc:z.b=bG (cE l)) (hok:gG l) (hage:l.age=a.lg.age+1) (hcap:l.cap=a.c) (hr:gI l.base l.steps L) (hlow:0<=l.first/\l.first+l.steps.length<=(N+1:Nat)):
 aS (N+1) d' ⟨l,false,L,a.c,dG a.file,false⟩:=by
 have hb:=kY a.file;have h3:=h.young;refine⟨hd.dn,by rw[hd.lf];exact hl,by rw[hd.lf];exact hl1,rfl,h.c1,h.c2,hcap,hr,hok,jE hd hb hz (h.safe _),?_,?_,hlow,?_⟩
 ·show l.steps.length<=N+1;omega
 ·show 0<=l.age/\l.age<=(N+1:Nat);omega
 refine gq.to hb (.inl rfl) ?_;obtain⟨R0,t0,R',t',q0,q1,q2,q3,q4⟩:=h.at hb;have hs:=hok.stm (S:=[]) (fun s hs=>by simp at hs);have hg:=Aw l [];rw[List.map_nil,List.append_nil] at hs hg;rw[List.append_nil] at hg;refine⟨cE l,[],R',t',by rw[hd.it];exact⟨by rw[hc,List.append_nil],hs,mU.nil⟩,by rw[hd.ot];exact q1,?_,by omega,.inr (.inl ⟨rfl,⟨by rw[hg],by rw[hg];exact⟨rfl,rfl,rfl,rfl,rfl⟩,rfl,by simp[cE]⟩,?_⟩)⟩
 ·have:(cE l).length =l.steps.length+2:=by simp[cE]
  omega
 ·show DD R' l.age
  rcases q4 with⟨a1,a2,a3,a4⟩ | ⟨a1,a2,a3⟩ | ⟨a1,a2,a3⟩
  ·exact .inl a3
  ·exact absurd a1 (nN h.bit)
  ·exact .inr (by rw[a2.2.1.1];omega)
theorem aS.fallen {N:Nat} {d d':Dk} {a:Ac} {z:Fi} {l:Lg} {L:List (List Pt)} (h:aS N d a) (hd:d'.is true 0 (dG a.file) z (d.get (dG (dG a.file)))) (hz:z=d.get (dG a.file)∨z=⟨[],0⟩∨z=⟨bG (cE l),0⟩)
 (hok:gG l) (hage:l.age=a.lg.age+1) (hcap:l.cap=a.c) (hr:gI l.base l.steps L) (hlow:0<=l.first/\l.first+l.steps.length<=(N+1:Nat)) (k0 k1:Int):
 aS (N+1) ((d'.crash k0 k1).start) a∨aS (N+1) ((d'.crash k0 k1).start) ⟨l,false,L,a.c,dG a.file,false⟩:=by
 have hb:=kY a.file;have hzs:z.s<=z.b.length:=by
  rcases hz with rfl|rfl|rfl
  ·rw[h.safe];exact Nat.le_refl _
  ·exact Nat.le_refl _
  ·exact Nat.zero_le _
 obtain⟨k,hk⟩:=oJ hd hb hzs (h.safe _) k0 k1;have hsafe:=iL hzs k
 rcases hz with rfl|rfl|rfl
 ·left;obtain⟨R0,t0,R',t',q0,q1,q2,q3,q4⟩:=h.at hb;rw[cJ (h.safe _)] at hk hsafe
  rcases q4 with⟨a1,a2,a3,a4⟩ | ⟨a1,a2,a3⟩ | ⟨a1,a2,a3⟩
  ·exact h.other hk (Int.le_refl _) (by decide) hsafe q0 a2 (by omega)
  ·exact absurd a1 (nN h.bit)
  ·have h2:=h.few;have h3:=h.young;have h4:=h.low;refine⟨hk.dn,by rw[hk.lf];exact Int.le_refl _,by rw[hk.lf];decide,h.dead,h.c1,h.c2,h.cap,h.runs,h.ok,jE hk hb hsafe (h.safe _),by omega,by omega,by omega,?_⟩;refine gq.to hb (.inl rfl) ?_;exact⟨R0,t0,R',t',by rw[hk.it];exact q0,by rw[hk.ot];exact q1,by omega,by omega,.inr (.inr ⟨a1,a2,a3⟩)⟩
 ·left
  exact h.other hk (Int.le_refl _) (by decide) hsafe (show iR ((⟨[],0⟩:Fi).lost k).b [] [] by
   rw[show((⟨[],0⟩:Fi).lost k).b =[] by simp[Fi.lost]]
   exact iR.nil) rfl (by simp)
 ·have hlen:(cE l).length =l.steps.length+2:=by simp[cE]
  obtain⟨m,hm⟩:∃m,m=min k.toNat ((bG (cE l)).length -0):=⟨_,rfl⟩;have hbm:((⟨bG (cE l),0⟩:Fi).lost k).b =(bG (cE l)).take m:=by
   simp only[Fi.lost,Nat.zero_add,hm]
  obtain⟨j,t,e1,e2,e3,e4,e5⟩:=qA (cE l) hok.recs m (by omega);by_cases hfull:m=(bG (cE l)).length
  ·right;refine h.newer hk (Int.le_refl _) (by decide) hsafe ?_ hok hage hcap hr hlow;rw[hbm,hfull,List.take_length]
  ·left;have hj:=e4 (by omega);have hs:=hok.stm (S:=[]) (fun s hs=>by simp at hs);rw[List.map_nil,List.append_nil] at hs;refine h.other hk (Int.le_refl _) (by decide) hsafe (R:=(cE l).take j) (t:=t) ⟨by rw[hbm];exact e1,hs.take j,e2⟩ (xL (BZ l hj)) ?_;rw[List.length_take];have:l.steps.length<=N+1:=by omega
   omega
open Go.RowKit
theorem aS.same {N:Nat} {d d':Dk} {a:Ac} {lf i:Int} (h:aS N d a) (hi:i=0∨i=1) (hd:d'.is false lf i (d.get i) (d.get (dG i))) (hl:0<=lf) (hl1:lf<=9223372036854775807):aS N d' a:=by
 refine⟨hd.dn,by rw[hd.lf];exact hl,by rw[hd.lf];exact hl1,h.dead,h.c1,h.c2,h.cap,h.runs,h.ok,jE hd hi (h.safe _) (h.safe _),h.few,h.young,h.low,?_⟩;refine gq.to hi (.inl rfl) ?_;obtain⟨R0,t0,R',t',q0,q1,q2,q3,q4⟩:=h.at hi;exact⟨R0,t0,R',t',by rw[hd.it];exact q0,by rw[hd.ot];exact q1,q2,q3,q4⟩
theorem AR {d:Dk} {dn:Bool} {lf i:Int} {x y:Fi} (h:d.is dn lf i x y) (hi:i=0∨i=1) (hl:0<=lf) (hl1:lf<=9223372036854775807) (hx:x.s<=x.b.length) (hy:y.s<=y.b.length) (hx1:x.b.length<=1000000) (hy1:y.b.length<=1000000):iV d:=by
 have h1:=h.it;have h2:=h.ot;have h3:=h.lf
 rcases hi with rfl|rfl
 all_goals
  simp only[Dk.get,dG,if_pos,if_neg (show ¬(1:Int)=0 by decide)] at h1 h2;subst h1 h2 h3;exact⟨hl,hl1,by assumption,by assumption,by assumption,by assumption⟩
theorem aS.long {N:Nat} {d:Dk} {a:Ac} (h:aS N d a) (hN:N<=40) (i:Int):(d.get i).b.length <=1000000:=by
 have:=h.dk hN;unfold Dk.get
 split
 ·exact this.n0
 ·exact this.n1
def Ac.frs (a:Ac):Bool:=decide (a.file<0) || a.torn
def Ac.lgN (a:Ac) (s:gh):Lg:={a.lg with age:=if a.frs=true then a.lg.age+1 else a.lg.age,steps:=a.lg.steps++[s]}
def Ac.cmt (a:Ac) (s:gh) (q:List Pt):Ac:=⟨a.lgN s,false,a.pts++[q],a.c,if a.frs=true then dG a.file else a.file,false⟩
def Ac.cmtD (a:Ac) (s:gh) (d:Dk):Int×Dk:=if a.frs=true then d.rw (dG a.file) (bG (cE (a.lgN s))) else d.put a.file (bj.step s).enc
theorem gG.lgN {N:Nat} {d:Dk} {a:Ac} (h:aS N d a) (hN:N<=40) {s:gh} (hs:eJ s):gG (a.lgN s):=by
 have h3:=h.young;refine⟨?_,h.ok.cap,h.ok.first,h.ok.base,?_⟩
 ·unfold Ac.lgN di;simp only
  split<;>omega
 ·intro x hx
  rcases List.mem_append.1 hx with hx|hx
  ·exact h.ok.steps x hx
  ·simp at hx;subst hx;exact hs
theorem qt (R:List bj) (s:gh):bu (R++[.step s])= {bu R with steps:=(bu R).steps ++[s]}:=by
 rw[mG];rfl
theorem aS.append {N:Nat} {d d':Dk} {a:Ac} {lf:Int} {z:Fi} {s:gh} {p q:List Pt} (h:aS N d a) (hf:a.frs=false) (hi:a.file=0∨a.file=1) (hd:d'.is false lf a.file z (d.get (dG a.file))) (hl:0<=lf) (hl1:lf<=9223372036854775807)
 (hz:z.s=z.b.length) (hzb:z.b=(d.get a.file).b ++(bj.step s).enc) (hs:eJ s) (hN:N<=40) (hp:a.pts[a.lg.steps.length]? =some p) (hm:aM p s.add s.rem 0 q):aS (N+1) d' (a.cmt s q):=by
 have h2:=h.few;have h3:=h.young;have h4:=h.low;have hlen:(a.lgN s).steps.length =a.lg.steps.length+1:=by simp[Ac.lgN]
 have hage:(a.lgN s).age =a.lg.age:=by simp[Ac.lgN,hf]
 refine⟨hd.dn,by rw[hd.lf];exact hl,by rw[hd.lf];exact hl1,rfl,h.c1,h.c2,h.cap,h.runs.snoc hp hm,gG.lgN h hN hs,jE hd hi hz (h.safe _),?_,?_,?_,?_⟩
 ·show(a.lgN s).steps.length <=N+1;omega
 ·show 0<=(a.lgN s).age /\(a.lgN s).age <=(N+1:Nat);omega
 ·show 0<=a.lg.first/\a.lg.first+(a.lgN s).steps.length <=(N+1:Nat);omega
 refine gq.to hi (.inl rfl) ?_;obtain⟨R0,t0,R',t',q0,q1,q2,q3,q4⟩:=h.at hi
 rcases q4 with⟨a1,a2,a3,a4⟩ | ⟨a1,a2,a3⟩ | ⟨a1,a2,a3⟩
 ·rw[a1] at hi;omega
 ·have ht:t0=[]:=by
   have ht:=a2.2.2.1;simp only[Ac.frs,Bool.or_eq_false_iff] at hf;rw[hf.2] at ht;simpa using ht.symm
  refine⟨R0++[.step s],[],R',t',by
   rw[hd.it]
   refine⟨by rw[hzb,q0.eq,ht,mp,List.append_nil,List.append_nil];simp[bG],q0.stm.snoc hs (by simp[bj.kind]) a2.2.2.2,mU.nil⟩,by rw[hd.ot];exact q1,by simp;omega,by omega,.inr (.inl ⟨?_,?_,?_⟩)⟩
  ·show(if a.frs=true then dG a.file else a.file)=a.file;rw[if_neg (by rw[hf];decide)]
  ·obtain⟨b1,b2,b3,b4⟩:=a2;refine⟨by rw[qt];exact b1,?_,rfl,by simp⟩;rw[qt];refine⟨by rw[show(a.cmt s q).lg.age =a.lg.age from hage];exact b2.1,b2.2.1,b2.2.2.1,b2.2.2.2.1,?_⟩;show(bu R0).steps ++[s]=a.lg.steps++[s];rw[b2.2.2.2.2]
  ·show DD R' (a.lgN s).age;rw[hage];exact a3
 ·have hne:=nN h.bit;exact absurd a1 hne
theorem aS.tornAt {N:Nat} {d d':Dk} {a:Ac} {lf:Int} {z:Fi} {s:gh} {k:Nat} (h:aS N d a) (hf:a.frs=false) (hi:a.file=0∨a.file=1) (hd:d'.is false lf a.file z (d.get (dG a.file))) (hl:0<=lf) (hl1:lf<=9223372036854775807)
 (hz:z.s=z.b.length) (hk:k<(bj.step s).enc.length) (hzb:z.b=(d.get a.file).b ++(bj.step s).enc.take k) (hs:eJ s):aS (N+1) d' {a with torn:=decide ((bj.step s).enc.take k≠[])}:=by
 have h2:=h.few;have h3:=h.young;have h4:=h.low;refine⟨hd.dn,by rw[hd.lf];exact hl,by rw[hd.lf];exact hl1,h.dead,h.c1,h.c2,h.cap,h.runs,h.ok,jE hd hi hz (h.safe _),by show a.lg.steps.length<=N+1;omega,by show 0<=a.lg.age/\a.lg.age<=(N+1:Nat);omega,by show 0<=a.lg.first/\a.lg.first+a.lg.steps.length<=(N+1:Nat);omega,?_⟩;refine gq.to hi (.inl rfl) ?_;obtain⟨R0,t0,R',t',q0,q1,q2,q3,q4⟩:=h.at hi
 rcases q4 with⟨a1,a2,a3,a4⟩ | ⟨a1,a2,a3⟩ | ⟨a1,a2,a3⟩
 ·rw[a1] at hi;omega
 ·have ht:t0=[]:=by
   have ht:=a2.2.2.1;simp only[Ac.frs,Bool.or_eq_false_iff] at hf;rw[hf.2] at ht;simpa using ht.symm
  refine⟨R0,(bj.step s).enc.take k,R',t',by
   rw[hd.it]
   exact⟨by rw[hzb,q0.eq,ht,List.append_nil],q0.stm,⟨.step s,hs,k,hk,rfl⟩⟩,by rw[hd.ot];exact q1,by omega,by omega,.inr (.inl ⟨rfl,⟨a2.1,a2.2.1,rfl,a2.2.2.2⟩,a3⟩)⟩
 ·have hne:=nN h.bit;exact absurd a1 hne
def Bk (N:Nat) (d:Dk) (a:Ac) (x:Ac):Prop:=d.dn=true/\iV d/\∀k0 k1,∃y,aS N ((d.crash k0 k1).start) y/\y.c=a.c/\((y.lg.first=a.lg.first/\y.pts=a.pts)∨(y.lg.first=x.lg.first/\y.pts=x.pts))
theorem rC {l:Lg} (hok:gG l):(bG (cE l)).length <=84000+1200*(l.steps.length+2):=by
 have hs:=hok.stm (S:=[]) (fun s hs=>by simp at hs);rw[List.map_nil,List.append_nil] at hs;have:=hs.len;have hl:(cE l).length =l.steps.length+2:=by simp[cE]
 rw[hl] at this;exact this
theorem zZ {N:Nat} {d:Dk} {a:Ac} {l:Lg} {L:List (List Pt)} (h:aS N d a) (hN:N<=40) (hok:gG l) (hage:l.age=a.lg.age+1) (hcap:l.cap=a.c) (hr:gI l.base l.steps L) (hlow:0<=l.first/\l.first+l.steps.length<=(N+1:Nat)):
 ((d.rw (dG a.file) (bG (cE l))).1 =0/\aS (N+1) (d.rw (dG a.file) (bG (cE l))).2 ⟨l,false,L,a.c,dG a.file,false⟩/\∃lf',lf'<=d.lf/\(d.rw (dG a.file) (bG (cE l))).2.lf =lf')∨
 ((d.rw (dG a.file) (bG (cE l))).1 =82/\d.lf≠0/\Bk (N+1) (d.rw (dG a.file) (bG (cE l))).2 a ⟨l,false,L,a.c,dG a.file,false⟩):=by
 have hb:=kY a.file;have Lp:(bG (cE l)).length <=1000000:=by
  have hll:=rC hok;have h9:=hlow.2;have h8:=hlow.1;clear hr hlow;have h7:l.steps.length<=41:=by omega
  clear h8 h9 hN h;exact Nat.le_trans hll (by omega)
 rcases Jj (h.is (dG a.file)) hb h.l0 (bG (cE l)) with⟨e1,lf',f1,f2,e2⟩ | ⟨e1,e0,z,hz,e2⟩
 ·have hl1:=h.l1;exact .inl ⟨e1,h.newer e2 f1 (by omega) rfl rfl hok hage hcap hr hlow,lf',f2,e2.lf⟩
 ·refine .inr ⟨e1,e0,e2.dn,?_,fun k0 k1=>?_⟩
  ·refine AR e2 hb (Int.le_refl _) (by decide) ?_ (by rw[h.safe];exact Nat.le_refl _) ?_ (h.long hN _)
   ·rcases hz with rfl|rfl|rfl
    ·rw[h.safe];exact Nat.le_refl _
    ·exact Nat.le_refl _
    ·exact Nat.zero_le _
   ·rcases hz with rfl|rfl|rfl
    ·exact h.long hN _
    ·exact Nat.zero_le 1000000
    ·exact Lp
  ·rcases h.fallen e2 hz hok hage hcap hr hlow k0 k1 with g|g
   ·exact⟨_,g,rfl,.inl ⟨rfl,rfl⟩⟩
   ·exact⟨_,g,rfl,.inr ⟨rfl,rfl⟩⟩
theorem lI {N:Nat} {d:Dk} {a:Ac} {s:gh} {p q:List Pt} (h:aS N d a) (hN:N<=40) (hs:eJ s) (hp:a.pts[a.lg.steps.length]? =some p) (hm:aM p s.add s.rem 0 q):
 ((a.cmtD s d).1 =0/\aS (N+1) (a.cmtD s d).2 (a.cmt s q))∨((a.cmtD s d).1 =82/\d.lf≠0/\Bk (N+1) (a.cmtD s d).2 a (a.cmt s q)):=by
 have h2:=h.few;have h3:=h.young;have h4:=h.low;have hlen:(a.lgN s).steps.length =a.lg.steps.length+1:=by simp[Ac.lgN]
 by_cases hf:a.frs=true
 ·have hcm:a.cmt s q=⟨a.lgN s,false,a.pts++[q],a.c,dG a.file,false⟩:=by
   unfold Ac.cmt;rw[if_pos hf]
  have hcd:a.cmtD s d=d.rw (dG a.file) (bG (cE (a.lgN s))):=if_pos hf;rw[hcm,hcd]
  rcases zZ h hN (gG.lgN h hN hs) (by simp[Ac.lgN,hf]) h.cap (h.runs.snoc hp hm) (by
   show 0<=a.lg.first/\a.lg.first+(a.lgN s).steps.length <=(N+1:Nat)
   omega) with⟨e1,e2,_⟩ | ⟨e1,e2,e3⟩
  ·exact .inl ⟨e1,e2⟩
  ·exact .inr ⟨e1,e2,e3⟩
 ·have hf:a.frs=false:=by simpa using hf
  have hcd:a.cmtD s d=d.put a.file (bj.step s).enc :=if_neg (by rw[hf];decide);rw[hcd];have hi:a.file=0∨a.file=1:=by
   simp only[Ac.frs,Bool.or_eq_false_iff,decide_eq_false_iff_not] at hf;have:=h.bit;omega
  have hsm:=ig (r:=.step s) hs (by simp[bj.kind])
  rcases Gi (h.is a.file) hi h.l0 (bj.step s).enc with⟨e1,lf',f1,f2,e2⟩ | ⟨e1,e0,z,hz,e2⟩
  ·have hl1:=h.l1;exact .inl ⟨e1,h.append hf hi e2 f1 (by omega) rfl rfl hs hN hp hm⟩
  ·refine .inr ⟨e1,e0,e2.dn,?_,fun k0 k1=>?_⟩
   ·refine AR e2 hi (Int.le_refl _) (by decide) ?_ (by rw[h.safe];exact Nat.le_refl _) ?_ (h.long hN _)
    ·rcases hz with rfl|rfl
     ·rw[h.safe];exact Nat.le_refl _
     ·show(d.get a.file).s <=_;rw[h.safe,List.length_append];omega
    ·rcases hz with rfl|rfl
     ·exact h.long hN _
     ·show((d.get a.file).b ++(bj.step s).enc).length <=_;obtain⟨R0,t0,R',t',q0,q1,q2,q3,q4⟩:=h.at hi;have:=q0.len;rw[List.length_append];omega
   ·have hzs:z.s<=z.b.length:=by
     rcases hz with rfl|rfl
     ·rw[h.safe];exact Nat.le_refl _
     ·show(d.get a.file).s <=_;rw[h.safe,List.length_append];omega
    obtain⟨k,hk⟩:=oJ e2 hi hzs (h.safe _) k0 k1;have hsafe:=iL hzs k
    rcases hz with rfl|rfl
    ·rw[cJ (h.safe _)] at hk;exact⟨a,(h.same hi hk (Int.le_refl _) (by decide)).mono (by omega),rfl,.inl ⟨rfl,rfl⟩⟩
    ·obtain⟨m,hm'⟩:∃m,m=min k.toNat (((d.get a.file).b ++(bj.step s).enc).length -(d.get a.file).s):=⟨_,rfl⟩;have hml:m<=(bj.step s).enc.length :=by
      rw[hm',h.safe,List.length_append];omega
     have hbm:((⟨(d.get a.file).b ++(bj.step s).enc,(d.get a.file).s⟩:Fi).lost k).b =(d.get a.file).b ++(bj.step s).enc.take m:=by
      simp only[Fi.lost,<-hm'];rw[h.safe,List.take_append,List.take_of_length_le (by omega)];congr 2;omega
     by_cases hfull:m=(bj.step s).enc.length
     ·refine⟨_,h.append hf hi hk (Int.le_refl _) (by decide) hsafe ?_ hs hN hp hm,rfl,.inr ⟨rfl,rfl⟩⟩;rw[hbm,hfull,List.take_length]
     ·exact⟨_,h.tornAt hf hi hk (Int.le_refl _) (by decide) hsafe (by omega) hbm hs,rfl,.inl ⟨rfl,rfl⟩⟩
def Ac.lgF (a:Ac) (n:Nat) (p:List Pt):Lg:=⟨a.lg.age+1,a.c,a.lg.first+n,p,a.lg.steps.drop n,false⟩
def Ac.fgt (a:Ac) (n:Nat) (p:List Pt):Ac:=⟨a.lgF n p,false,a.pts.drop n,a.c,dG a.file,false⟩
def Ac.fgtD (a:Ac) (n:Nat) (p:List Pt) (d:Dk):Int×Dk:=
 if(d.rw (dG a.file) (bG (cE (a.lgF n p)))).1 ≠0 then d.rw (dG a.file) (bG (cE (a.lgF n p))) else(d.rw (dG a.file) (bG (cE (a.lgF n p)))).2.op a.file Fi.clr
theorem aS.file_of {N:Nat} {d:Dk} {a:Ac} (h:aS N d a) (hs:a.lg.steps≠[]):a.file=0∨a.file=1:=by
 obtain⟨R,t,R',t',_,_,_,_,h5⟩:=h.files
 rcases h5 with⟨a1,_,_,a2⟩ | ⟨a1,_⟩ | ⟨a1,_⟩
 ·exact absurd a2.2.2.2.1 hs
 ·exact .inl a1
 ·exact .inr a1
theorem zq {N:Nat} {d:Dk} {a:Ac} {n:Nat} {p:List Pt} (h:aS N d a) (hN:N<=38) (hn:0<n) (hp:a.pts[n]? =some p):
 ((a.fgtD n p d).1 =0/\aS (N+2) (a.fgtD n p d).2 (a.fgt n p))∨((a.fgtD n p d).1 =82/\d.lf≠0/\Bk (N+2) (a.fgtD n p d).2 a (a.fgt n p)):=by
 have h2:=h.few;have h3:=h.young;have h4:=h.low;have hl:=h.runs.len;have hnl:n<=a.lg.steps.length:=by
  have:=(List.getElem?_eq_some_iff.1 hp).1;omega
 have hi:=h.file_of (fun e=>by rw[e] at hnl;simp at hnl;omega);have hpk:dM p:=h.runs.ok h.ok.base h.ok.steps p (List.mem_of_getElem? hp);have hc1:=h.c1;have hc2:=h.c2;have hok:gG (a.lgF n p):=by
  refine⟨?_,?_,?_,hpk,fun s hs=>h.ok.steps s (List.mem_of_mem_drop hs)⟩
  ·show di (a.lg.age+1);unfold di;omega
  ·show di a.c;unfold di;omega
  ·show di (a.lg.first+n);unfold di;omega
 have hlen:(a.lgF n p).steps.length =a.lg.steps.length-n:=by simp[Ac.lgF]
 have hrw:=zZ h (by omega) hok rfl rfl (h.runs.drop hp) (by
  show 0<=a.lg.first+n/\a.lg.first+n+(a.lgF n p).steps.length <=(N+1:Nat)
  omega)
 unfold Ac.fgtD
 rcases hrw with⟨e1,e2,lf',e3,e4⟩ | ⟨e1,e2,e3⟩
 ·rw[if_neg (by rw[e1];decide)];generalize d.rw (dG a.file) (bG (cE (a.lgF n p)))=D at*;have hoo:dG (dG a.file)=a.file:=rx hi;have hl0:=e2.l0;have hl1:=e2.l1;have s1:=fK hl0
  rcases pJ (e2.is a.file) hi hl0 Fi.clr with⟨g1,g2,g3⟩ | ⟨g1,g2,g3⟩
  ·refine .inr ⟨g2,by omega,g3.dn,?_,fun k0 k1=>?_⟩
   ·exact AR g3 hi (Int.le_refl _) (by decide) (by rw[e2.safe];exact Nat.le_refl _) (by rw[e2.safe];exact Nat.le_refl _) (e2.long (by omega) _) (e2.long (by omega) _)
   ·obtain⟨k,hk⟩:=oJ g3 hi (by rw[e2.safe];exact Nat.le_refl _) (e2.safe _) k0 k1;rw[cJ (e2.safe _)] at hk;exact⟨_,(e2.same hi hk (Int.le_refl _) (by decide)).mono (by omega),rfl,.inr ⟨rfl,rfl⟩⟩
  ·refine .inl ⟨g2,?_⟩;refine e2.other (z:=⟨[],0⟩) (R:=[]) (t:=[]) (lf:=mW D.2.lf) ?_ s1.1 (by omega) rfl iR.nil rfl (by simp);show Dk.is _ false _ (dG (dG a.file)) _ (D.2.get (dG (dG (dG a.file))));rw[hoo];exact g3
 ·rw[if_pos (by rw[e1];decide)];refine .inr ⟨e1,e2,e3.1,e3.2.1,fun k0 k1=>?_⟩;obtain⟨y,y1,y2,y3⟩:=e3.2.2 k0 k1;exact⟨y,y1.mono (by omega),y2,y3⟩
end Go.Proofs.YtcclpdfmmdonpaaGreat
