/- Texts of the seat Yteanlcefdoigcaa, turned to this one by wip/port.py: Writer EncM EncX. -/
import Derived.Test.YtcclpdfmmdonpaaGreatTCrc
namespace Go.Proofs.YtcclpdfmmdonpaaGreat
set_option maxRecDepth 100000
open Go.RowKit
def pD (B:Nat) (w:World) (wb:Nat) (ys:List Nat):Prop:=
 B<=wb/\∃v,w.heap[wb]? =some (.cells #[v] 185)/\cm w B v ys/\∀k,v.ownBlock=some k->k≠wb
theorem cm.same {w w':World} {B:Nat} {v:Value} {xs:List Nat} (h:cm w B v xs) (hs:∀g,v.ownBlock=some g->w'.heap[g]? =w.heap[g]?):cm w' B v xs:=by
 obtain⟨⟨h1,h2⟩,h3⟩:=h;refine⟨⟨h1,?_⟩,h3⟩
 rcases h2 with h2| ⟨g',cap',cur,rfl,hg,hr,h4⟩
 ·exact Or.inl h2
 ·exact Or.inr ⟨_,_,cur,rfl,hg,(hs _ rfl).trans hr,h4⟩
theorem cm.shape {w:World} {B:Nat} {v:Value} {xs:List Nat} (h:cm w B v xs):∃p n cap,v=.slice p n cap:=by
 rcases h.cases with⟨rfl,_⟩ | ⟨g,cap,rfl,_⟩
 iterate 2 (·exact⟨_,_,_,rfl⟩)
theorem cm.block {w:World} {B g:Nat} {v:Value} {xs:List Nat} (h:cm w B v xs) (hg:v.ownBlock=some g):B<=g/\g<w.heap.size:=h.1.lt g hg
theorem cm.grow {w w':World} {B:Nat} {v:Value} {xs:List Nat} (h:cm w B v xs) (hb:Below w.heap.size w w'):cm w' B v xs:=h.same fun g hg=>hb.block g (h.block hg).2
theorem bM.of_below {rb B:Nat} {w w':World} (h:Below B w w'):bM rb B w w':=⟨h.os,h.tape,h.output,h.size,fun k hk _=>h.block k hk⟩
theorem bM.trans {rb B B':Nat} {w w1 w2:World} (h:bM rb B w w1) (h2:bM rb B' w1 w2) (hs:B<=B'):bM rb B w w2:=
 ⟨h2.os.trans h.os,h2.tape.trans h.tape,h2.output.trans h.output,Nat.le_trans h.size h2.size,fun k hk hne=>(h2.block k (by omega) hne).trans (h.block k hk hne)⟩
theorem xp {w1:World} {wb B:Nat} {v v3:Value} {ys:List Nat} (hr:w1.heap[wb]? =some (.cells #[v] 185)) (ho:cm w1 B v3 ys) (hB:wb+1<=B) {B0:Nat} (hb:B0<=wb):
 pD B0 (w1.setCell ⟨wb,0,none⟩ v3) wb ys:=
 ⟨hb,v3,heap_setCell hr _,(ho.base (by omega)).same (fun g hg=>Below.heap_setCell w1 ⟨wb,0,none⟩ _ g (fun e=>by have h1:g=wb:=e;have:=(ho.block hg).1;omega)),fun k hk=>by have:=(ho.block hk).1;omega⟩
theorem eG {B:Nat} (wb lb lo lc m:Nat) (zs:List Int) (xs:List Nat) (w:World) (hw:pD B w wb xs) (hn:xs.length<=900000) (hz:∀z∈zs,0<=z/\z<=4611686018427387903) (hm:zs.length=m) (hzl:m<=20)
 (hl:∀i,i<m->w.cell? ⟨lb,lo+i,none⟩=some (.int .i64 (zs.getD i 0))) (hlb:lb<w.heap.size) (hne:lb≠wb):
 Calls Tryz.prog 118 #[.pointer (some ⟨wb,0,none⟩),.slice (some ⟨lb,lo,none⟩) m lc] w fun e w'=>e=.returned (.tuple #[])/\pD B w' wb (xs++bO aQ zs)/\bM wb w.heap.size w w':=by
 have HW:=ae hw;have HZ:=ae hz;have HL:=ae hl;have HM:=ae hm;clear hw hz hl hm;go_enter Tryz.func118,Tryz.ntmps118;go_wp2_with fail
 go_loopw [8] (fun i wr=>∃(k:Nat) (ys:List Nat),k<=m/\i=.int .i64 k/\ys=xs++bO aQ (zs.take k)/\pD B wr wb ys/\bM wb w.heap.size w wr) (fun i _=>m-(intOf i).toNat)
 case atStart=>exact⟨0,xs,by omega,rfl,by simp[bO],HW.out,bM.refl _ _ _⟩
 case round=>
  obtain⟨k,ys,hk,rfl,he,hw2,hO⟩:=hrel;have eu:=ae hO;have HE:=ae he;by_cases hlt:k<m
  ·have hkz:k<zs.length:=by rw[HM.out];exact hlt
   have hc:wr.cell? ⟨lb,lo+k,none⟩=some (.int .i64 zs[k]):=by
    rw[World.cell?_of_block (w:=w) (w':=wr) (a:=⟨lb,lo+k,none⟩) (hO.block lb hlb hne),<-show zs.getD k 0=zs[k] by simp[List.getD_eq_getElem?_getD,hkz]];exact HL.out k hlt
   have hzk:=HZ.out zs[k] (List.getElem_mem hkz);have hyb:ys.length<=1000000:=by
    have h1:=dB (f:=aQ) (m:=9) (zs.take k) (fun z hz=>gw (HZ.out z (List.mem_of_mem_take hz)));rw[he,List.length_append];have h2:(zs.take k).length <=20:=by simp;omega
    omega
   have HST:=ae (show xs++bO aQ (zs.take (k+1))=ys++aQ zs[k] by rw[pS hkz,he];simp);obtain⟨hBw,v2,hr,hown,hnb⟩:=hw2;obtain⟨p2,n2,c2,rfl⟩:=hown.shape;have HR:=ae hr;have nq:=ae hown;have c0:wr.cell? ⟨wb,0,none⟩=some (.slice p2 n2 c2):=by simp[World.cell?,hr]
   have hwb:wb<wr.heap.size:=(Array.getElem?_eq_some_iff.1 hr).1;clear he hO hr hown hnb;generalize zs[k]=z at*;go_wp2_with fail;obtain⟨q,rfl⟩:∃q:Nat,z=q:=⟨z.toNat,by omega⟩;refine(ja (z:=q) (nq.out.base (Nat.zero_le _)) hyb (by omega)).mono ?_;rintro r w1 ⟨⟨v3,rfl,cL⟩,hb⟩;obtain⟨p3,n3,c3,rfl⟩:=cL.shape;have HB3:=ae hb;have HR1:=ae (aj hb HR.out);have mL:=ae cL;have d0:w1.cell? ⟨wb,0,none⟩=some (.slice p2 n2 c2):=by have hh:=HR1.out;simp[World.cell?,hh]
   have df:w1.frozen? ⟨wb,0,none⟩=false:=by have hh:=HR1.out;simp[World.frozen?,hh]
   have hs1:=hb.size;clear hb cL;go_wp2_with fail;go_roundw
   case rel=>exact⟨k+1,_,by omega,by go_num,HST.out.symm,xp HR1.out mL.out (by omega) hBw,cG (eu.out.trans (bM.of_below HB3.out) eu.out.size) _⟩
   case measure=>simp[intOf];omega
  ·obtain rfl:k=m:=by omega
   have HF:=ae (show xs++bO aQ zs=ys by rw[he,List.take_of_length_le (Nat.le_of_eq HM.out)]);have HW2:=ae hw2;clear he hO hw2;go_wp2_with fail;go_end0;rw[HF.out];exact⟨rfl,HW2.out,eu.out⟩
theorem ti {B:Nat} (wb lb lo lc m:Nat) (zs:List Int) (xs:List Nat) (w:World) (hw:pD B w wb xs) (hn:xs.length<=900000) (hz:∀z∈zs,-2305843009213693952<=z/\z<=2305843009213693951) (hm:zs.length=m) (hzl:m<=20)
 (hl:∀i,i<m->w.cell? ⟨lb,lo+i,none⟩=some (.int .i64 (zs.getD i 0))) (hlb:lb<w.heap.size) (hne:lb≠wb):
 Calls Tryz.prog 143 #[.pointer (some ⟨wb,0,none⟩),.slice (some ⟨lb,lo,none⟩) m lc] w fun e w'=>e=.returned (.tuple #[])/\pD B w' wb (xs++bO fh zs)/\bM wb w.heap.size w w':=by
 have HW:=ae hw;have HZ:=ae hz;have HL:=ae hl;have HM:=ae hm;clear hw hz hl hm;go_enter Tryz.func143,Tryz.ntmps143;go_wp2_with fail
 go_loopw [8] (fun i wr=>∃(k:Nat) (ys:List Nat),k<=m/\i=.int .i64 k/\ys=xs++bO fh (zs.take k)/\pD B wr wb ys/\bM wb w.heap.size w wr) (fun i _=>m-(intOf i).toNat)
 case atStart=>exact⟨0,xs,by omega,rfl,by simp[bO],HW.out,bM.refl _ _ _⟩
 case round=>
  obtain⟨k,ys,hk,rfl,he,hw2,hO⟩:=hrel;have eu:=ae hO;have HE:=ae he;by_cases hlt:k<m
  ·have hkz:k<zs.length:=by rw[HM.out];exact hlt
   have hc:wr.cell? ⟨lb,lo+k,none⟩=some (.int .i64 zs[k]):=by
    rw[World.cell?_of_block (w:=w) (w':=wr) (a:=⟨lb,lo+k,none⟩) (hO.block lb hlb hne),<-show zs.getD k 0=zs[k] by simp[List.getD_eq_getElem?_getD,hkz]];exact HL.out k hlt
   have hzk:=HZ.out zs[k] (List.getElem_mem hkz);have hyb:ys.length<=1000000:=by
    have h1:=dB (f:=fh) (m:=9) (zs.take k) (fun z hz=>qJ (HZ.out z (List.mem_of_mem_take hz)));rw[he,List.length_append];have h2:(zs.take k).length <=20:=by simp;omega
    omega
   have HST:=ae (show xs++bO fh (zs.take (k+1))=ys++fh zs[k] by rw[pS hkz,he];simp);obtain⟨hBw,v2,hr,hown,hnb⟩:=hw2;obtain⟨p2,n2,c2,rfl⟩:=hown.shape;have HR:=ae hr;have nq:=ae hown;have c0:wr.cell? ⟨wb,0,none⟩=some (.slice p2 n2 c2):=by simp[World.cell?,hr]
   have hwb:wb<wr.heap.size:=(Array.getElem?_eq_some_iff.1 hr).1;clear he hO hr hown hnb;generalize zs[k]=z at*;go_wp2_with fail;refine(te (nq.out.base (Nat.zero_le _)) hyb hzk).mono ?_;rintro r w1 ⟨⟨v3,rfl,cL⟩,hb⟩;obtain⟨p3,n3,c3,rfl⟩:=cL.shape;have HB3:=ae hb;have HR1:=ae (aj hb HR.out);have mL:=ae cL;have d0:w1.cell? ⟨wb,0,none⟩=some (.slice p2 n2 c2):=by have hh:=HR1.out;simp[World.cell?,hh]
   have df:w1.frozen? ⟨wb,0,none⟩=false:=by have hh:=HR1.out;simp[World.frozen?,hh]
   have hs1:=hb.size;clear hb cL;go_wp2_with fail;go_roundw
   case rel=>exact⟨k+1,_,by omega,by go_num,HST.out.symm,xp HR1.out mL.out (by omega) hBw,cG (eu.out.trans (bM.of_below HB3.out) eu.out.size) _⟩
   case measure=>simp[intOf];omega
  ·obtain rfl:k=m:=by omega
   have HF:=ae (show xs++bO fh zs=ys by rw[he,List.take_of_length_le (Nat.le_of_eq HM.out)]);have HW2:=ae hw2;clear he hO hw2;go_wp2_with fail;go_end0;rw[HF.out];exact⟨rfl,HW2.out,eu.out⟩
open Go.RowKit
def om (l:Int) (p:Pt):List Nat:=bO aQ [p.id-l]++bO fh [p.x,p.y,p.zl]++bO aQ [p.zh-p.zl,p.wd,p.nm,p.of,p.cl]
def bZ:Int->List Pt->List Nat
 |_,[]=>[]
 |l,p::P=>om l p++bZ p.id P
def lx:Int->List Pt->Int
 |l,[]=>l
 |_,p::P=>lx p.id P
theorem lL (l:Int) (p:Pt):∀A,lx l (A++[p])=p.id
 | []=>rfl
 |a::A=>lL a.id p A
theorem kD (p:Pt):∀(l:Int) A,bZ l (A++[p])=bZ l A++om (lx l A) p
 |l,[]=>by simp[bZ,lx]
 |l,a::A=>by show om l a++bZ a.id (A++[p])=_;rw[kD p a.id A];simp[bZ,lx]
structure BC (l:Int) (p:Pt):Prop where
 id:0<=p.id-l/\p.id-l<=4611686018427387903
 i:0<=p.id/\p.id<=1152921504606846976
 l:0<=l/\l<=1152921504606846976
 x: -268435456<=p.x/\p.x<=268435456
 y: -268435456<=p.y/\p.y<=268435456
 z: -268435456<=p.zl/\p.zl<=268435456
 h:p.zl<=p.zh/\p.zh<=268435456
 wd:0<=p.wd/\p.wd<=268435456
 nm:0<=p.nm/\p.nm<=15
 of:0<=p.of/\p.of<=15
 cl:0<=p.cl/\p.cl<=255
def qH (P:List Pt):Prop:=∀k p,P[k]? =some p->BC (lx 0 (P.take k)) p
theorem tB {p:Pt} (h:Fm p=true):(0<=p.id/\p.id<=1152921504606846976)/\(-268435456<=p.x/\p.x<=268435456)/\(-268435456<=p.y/\p.y<=268435456)/\(-268435456<=p.zl/\p.zl<=268435456)/\(p.zl<=p.zh/\p.zh<=268435456)/\(0<=p.wd/\p.wd<=268435456)/\(0<=p.nm/\p.nm<=15)/\(0<=p.of/\p.of<=15)/\(0<=p.cl/\p.cl<=255):=by
 simp[Fm,bX,gM,dY] at h;omega
theorem Gx {α:Type} {r:α->α->Prop} {E:List α} {i j:Nat} {a b:α} (hij:i<j) (hi:E[i]? =some a) (hj:E[j]? =some b) (h:E.Pairwise r):r a b:=by
 obtain⟨h1,rfl⟩:=List.getElem?_eq_some_iff.1 hi;obtain⟨h2,rfl⟩:=List.getElem?_eq_some_iff.1 hj;exact List.pairwise_iff_getElem.1 h i j h1 h2 hij
theorem Ev {P:List Pt} (hg:bQ P=true) (ha:P.Pairwise (fun p q=>p.id<q.id)):qH P:=fun k p hp=>by
 have hall:=(cS P).1 hg |>.2.1
 obtain⟨h1,h2,h3,h4,h5,h6,h7,h8,h9⟩:=tB (hall p (List.mem_of_getElem? hp));have hl:(0<=lx 0 (P.take k)/\lx 0 (P.take k)<=1152921504606846976)/\lx 0 (P.take k)<=p.id:=by
  cases k with
  |zero=>exact⟨⟨Int.le_refl _,show(0:Int)<=_ by decide⟩,h1.1⟩
  |succ j=>
   have hlen:=(List.getElem?_eq_some_iff.1 hp).1;have hj:P[j]? =some P[j]:=List.getElem?_eq_getElem (by omega);rw[aH hj,lL];have hq:=tB (hall P[j] (List.mem_of_getElem? hj));have:=Gx (show j<j+1 by omega) hj hp ha;exact⟨hq.1,by omega⟩
 exact⟨by omega,h1,hl.1,h2,h3,h4,h5,h6,h7,h8,h9⟩
def bY (n:Nat):List Nat:=[n/16777216%256,n/65536%256,n/256%256,n%256]
def tY (xs:List Nat):Nat:=nK (fun i=>xs.getD i 0) xs.length
theorem B9 {l:Int} {p:Pt} (h:BC l p):(om l p).length <=81:=by
 have h1:=dB (f:=aQ) (m:=9) [p.id-l] (fun z hz=>gw (by simp at hz;subst hz;exact h.id))
 have h2:=dB (f:=fh) (m:=9) [p.x,p.y,p.zl] (fun z hz=>qJ (by
  have:=h.x;have:=h.y;have:=h.z
  simp at hz;omega))
 have h3:=dB (f:=aQ) (m:=9) [p.zh-p.zl,p.wd,p.nm,p.of,p.cl] (fun z hz=>gw (by
  have:=h.z;have:=h.h;have:=h.wd;have:=h.nm;have:=h.of;have:=h.cl
  simp at hz;omega))
 simp at h1 h2 h3;unfold om;simp;omega
theorem lZ {P:List Pt} (h:qH P):∀k,k<=P.length->(bZ 0 (P.take k)).length <=81*k
 |0,_=>by simp[bZ]
 |k+1,hk=>by
  have hp:P[k]? =some P[k]:=List.getElem?_eq_getElem (by omega);have h1:=lZ h k (by omega);have h2:=B9 (h k _ hp);rw[aH hp,kD,List.length_append];omega
open Go.RowKit
theorem bM.cell {rb B:Nat} {w w':World} (h:bM rb B w w') {b o:Nat} (hb:b<B) (hne:b≠rb):w'.cell? ⟨b,o,none⟩=w.cell? ⟨b,o,none⟩:=World.cell?_of_block (w:=w) (w':=w') (a:=⟨b,o,none⟩) (h.block b hb hne)
theorem jA {w:World} {zs:List Int} {cs:Array Value} {lb:Nat} (hb:lb=w.heap.size) (hcs:cs=(zs.map (Value.int .i64)).toArray) {m:Nat} (hm:zs.length=m):∀i,i<m->(w.alloc (.cells cs 3)).cell? ⟨lb,0+i,none⟩=some (.int .i64 (zs.getD i 0)):=fun i hi=>by
 subst hcs hm hb;rw[Nat.zero_add,af (ai _ _ _ rfl)];simp[List.getD_eq_getElem?_getD,hi]
theorem pD.grow {w w':World} {B wb:Nat} {xs:List Nat} (h:pD B w wb xs) (hb:Below w.heap.size w w'):pD B w' wb xs:=by
 obtain⟨hB,v,hr,ho,hn⟩:=h;exact⟨hB,v,aj hb hr,ho.grow hb,hn⟩
set_option maxHeartbeats 1600000 in
theorem mE {B:Nat} (wb:Nat) (v:Value) (P:List Pt) (xs:List Nat) (w0 w:World) (hw:pD B w wb xs) (hx:xs.length<=1000) (hp:cj w0 v P) (hb:Below w0.heap.size w0 w) (hB:w0.heap.size<=wb) (hP:qH P) (hl:P.length<=1024):
 Calls Tryz.prog 117 #[.pointer (some ⟨wb,0,none⟩),v] w fun e w'=>e=.returned (.tuple #[])/\pD B w' wb (xs++bO aQ [(P.length:Int)]++bZ 0 P)/\bM wb w.heap.size w w':=by
 have HP:=ae (hp.still hb);have HN:=ae hP;obtain⟨a,cap,rfl,hpd⟩:=hp;obtain⟨n,hnl⟩:∃n,n=P.length:=⟨_,rfl⟩;have vG:=ae hpd;have HW:=ae hw;have cX:=ae hb;have js:=ae hnl;have hl1:n<=1024:=by omega
 have hwb:wb<w.heap.size:=by
  obtain⟨_,v,hr,_⟩:=hw;exact(Array.getElem?_eq_some_iff.1 hr).1
 rw[<-hnl];clear hP hpd hw hb hnl;go_enter Tryz.func117,Tryz.ntmps117;go_wp2_with fail;refine(eG (B:=B) wb w.heap.size 0 1 1 [(n:Int)] xs _ ?_ (by omega) (by simp;omega) rfl (by omega) ?_ ?_ (by omega)).mono ?_
 ·exact HW.out.grow (by repeat' (first| (with_reducible exact Below.refl _ _) | (with_reducible refine Below.alloc ?_ ?_ _) | (with_reducible refine Below.drew ?_) | (with_reducible refine below_drewN ?_ _) |go_size))
 ·exact jA (zs:=[(n:Int)]) (cs:=#[.int .i64 (n:Int)]) rfl rfl rfl
 ·simp
 rintro r w1 ⟨rfl,hw1,ho1⟩;have HW1:=ae hw1;have jD:=ae ho1;have hz1:=ho1.size;simp at hz1;clear hw1 ho1;go_wp2_with fail
 go_loopw [4,14] (fun lv i wr=>∃k:Nat,k<=n/\i=.int .i64 (k:Int)/\lv=.int .i64 (lx 0 (P.take k))/\pD B wr wb (xs++bO aQ [(n:Int)]++bZ 0 (P.take k))/\bM wb w.heap.size w wr) (fun _ i _=>n-(intOf i).toNat)
 case atStart=>exact⟨0,by omega,rfl,rfl,by simpa[bZ] using HW1.out,(bM.of_below ((by repeat' (first| (with_reducible exact Below.refl _ _) | (with_reducible refine Below.alloc ?_ ?_ _) | (with_reducible refine Below.drew ?_) | (with_reducible refine below_drewN ?_ _) |go_size)))).trans jD.out (by simp)⟩
 case round=>
  obtain⟨k,hk,rfl,rfl,hw2,ho2⟩:=hrel;have HW2:=ae hw2;have eu:=ae ho2;have hz2:=ho2.size;clear hw2 ho2;by_cases hlt:k<n
  ·obtain⟨p,hpk⟩:∃p,P[k]? =some p:=⟨_,List.getElem?_eq_getElem (by rw[<-js.out];exact hlt)⟩;have hne0:P≠[]:=fun e=>by subst e;simp at hpk
   obtain⟨b,off,rfl,hbw,hrows⟩:=vG.out.resolve_left hne0;have hnm:=HN.out k p hpk
   have HLEN:=ae (show(xs++bO aQ [(n:Int)]++bZ 0 (P.take k)).length <=90000 by
    have h1:=lZ HN.out k (by rw[<-js.out];omega);have h2:=dB (f:=aQ) (m:=9) [(n:Int)] (fun z hz=>gw (by simp at hz;omega));simp at h2⊢
    omega)
   have Dt:=ae (lL 0 p (P.take k));have PL:=ae (show xs++bO aQ [(n:Int)]++bZ 0 (P.take k++[p])=xs++bO aQ [(n:Int)]++bZ 0 (P.take k)++om (lx 0 (P.take k)) p by rw[kD];simp only[List.append_assoc]);have rB:=ae (aH hpk);have hcs:∀q,q<9->wr.cell? ⟨b,off+k*9+q,none⟩=some (.int .i64 (p.f q)):=fun q hq=>by
    rw[eu.out.cell (by have:=cX.out.size;omega) (by omega),cX.out.cell hbw,hrows k p.row (by rw[List.getElem?_map,hpk];rfl) q hq,Pt.row_at p q hq]
   have kI:=ae hpk;have hx1:=hnm.id;have hx2:=hnm.i;have hx3:=hnm.l;have RB:=hnm.z;have Qn:=hnm.h;have rT:=ae hnm;clear hpk hrows hnm;generalize hle:lx 0 (P.take k)=le at*;generalize xs++bO aQ [(n:Int)]++bZ 0 (P.take k)=ys at*;obtain⟨p0,p1,p2,p3,p4,p5,p6,p7,p8⟩:=p;simp only at hx1 hx2 hx3 RB Qn;have a0:wr.cell? ⟨b,off+k*9,none⟩=some (.int .i64 p0):=hcs 0 (by decide);have a1:wr.cell? ⟨b,off+k*9+1,none⟩=some (.int .i64 p1):=hcs 1 (by decide);have a2:wr.cell? ⟨b,off+k*9+2,none⟩=some (.int .i64 p2):=hcs 2 (by decide);have a3:wr.cell? ⟨b,off+k*9+3,none⟩=some (.int .i64 p3):=hcs 3 (by decide);have a4:wr.cell? ⟨b,off+k*9+4,none⟩=some (.int .i64 p4):=hcs 4 (by decide);have a5:wr.cell? ⟨b,off+k*9+5,none⟩=some (.int .i64 p5):=hcs 5 (by decide);have a6:wr.cell? ⟨b,off+k*9+6,none⟩=some (.int .i64 p6):=hcs 6 (by decide);have a7:wr.cell? ⟨b,off+k*9+7,none⟩=some (.int .i64 p7):=hcs 7 (by decide);have a8:wr.cell? ⟨b,off+k*9+8,none⟩=some (.int .i64 p8):=hcs 8 (by decide);clear hcs;go_wp2_with fail;clear a0 a1 a2 a3 a4 a5 a6 a7 a8;refine(eG (B:=B) wb (wr.heap.size+1) 0 1 1 [p0-le] ys _ (HW2.out.grow (by repeat' (first| (with_reducible exact Below.refl _ _) | (with_reducible refine Below.alloc ?_ ?_ _) | (with_reducible refine Below.drew ?_) | (with_reducible refine below_drewN ?_ _) |go_size))) (by have:=HLEN.out;omega) (by simp;omega) rfl (by omega) (jA (zs:=[p0-le]) (by simp) rfl rfl) (by simp) (by omega)).mono ?_;rintro r w3 ⟨rfl,hw3,ho3⟩;have HW3:=ae hw3;have nq:=ae ((eu.out.trans (bM.of_below (B:=wr.heap.size) (by repeat' (first| (with_reducible exact Below.refl _ _) | (with_reducible refine Below.alloc ?_ ?_ _) | (with_reducible refine Below.drew ?_) | (with_reducible refine below_drewN ?_ _) |go_size))) eu.out.size).trans ho3 (by simp;omega));have xO:=ae (show w3.heap[wr.heap.size]? =some (.cells #[.int .i64 p0,.int .i64 p1,.int .i64 p2,.int .i64 p3,.int .i64 p4,.int .i64 p5,.int .i64 p6,.int .i64 p7,.int .i64 p8] 106) from ho3.heap (by omega) (am _ _ _ _ (ai _ _ _ rfl)));have hz3:=ho3.size;simp at hz3;clear hw3 ho3;have w3c0:w3.cell? ⟨wr.heap.size,0,none⟩=some (.int .i64 p0):=(af (j:=0) xO.out).trans rfl;have w3c1:w3.cell? ⟨wr.heap.size,1,none⟩=some (.int .i64 p1):=(af (j:=1) xO.out).trans rfl;have w3c2:w3.cell? ⟨wr.heap.size,2,none⟩=some (.int .i64 p2):=(af (j:=2) xO.out).trans rfl;have w3c3:w3.cell? ⟨wr.heap.size,3,none⟩=some (.int .i64 p3):=(af (j:=3) xO.out).trans rfl;have w3c4:w3.cell? ⟨wr.heap.size,4,none⟩=some (.int .i64 p4):=(af (j:=4) xO.out).trans rfl;have w3c5:w3.cell? ⟨wr.heap.size,5,none⟩=some (.int .i64 p5):=(af (j:=5) xO.out).trans rfl;have w3c6:w3.cell? ⟨wr.heap.size,6,none⟩=some (.int .i64 p6):=(af (j:=6) xO.out).trans rfl;have w3c7:w3.cell? ⟨wr.heap.size,7,none⟩=some (.int .i64 p7):=(af (j:=7) xO.out).trans rfl;have w3c8:w3.cell? ⟨wr.heap.size,8,none⟩=some (.int .i64 p8):=(af (j:=8) xO.out).trans rfl;go_wp2_with fail;clear w3c0 w3c1 w3c2 w3c3 w3c4 w3c5 w3c6 w3c7 w3c8;refine(ti (B:=B) wb w3.heap.size 0 3 3 [p1,p2,p3] _ _ (HW3.out.grow (by repeat' (first| (with_reducible exact Below.refl _ _) | (with_reducible refine Below.alloc ?_ ?_ _) | (with_reducible refine Below.drew ?_) | (with_reducible refine below_drewN ?_ _) |go_size))) (by have:=HLEN.out;have:=dB (f:=aQ) (m:=9) [p0-le] (fun z hz=>gw (by simp at hz;omega));simp at this⊢;omega) (by have:=rT.out.x;have:=rT.out.y;have:=rT.out.z;simp at*;omega) rfl (by omega) (jA (zs:=[p1,p2,p3]) rfl rfl rfl) (by simp) (by omega)).mono ?_;rintro r w4 ⟨rfl,hw4,eR⟩;have Rr:=ae hw4;have mL:=ae ((nq.out.trans (bM.of_below (B:=w3.heap.size) (by repeat' (first| (with_reducible exact Below.refl _ _) | (with_reducible refine Below.alloc ?_ ?_ _) | (with_reducible refine Below.drew ?_) | (with_reducible refine below_drewN ?_ _) |go_size))) nq.out.size).trans eR (by simp;omega));have px:=ae (show w4.heap[wr.heap.size]? =some (.cells #[.int .i64 p0,.int .i64 p1,.int .i64 p2,.int .i64 p3,.int .i64 p4,.int .i64 p5,.int .i64 p6,.int .i64 p7,.int .i64 p8] 106) from eR.heap (by omega) (am _ _ _ _ xO.out));have fT:=eR.size;simp at fT;clear hw4 eR;have w4c0:w4.cell? ⟨wr.heap.size,0,none⟩=some (.int .i64 p0):=(af (j:=0) px.out).trans rfl;have w4c1:w4.cell? ⟨wr.heap.size,1,none⟩=some (.int .i64 p1):=(af (j:=1) px.out).trans rfl;have w4c2:w4.cell? ⟨wr.heap.size,2,none⟩=some (.int .i64 p2):=(af (j:=2) px.out).trans rfl;have w4c3:w4.cell? ⟨wr.heap.size,3,none⟩=some (.int .i64 p3):=(af (j:=3) px.out).trans rfl;have w4c4:w4.cell? ⟨wr.heap.size,4,none⟩=some (.int .i64 p4):=(af (j:=4) px.out).trans rfl;have w4c5:w4.cell? ⟨wr.heap.size,5,none⟩=some (.int .i64 p5):=(af (j:=5) px.out).trans rfl;have w4c6:w4.cell? ⟨wr.heap.size,6,none⟩=some (.int .i64 p6):=(af (j:=6) px.out).trans rfl;have w4c7:w4.cell? ⟨wr.heap.size,7,none⟩=some (.int .i64 p7):=(af (j:=7) px.out).trans rfl;have w4c8:w4.cell? ⟨wr.heap.size,8,none⟩=some (.int .i64 p8):=(af (j:=8) px.out).trans rfl;go_wp2_with fail;clear w4c0 w4c1 w4c2 w4c3 w4c4 w4c5 w4c6 w4c7 w4c8;refine(eG (B:=B) wb w4.heap.size 0 5 5 [p4-p3,p5,p6,p7,p8] _ _ (Rr.out.grow (by repeat' (first| (with_reducible exact Below.refl _ _) | (with_reducible refine Below.alloc ?_ ?_ _) | (with_reducible refine Below.drew ?_) | (with_reducible refine below_drewN ?_ _) |go_size))) (by have:=HLEN.out;have h1:=dB (f:=aQ) (m:=9) [p0-le] (fun z hz=>gw (by simp at hz;omega));have h2:=dB (f:=fh) (m:=9) [p1,p2,p3] (fun z hz=>qJ (by have:=rT.out.x;have:=rT.out.y;have:=rT.out.z;simp at*;omega));simp at h1 h2⊢;omega) (by have:=rT.out.h;have:=rT.out.z;have:=rT.out.wd;have:=rT.out.nm;have:=rT.out.of;have:=rT.out.cl;simp at*;omega) rfl (by omega) (jA (zs:=[p4-p3,p5,p6,p7,p8]) rfl rfl rfl) (by simp) (by omega)).mono ?_;rintro r w5 ⟨rfl,O8,rM⟩;have oI:=ae O8;have zQ:=ae ((mL.out.trans (bM.of_below (B:=w4.heap.size) (by repeat' (first| (with_reducible exact Below.refl _ _) | (with_reducible refine Below.alloc ?_ ?_ _) | (with_reducible refine Below.drew ?_) | (with_reducible refine below_drewN ?_ _) |go_size))) mL.out.size).trans rM (by simp;omega));have jI:=ae (show w5.heap[wr.heap.size]? =some (.cells #[.int .i64 p0,.int .i64 p1,.int .i64 p2,.int .i64 p3,.int .i64 p4,.int .i64 p5,.int .i64 p6,.int .i64 p7,.int .i64 p8] 106) from rM.heap (by omega) (am _ _ _ _ px.out));have NC:=rM.size;simp at NC;clear O8 rM;have w5c0:w5.cell? ⟨wr.heap.size,0,none⟩=some (.int .i64 p0):=(af (j:=0) jI.out).trans rfl;go_wp2_with fail;exact⟨⟨k+1,by omega,by go_num,by rw[rB.out,Dt.out],by rw[rB.out,PL.out];unfold om;rw[<-List.append_assoc,<-List.append_assoc];exact oI.out,zQ.out⟩,by simp[intOf];omega⟩
  ·obtain rfl:k=n:=by omega
   have HF:=ae (show xs++bO aQ [(k:Int)]++bZ 0 (P.take k)=xs++bO aQ [(k:Int)]++bZ 0 P by rw[List.take_of_length_le (Nat.le_of_eq js.out.symm)]);have d1:decide ((k:Int)<(k:Int))=false:=by simp
   go_wp2_with fail;go_end0;rw[<-HF.out];exact⟨rfl,HW2.out,eu.out⟩
theorem DY {w:World} {c:Nat} {z1 z2 z3 z4:Int} (h:z1=(c/16777216%256:Nat)/\z2=(c/65536%256:Nat)/\z3=(c/256%256:Nat)/\z4=(c%256:Nat)):
 ∀(j:Nat) (u:Value),(cg (bY c))[j]? =some u->(w.alloc (.cells #[.int .u8 z1,.int .u8 z2,.int .u8 z3,.int .u8 z4] 5)).cell? ((⟨w.heap.size,0,none⟩:Addr).add j)=some u:=by
 obtain⟨rfl,rfl,rfl,rfl⟩:=h;intro j u hj;have ha:((⟨w.heap.size,0,none⟩:Addr).add j)=⟨w.heap.size,j,none⟩:=by simp[Addr.add];exact fun h=>h.symm
 rw[ha,af (ai _ _ _ rfl),<-hj];simp[cg,bY]
theorem lY {w:World} {B g n cap:Nat} {xs:List Nat} (h:w.ownsRow B 5 1 (.slice (some ⟨g,0,none⟩) n cap) xs.length (cg xs)):cY w g 0 xs.length (fun i=>xs.getD i 0):=fun i hi=>by
 have:=h.cells (g:=g) rfl i (.int .u8 (xs[i]:Nat)) (by simp[cg,hi]);have ha:((⟨g,0,none⟩:Addr).add i)=⟨g,0+i,none⟩:=by simp[Addr.add];exact fun h=>h.symm
 rw[ha] at this;rw[this];show some (Value.int .u8 (xs[i]:Nat))=some (Value.int .u8 ((xs.getD i 0:Nat):Int));rw[show xs.getD i 0=xs[i] by simp[List.getD_eq_getElem?_getD,hi]]
theorem lX {xs:List Nat} (hg:∀x∈xs,x<256) (i:Nat):xs.getD i 0<256:=by
 rw[List.getD_eq_getElem?_getD]
 cases h:xs[i]? with
 |none=>simp
 |some x=>exact hg x (List.mem_of_getElem? h)
theorem wX (xs:List Nat):tY xs<4294967296:=(~~~eP _ xs.length).isLt
theorem Nx {w:World} {B n c:Nat} {v:Value} {xs:List Nat} (h:w.ownsRow B 5 1 v (n+4) (cg xs++cg (bY c))) (hn:xs.length=n):cm w B v (xs++bY c):=by
 refine cm.of ?_ (by simp[bY]);rw[f3,List.length_append,hn];exact h
theorem A5 {B:Nat} (wb:Nat) (xs:List Nat) (w:World) (hw:pD B w wb xs) (hp:0<xs.length) (hx:xs.length<=900000) (hg:∀x∈xs,x<256):
 Calls Tryz.prog 137 #[.pointer (some ⟨wb,0,none⟩)] w fun e w'=>e=.returned (.tuple #[])/\pD B w' wb (xs++bY (tY xs))/\Below B w w':=by
 have HW:=ae hw;obtain⟨hBw,v,hr,ho,hnb⟩:=hw;have HR:=ae hr;have HO:=ae ho
 rcases ho.cases with⟨rfl,rfl⟩ | ⟨g,cap,rfl,hgw,_⟩
 ·cases hp
 have hgn:g≠wb:=hnb g rfl;clear hnb;obtain⟨i0,hi,hz0,hz1,hz2⟩:=aF oi;have HI:=ae hi;have HZ0:=ae hz0;have HZ1:=ae hz1;have HZ2:=ae hz2;have HG:=ae hg;have c0:w.cell? ⟨wb,0,none⟩=some (.slice (some ⟨g,0,none⟩) xs.length cap):=af hr;have f0:w.frozen? ⟨wb,0,none⟩=false:=by simp[World.frozen?,hr]
 have hwbs:wb<w.heap.size:=(Array.getElem?_eq_some_iff.1 hr).1;have HS:=ae (tK g 0 xs.length cap (fun i=>xs.getD i 0) w (by omega) (lX hg) (lY ho.1));have Jh:=ae (wX xs);have GO:=ae (show nK (fun i=>xs.getD i 0) xs.length=tY xs from rfl);rw[GO.out] at HS;generalize tY xs=c at*;have hcb:=Jh.out;obtain⟨n,hnx⟩:∃n,xs.length=n:=⟨_,rfl⟩;have eC:=ae hnx;rw[hnx] at HS c0 hp hx;clear hnx;clear hr ho hi hz0 hz1 hz2 hg;go_enter Tryz.func137,Tryz.ntmps137;go_wp2_with fail;refine HS.out.mono ?_;rintro r w1 ⟨rfl,rfl⟩;have jD:=ae (HO.out.1);rw[eC.out] at jD
 go_wp2_with (first| (at_builtin;(refine wpList_append_own_at _ rfl (.tmp 12) (.tmp 24) 63 rfl B 5 i0 (.int .u8 0) 1 1 Tryz.underlying63 HI.out HZ0.out HZ1.out HZ2.out rfl (by decide) _ n (cg xs) rfl (jD.out.alloc _) ⟨w.heap.size,0,none⟩ 4 4 (cg (bY c)) rfl rfl (DY (by omega)) (eO _) (by unfold maxLen;omega) (by omega) (by simp;omega) ?_;intro v' w2 hown2 hgrow2 J5 Ks;have HAT:=ae (show ∀k,v'.ownBlock=some k->k≠wb from fun k hk=>by(rcases Ks with e|e;(rw[e] at hk;have h1:g=k:=Option.some.inj hk;omega);(rw[e] at hk;have h1:=Option.some.inj hk;simp at h1;omega)));have eu:=ae (Nx (c:=c) hown2 eC.out);have HR2:=ae ((hgrow2.block wb (by simp;omega) (fun e=>by have h1:wb=g:=Option.some.inj e;omega)).trans (am _ _ _ _ HR.out));have HB2:=ae ((show Below B w _ from((Below.refl B w).alloc (by omega) _)).grown hgrow2 (by simp;omega) (fun k hk=>by have h1:g=k:=Option.some.inj hk;omega));clear hown2 hgrow2 J5 Ks;obtain⟨p2,n2,c2,rfl⟩:=eu.out.shape;have d0:w2.frozen? ⟨wb,0,none⟩=false:=by have hh:=HR2.out;simp[World.frozen?,hh]);have d1:w2.cell? ⟨wb,0,none⟩=some (.slice (some ⟨g,0,none⟩) xs.length cap):=(af (j:=0) HR2.out).trans rfl))
 go_end0;exact⟨rfl,⟨hBw,_,heap_setCell HR2.out _,eu.out.same (fun g hg=>Below.heap_setCell w2 ⟨wb,0,none⟩ _ g (fun e=>by have h1:g=wb:=e;exact absurd h1 (HAT.out g hg))),HAT.out⟩,HB2.out.setCell hBw _⟩
theorem lD:∀(n q:Nat),q<=n->∀x∈ck q,x<256
 |n,q,hq,x,hx=>by
  by_cases h:128<=q
  ·rw[ie h] at hx
   rcases List.mem_cons.1 hx with rfl|hx
   ·omega
   ·match n,hq with
    |0,hq=>omega
    |n+1,hq=>exact lD n (q/128) (by omega) x hx
  ·rw[fI h] at hx;simp at hx;omega
theorem eH {f:Int->List Nat} (hf:∀z,∀x∈f z,x<256) (zs:List Int):∀x∈bO f zs,x<256:=fun x hx=>by
 unfold bO at hx;obtain⟨l,hl,hx⟩:=List.mem_flatten.1 hx;obtain⟨z,_,rfl⟩:=List.mem_map.1 hl;exact hf z x hx
theorem eZ (z:Int):∀x∈aQ z,x<256:=lD _ _ (Nat.le_refl _)
theorem xX (z:Int):∀x∈fh z,x<256:=lD _ _ (Nat.le_refl _)
theorem dj {a b:List Nat} (ha:∀x∈a,x<256) (hb:∀x∈b,x<256):∀x∈a++b,x<256:=fun x hx=>(List.mem_append.1 hx).elim (ha x) (hb x)
theorem kB:∀(l:Int) (P:List Pt),∀x∈bZ l P,x<256
 |_,[]=>fun x hx=>by simp[bZ] at hx
 |l,p::P=>dj (dj (dj (eH eZ _) (eH xX _)) (eH eZ _)) (kB p.id P)
end Go.Proofs.YtcclpdfmmdonpaaGreat
