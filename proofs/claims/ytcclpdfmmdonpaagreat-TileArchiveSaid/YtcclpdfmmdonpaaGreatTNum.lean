/- Texts of the seat Yteanlcefdoigcaa, turned to this one by wip/port.py: Num NumS Write Writes Reader Link Next. -/
import Derived.Test.YtcclpdfmmdonpaaGreatTRmr
import Derived.LoopN
import Derived.Laws.AppendOwnNone
import Derived.Deep.OwnRows
import Derived.Laws.BitsLemmas
namespace Go.Proofs.YtcclpdfmmdonpaaGreat
set_option maxRecDepth 100000
open Go.RowKit
def gm (g:Nat->Nat):Nat->Nat
 |0=>0
 |k+1=>gm g k+g k%128*128 ^ k
theorem qI (g:Nat->Nat):∀k,gm g k<128 ^ k
 |0=>by simp[gm]
 |k+1=>by
  have h:=qI g k;have h2:g k%128<128:=Nat.mod_lt _ (by decide);unfold gm;have h3:g k%128*128 ^ k<=127*128 ^ k:=Nat.mul_le_mul_right _ (by omega);rw[Nat.pow_succ];omega
def rd (g:Nat->Nat) (n:Nat):Nat->Nat->Int×Int×Int
 |0,_=>(0,0,4)
 |f+1,i=>if i=n then(0,0,21) else if 128<=g i then rd g n f (i+1) else
  if(g i=0/\0<i)∨4611686018427387903<gm g (i+1) then(0,0,4) else(gm g (i+1),(i:Int)+1,0)
def bJ (g:Nat->Nat) (n:Nat):Int×Int×Int:=rd g n 9 0
def uN (x:Int×Int×Int):Value:=.tuple #[.int .i64 x.1,.int .i64 x.2.1,.int .i64 x.2.2]
def cY (w:World) (b off n:Nat) (g:Nat->Nat):Prop:=∀i,i<n->w.cell? ⟨b,off+i,none⟩=some (.int .u8 (g i:Nat))
theorem Hl (k:Nat):128 ^ k=2 ^ (7*k):=by rw[Nat.pow_mul]
theorem Kd {k:Nat} (hk:k<=9):128 ^ k<=9223372036854775808:=Nat.le_trans (Nat.pow_le_pow_right (by decide) hk) (by decide)
theorem QJ {v x k:Nat} (hv:v<128 ^ k) (hk:k<9):bits .or .u64 (v:Int) (IntKind.u64.wrap ((x:Int)%128*2 ^ (7*k)))=((v+x%128*128 ^ k:Nat):Int):=by
 have hx:x%128<128:=Nat.mod_lt _ (by decide);have h1:x%128*128 ^ k<=127*128 ^ k:=Nat.mul_le_mul_right _ (by omega);have h2:128 ^ (k+1)<=9223372036854775808:=Kd (by omega);rw[Nat.pow_succ] at h2;have hc:(x:Int)%128*2 ^ (7*k)=((x%128*128 ^ k:Nat):Int):=by rw[Hl];simp
 rw[hc,IntWalk.u64_in _ (by omega),bits_or_u64_nat _ _ (by omega) (by omega)];congr 1;rw[Hl,Nat.or_comm,Nat.mul_comm,<-Nat.two_pow_add_eq_or_of_lt (by rw[<-Hl];exact hv),Nat.add_comm]
set_option maxHeartbeats 1600000 in
theorem qy (b off n c:Nat) (g:Nat->Nat) (w:World) (hn:n<=9223372036854775807) (hg:∀i,g i<256) (hc:cY w b off n g):
 Calls Tryz.prog 133 #[.slice (some ⟨b,off,none⟩) n c] w fun e w'=>e=.returned (uN (bJ g n))/\w=w':=by
 have HC:=ae hc;have HG:=ae hg;clear hc hg;go_enter Tryz.func133,Tryz.ntmps133;go_wp2_with fail
 go_loop [5,7] (fun a i=>∃(k:Nat),k<=9/\k<=n/\i=.int .i64 k/\a=.int .u64 (gm g k:Nat)/\rd g n (9-k) k=bJ g n) (fun _ i=>9-(intOf i).toNat)
 case atStart=>exact⟨0,by omega,by omega,rfl,rfl,rfl⟩
 case round=>
  obtain⟨k,hk,hkn,rfl,rfl,hr⟩:=hrel;by_cases hlt:k<9
  ·by_cases he:k=n
   ·have HX:=ae (show bJ g n=(0,0,21) by rw[<-hr,show 9-k=(8-k)+1 by omega];unfold rd;rw[if_pos he]);clear hr;go_wp2_with fail
    go_ret3
    exact⟨by rw[HX.out];rfl,rfl⟩
   ·have hc:=HC.out k (by omega);have hgk:=HG.out k;have HR:=ae (show bJ g n=(if 128<=g k then rd g n (8-k) (k+1) else if(g k=0/\0<k)∨4611686018427387903<gm g (k+1) then(0,0,4) else(gm g (k+1),(k:Int)+1,0)) by rw[<-hr,show 9-k=(8-k)+1 by omega];exact if_neg he);have HV:=ae (show gm g (k+1)=gm g k+g k%128*128 ^ k from rfl);have IS:=ae (qI g k);have BI:=ae (qI g (k+1));have Ij:=ae (fun(q:Nat) (hq:q=k+1)=>(by subst hq;rfl:gm g q=gm g k+g k%128*128 ^ k));clear hr;generalize gm g (k+1)=v' at*;generalize gm g k=v at*;generalize g k=gk at*;have HO:=ae (QJ (x:=gk) IS.out hlt);have Re:v'<9223372036854775808:=by
     have h3:=Kd (k:=k+1) (by omega);have h4:=BI.out;omega
    by_cases h1:128<=gk
    ·have HX:=ae (HR.out.trans (if_pos h1));go_wp2_with fail;go_round
     case rel=>exact⟨k+1,by omega,by omega,by go_num,by rw[HO.out,Ij.out _ rfl],by rw[show 9-(k+1)=8-k by omega];exact HX.out.symm⟩
     case measure=>simp[intOf];omega
    ·have HX:=ae (HR.out.trans (if_neg h1));have ho:bits .or .u64 (v:Int) (IntKind.u64.wrap ((gk:Int)%128*2 ^ (7*k)))=(v':Int):=by rw[HO.out,<-HV.out]
     by_cases h2:(gk=0/\0<k)∨4611686018427387903<v'
     ·have mK:=ae (HX.out.trans (if_pos h2));clear HX HR;by_cases h3:gk=0/\0<k
      ·obtain⟨h3,h4⟩:=h3;subst h3;clear h2 h1;go_wp2_with fail
       go_ret3
       exact⟨by rw[mK.out];rfl,rfl⟩
      ·have h4:4611686018427387903<v':=by omega
       clear h2;by_cases h5:gk=0
       ·have h6:k=0:=by omega
        have h7:((gk:Int) == 0)=true:=by simp;omega
        have H6:=ae h6;clear h6;clear h5;go_wp2_with fail
        all_goals first| (go_ret3;exact⟨by rw[mK.out];rfl,rfl⟩) | (have hk0:k=0:=H6.out;subst hk0;go_ret3;exact⟨by rw[mK.out];rfl,rfl⟩)
       ·have h7:((gk:Int) == 0)=false:=by simp;omega
        clear h5 h3;go_wp2_with fail
        go_ret3
        exact⟨by rw[mK.out];rfl,rfl⟩
     ·have mK:=ae (HX.out.trans (if_neg h2));clear HX HR;have h4:¬ 4611686018427387903<v':=by omega
      by_cases h5:gk=0
      ·have h6:k=0:=by omega
       have h7:((gk:Int) == 0)=true:=by simp;omega
       have H6:=ae h6;clear h6;clear h5;go_wp2_with fail
       all_goals first| (go_ret3;exact⟨by rw[mK.out];rfl,rfl⟩) | (have hk0:k=0:=H6.out;subst hk0;go_ret3;exact⟨by rw[mK.out];rfl,rfl⟩)
      ·have h7:((gk:Int) == 0)=false:=by simp;omega
       clear h5 h2;go_wp2_with fail
       go_ret3
       exact⟨by rw[mK.out];rfl,rfl⟩
  ·obtain rfl:k=9:=by omega
   have HX:=ae (show bJ g n=(0,0,4) from hr.symm);clear hr;go_wp2_with fail
   go_ret3
   exact⟨by rw[HX.out];rfl,rfl⟩
open Go.RowKit
def dZ (x:Int×Int×Int):Int×Int×Int:=if x.2.2=0 then(if x.1%2=1 then(-(x.1/2)-1,x.2.1,0) else(x.1/2,x.2.1,0)) else(0,0,x.2.2)
theorem k6 (x:Int×Int×Int):uN x=.tuple #[.int .i64 x.1,.int .i64 x.2.1,.int .i64 x.2.2]:=rfl
theorem Bw (g:Nat->Nat) (n:Nat):∀f i,(0<=(rd g n f i).1 /\(rd g n f i).1 <=4611686018427387903)/\((rd g n f i).2.2 =0->i<=n->(i:Int)+1<=(rd g n f i).2.1 /\(rd g n f i).2.1 <=n)
 |0,i=>by simp[rd]
 |f+1,i=>by
  unfold rd
  split
  ·simp
  ·split
   ·have h:=Bw g n f (i+1);refine⟨h.1,fun h1 h2=>?_⟩;have h3:=h.2 h1 (by omega);omega
   ·split
    ·simp
    ·simp;omega
theorem nr (g:Nat->Nat) (n:Nat):0<=(bJ g n).1 /\(bJ g n).1 <=4611686018427387903:=(Bw g n 9 0).1
theorem np (g:Nat->Nat) (n:Nat) (h:(bJ g n).2.2 =0):1<=(bJ g n).2.1 /\(bJ g n).2.1 <=n:=(Bw g n 9 0).2 h (by omega)
theorem dx (x:Int×Int×Int):(dZ x).2.2 =x.2.2/\(x.2.2=0->(dZ x).2.1 =x.2.1):=by
 obtain⟨v,s,e⟩:=x;unfold dZ
 split
 ·rename_i h;simp only at h;subst h;split<;>simp
 ·rename_i h;exact⟨rfl,fun h2=>absurd h2 h⟩
theorem sr (b off n c:Nat) (g:Nat->Nat) (w:World) (hn:n<=9223372036854775807) (hg:∀i,g i<256) (hc:cY w b off n g):
 Calls Tryz.prog 148 #[.slice (some ⟨b,off,none⟩) n c] w fun e w'=>e=.returned (uN (dZ (bJ g n)))/\w=w':=by
 have H:=ae (qy b off n c g w hn hg hc);have hb:=nr g n;have hs:=k6 (bJ g n);generalize bJ g n=x at*;obtain⟨v,s,e⟩:=x;rw[hs] at H;clear hs hc hg;simp only at hb H;by_cases he:e=0
 ·subst he;by_cases ho:v%2=1
  ·have HX:=ae (show dZ (v,s,0)=(-(v/2)-1,s,0) by simp[dZ,ho]);go_enter Tryz.func148,Tryz.ntmps148;go_wp2_with fail;refine H.out.mono ?_;rintro r w1 ⟨rfl,rfl⟩;go_wp2_with fail
   go_ret3
   exact⟨by rw[HX.out];rfl,rfl⟩
  ·have HX:=ae (show dZ (v,s,0)=(v/2,s,0) by simp[dZ,ho]);have hev:v%2=0:=by omega
   go_enter Tryz.func148,Tryz.ntmps148;go_wp2_with fail;refine H.out.mono ?_;rintro r w1 ⟨rfl,rfl⟩;go_wp2_with fail
   go_ret3
   exact⟨by rw[HX.out];rfl,rfl⟩
 ·have HX:=ae (show dZ (v,s,e)=(0,0,e) from if_neg he);go_enter Tryz.func148,Tryz.ntmps148;go_wp2_with fail;refine H.out.mono ?_;rintro r w1 ⟨rfl,rfl⟩;go_wp2_with fail
  go_ret3
  exact⟨by rw[HX.out];rfl,rfl⟩
open Go.RowKit
def cg (xs:List Nat):List Value:=xs.map fun(x:Nat)=>Value.int .u8 (x:Int)
theorem eO (xs:List Nat):∀u∈cg xs,u.oneCell'=true:=by
 intro u hu;simp[cg] at hu;obtain⟨x,_,rfl⟩:=hu;rfl
theorem oi:(Tryz.prog.info? 5).map (fun i=>(i.zero,i.size,i.bytes))=some (some (.int .u8 0),1,1):=by kernel_rfl
theorem Aq {w:World} {B B':Nat} {e:TypeId} {s n:Nat} {v:Value} {xs:List Value} (h:w.ownsRow B e s v n xs) (hB:B'<=B):w.ownsRow B' e s v n xs:=by
 obtain⟨h1,h2⟩:=h;refine⟨h1,?_⟩
 rcases h2 with h2| ⟨g,cap,cur,hv,hg,h3⟩
 ·exact Or.inl h2
 ·exact Or.inr ⟨g,cap,cur,hv,by omega,h3⟩
theorem f3 (xs ys:List Nat):cg (xs++ys)=cg xs++cg ys:=by simp[cg]
theorem mY {w:World} {x:Nat} {z:Int} (hz:z=x):∀(j:Nat) (u:Value),(cg [x])[j]? =some u->(w.alloc (.cells #[.int .u8 z] 5)).cell? ((⟨w.heap.size,0,none⟩:Addr).add j)=some u:=by
 subst hz;intro j u hj
 match j,hj with
 |0,hj=>
  simp[cg] at hj;subst hj;simp[Addr.add]
theorem gz {B:Nat} {w wr w':World} {v:Value} {o:Obj} {e:TypeId} {s n:Nat} {xs:List Value} (hB:Below B w wr) (ho:wr.ownsRow B e s v n xs) (hg:(wr.alloc o).grownBy w' v.ownBlock) (hs:B<=wr.heap.size):Below B w w':=
 (hB.alloc hs o).grown hg (by simp;omega) (fun k hk=>(ho.lt k hk).1)
def ck (n:Nat):List Nat:=if h:128<=n then(n%128+128)::ck (n/128) else [n]
decreasing_by omega
theorem ie {n:Nat} (h:128<=n):ck n=(n%128+128)::ck (n/128):=by rw[ck];exact dif_pos h
theorem fI {n:Nat} (h:¬ 128<=n):ck n=[n]:=by rw[ck];exact dif_neg h
theorem ia:∀(k n:Nat),n<128 ^ (k+1)->(ck n).length <=k+1
 |0,n,h=>by rw[fI (by omega)];simp
 |k+1,n,h=>by
  by_cases h1:128<=n
  ·rw[ie h1];have:=ia k (n/128) (by rw[Nat.pow_succ] at h;omega);simp;omega
  ·rw[fI h1];simp
theorem oC (n:Nat):0<(ck n).length :=by
 rw[ck];split<;>simp
def cm (w:World) (B:Nat) (v:Value) (xs:List Nat):Prop:=w.ownsRow B 5 1 v xs.length (cg xs)/\(xs=[]->v=.slice none 0 0)
theorem cm.of {w:World} {B:Nat} {v:Value} {xs:List Nat} (h:w.ownsRow B 5 1 v xs.length (cg xs)) (hp:0<xs.length):cm w B v xs:=⟨h,fun e=>by subst e;cases hp⟩
theorem cm.base {w:World} {B B':Nat} {v:Value} {xs:List Nat} (h:cm w B v xs) (hB:B'<=B):cm w B' v xs:=⟨Aq h.1 hB,h.2⟩
theorem cm.cases {w:World} {B:Nat} {v:Value} {xs:List Nat} (h:cm w B v xs):(v=.slice none 0 0/\xs=[])∨(∃g cap,v=.slice (some ⟨g,0,none⟩) xs.length cap/\B<=g/\0<xs.length):=by
 obtain⟨⟨_,h2⟩,h3⟩:=h;by_cases he:xs=[]
 ·exact Or.inl ⟨h3 he,he⟩
 ·have hp:0<xs.length:=List.length_pos_iff.2 he
  rcases h2 with⟨_,h0⟩ | ⟨g,cap,cur,hv,hg,_⟩
  ·omega
  ·exact Or.inr ⟨g,cap,hv,hg,hp⟩
open Go.RowKit
def l6 (z:Int):Nat:=if z<0 then(-2*z-1).toNat else(2*z).toNat
def bO {α:Type} (f:α->List Nat) (zs:List α):List Nat:=(zs.map f).flatten
theorem pS {α:Type} {f:α->List Nat} {zs:List α} {k:Nat} (hk:k<zs.length):bO f (zs.take (k+1))=bO f (zs.take k)++f zs[k]:=by
 unfold bO;rw[List.take_succ_eq_append_getElem hk,List.map_append,List.flatten_append];simp
theorem dB {α:Type} {f:α->List Nat} {m:Nat} :∀(zs:List α),(∀z∈zs,(f z).length <=m)->(bO f zs).length <=zs.length*m
 | [],_=>by simp[bO]
 |z::zs,h=>by
  have h1:=dB zs (fun y hy=>h y (by simp[hy]));have h2:=h z (by simp);have h3:bO f (z::zs)=f z++bO f zs:=rfl;rw[h3,List.length_append,List.length_cons,Nat.succ_mul];omega
theorem qJ {z:Int} (h: -2305843009213693952<=z/\z<=2305843009213693951):(ck (l6 z)).length <=9:=by
 refine ia 8 _ ?_;unfold l6
 split<;>omega
theorem gw {z:Int} (h:0<=z/\z<=4611686018427387903):(ck z.toNat).length <=9:=ia 8 _ (by omega)
def aQ (z:Int):List Nat:=ck z.toNat
def fh (z:Int):List Nat:=ck (l6 z)
open Go.RowKit
structure bM (rb B:Nat) (w w':World):Prop where
 os:w'.os=w.os
 tape:w'.tape=w.tape
 output:w'.output=w.output
 size:w.heap.size<=w'.heap.size
 block:∀k,k<B->k≠rb->w'.heap[k]? =w.heap[k]?
theorem bM.heap {rb:Nat} {w w':World} {n:Nat} {x:Obj} (h:bM rb w.heap.size w w') (hne:n≠rb) (hx:w.heap[n]? =some x):w'.heap[n]? =some x:=by
 rw[h.block n (Array.getElem?_eq_some_iff.1 hx).1 hne];exact hx
theorem heap_setCell {w:World} {b t j:Nat} {fr:Nat×Nat} {C:Array Value} (h:w.heap[b]? =some (.cells C t fr)) (v:Value):(w.setCell ⟨b,j,none⟩ v).heap[b]? =some (.cells (C.setIfInBounds j v) t fr):=by
 simp only[World.setCell,Array.getElem?_modify];rw[if_pos trivial,h];simp
theorem cG {w w0:World} {rb B j:Nat} (h:bM rb B w0 w) (v:Value):bM rb B w0 (w.setCell ⟨rb,j,none⟩ v):=by
 refine⟨h.os,h.tape,h.output,by simpa using h.size,fun k hk hne=>?_⟩;rw[Below.heap_setCell w ⟨rb,j,none⟩ v k hne];exact h.block k hk hne
theorem bM.refl (rb B:Nat) (w:World):bM rb B w w:=⟨rfl,rfl,rfl,Nat.le_refl _,fun _ _ _=>rfl⟩
theorem sE (rb b off n c:Nat) (bd:Bool) (v s e:Int) (w:World) (he:e≠0∨bd=true) (hr:w.heap[rb]? =some (.cells #[.slice (some ⟨b,off,none⟩) n c,.bool bd] 146)):
 Calls Tryz.prog 134 #[.pointer (some ⟨rb,0,none⟩),.int .i64 v,.int .i64 s,.int .i64 e] w fun r w'=>r=.returned (.int .i64 0)/\w'.heap[rb]? =some (.cells #[.slice (some ⟨b,off,none⟩) n c,.bool true] 146)/\bM rb w.heap.size w w':=by
 have HR:=ae hr;have hc0:w.cell? ⟨rb,0,none⟩=some (.slice (some ⟨b,off,none⟩) n c):=by simp[World.cell?,hr]
 have hf1:w.frozen? ⟨rb,1,none⟩=false:=by simp[World.frozen?,hr]
 by_cases he0:e=0
 ·obtain rfl:bd=true:=he.resolve_left (fun h=>h he0);have hc1:w.cell? ⟨rb,1,none⟩=some (.bool true):=by simp[World.cell?,hr]
  clear hr he;subst he0;go_enter Tryz.func134,Tryz.ntmps134;go_wp2_with fail;go_ret;exact⟨rfl,heap_setCell HR.out _,cG (bM.refl _ _ _) _⟩
 ·have hc1:w.cell? ⟨rb,1,none⟩=some (.bool bd):=by simp[World.cell?,hr]
  have hee:(e == 0)=false:=by simp[he0]
  clear hr he;go_enter Tryz.func134,Tryz.ntmps134;go_wp2_with fail;go_ret;exact⟨rfl,heap_setCell HR.out _,cG (bM.refl _ _ _) _⟩
theorem pK (rb b off n c k:Nat) (v:Int) (w:World) (hk:k<=n) (hn:n<=c) (hc:c<=9223372036854775807) (hr:w.heap[rb]? =some (.cells #[.slice (some ⟨b,off,none⟩) n c,.bool false] 146)):
 Calls Tryz.prog 134 #[.pointer (some ⟨rb,0,none⟩),.int .i64 v,.int .i64 k,.int .i64 0] w fun r w'=>r=.returned (.int .i64 v)/\(∃o,(o=off+k∨n-k=0)/\w'.heap[rb]? =some (.cells #[.slice (some ⟨b,o,none⟩) (n-k) (c-k),.bool false] 146))/\bM rb w.heap.size w w':=by
 have HR:=ae hr;have hc0:w.cell? ⟨rb,0,none⟩=some (.slice (some ⟨b,off,none⟩) n c):=by simp[World.cell?,hr]
 have hc1:w.cell? ⟨rb,1,none⟩=some (.bool false):=by simp[World.cell?,hr]
 have hf1:w.frozen? ⟨rb,0,none⟩=false:=by simp[World.frozen?,hr]
 clear hr;by_cases hck:k<c
 ·go_enter Tryz.func134,Tryz.ntmps134;go_wp2_with fail
  all_goals first| (exfalso;omega) | (go_ret;exact⟨rfl,⟨off+k,Or.inl rfl,heap_setCell HR.out _⟩,cG (bM.refl _ _ _) _⟩)
 ·obtain rfl:k=c:=by omega
  obtain rfl:n=k:=by omega
  clear hck;go_enter Tryz.func134,Tryz.ntmps134;go_wp2_with fail
  all_goals first| (go_ret;exact⟨rfl,⟨off,Or.inr (Nat.sub_self _),by rw[Nat.sub_self];exact heap_setCell HR.out _⟩,cG (bM.refl _ _ _) _⟩) | (go_ret;exact⟨rfl,⟨off+n,Or.inl rfl,heap_setCell HR.out _⟩,cG (bM.refl _ _ _) _⟩)
structure St where
 g:Nat->Nat
 m:Nat
 bad:Bool
def bi (sg:Bool) (s:St):Int×St:=
 let x:=if sg then dZ (bJ s.g s.m) else bJ s.g s.m
 if x.2.2=0/\s.bad=false then(x.1,⟨fun i=>s.g (i+x.2.1.toNat),s.m-x.2.1.toNat,s.bad⟩) else(0,⟨s.g,s.m,true⟩)
def aZ (w:World) (rb ty b:Nat) (s:St):Prop:=
 ∃o c,w.heap[rb]? =some (.cells #[.slice (some ⟨b,o,none⟩) s.m c,.bool s.bad] ty)/\s.m<=c/\c<=9223372036854775807/\cY w b o s.m s.g/\rb≠b/\(∀i,s.g i<256)/\b<w.heap.size
theorem j8 {w w':World} {rb b o m:Nat} {g:Nat->Nat} (h:cY w b o m g) (ho:bM rb w.heap.size w w') (hne:b≠rb) (hb:b<w.heap.size):cY w' b o m g:=by
 intro i hi;rw[World.cell?_of_block (w:=w) (w':=w') (a:=⟨b,o+i,none⟩) (ho.block b hb hne)];exact h i hi
theorem pL {sg:Bool} {s:St} (h:¬((bJ s.g s.m).2.2 =0/\s.bad=false)):bi sg s=(0,⟨s.g,s.m,true⟩):=by
 unfold bi
 cases sg
 ·exact if_neg h
 ·exact if_neg (by show ¬((dZ _).2.2 =0/\_);rw[(dx _).1];exact h)
theorem iC {sg:Bool} {s:St} {k:Nat} (h:(bJ s.g s.m).2.2 =0) (hb:s.bad=false) (hk:(bJ s.g s.m).2.1 =k):bi sg s=((if sg then dZ (bJ s.g s.m) else bJ s.g s.m).1,⟨fun i=>s.g (i+k),s.m-k,s.bad⟩):=by
 unfold bi
 cases sg
 ·refine(if_pos ⟨h,hb⟩).trans ?_;simp only[Bool.false_eq_true,if_false,hk,Int.toNat_natCast]
 ·refine(if_pos (show(dZ _).2.2 =0/\_ by rw[(dx _).1];exact⟨h,hb⟩)).trans ?_;simp only[if_true,(dx _).2 h,hk,Int.toNat_natCast]
theorem tk {w w':World} {rb ty b o o' c k:Nat} {s:St} (ho:bM rb w.heap.size w w') (hm:s.m<=c) (hc:c<=9223372036854775807) (hb:cY w b o s.m s.g) (hne:rb≠b) (hg:∀i,s.g i<256) (hbw:b<w.heap.size)
 (hk:k<=s.m) (h:o'=o+k∨s.m-k=0) (hr:w'.heap[rb]? =some (.cells #[.slice (some ⟨b,o',none⟩) (s.m-k) (c-k),.bool s.bad] ty)):aZ w' rb ty b ⟨fun i=>s.g (i+k),s.m-k,s.bad⟩:=by
 refine⟨o',c-k,hr,by show s.m-k<=c-k;omega,by omega,?_,hne,fun i=>hg _,Nat.lt_of_lt_of_le hbw ho.size⟩;intro i hi;have hi':i<s.m-k:=hi
 rcases h with rfl|h
 ·have h1:=j8 hb ho (fun h=>hne h.symm) hbw (i+k) (by omega);rw[show o+k+i=o+(i+k) by omega];exact h1
 ·omega
theorem oW (rb b:Nat) (s:St) (w:World) (h:aZ w rb 146 b s):
 Calls Tryz.prog 99 #[.pointer (some ⟨rb,0,none⟩)] w fun r w'=>r=.returned (.int .i64 (bi false s).1)/\aZ w' rb 146 b (bi false s).2 /\bM rb w.heap.size w w':=by
 obtain⟨o,c,hr,hm,hc,hb,hne,hg,hbw⟩:=h;have sK:=ae (qy b o s.m c s.g w (by omega) hg hb);have pM:=ae hr;have hc0:w.cell? ⟨rb,0,none⟩=some (.slice (some ⟨b,o,none⟩) s.m c):=by simp[World.cell?,hr]
 by_cases hgd:(bJ s.g s.m).2.2 =0/\s.bad=false
 ·obtain⟨he,hbd⟩:=hgd;have EZ:=ae hbd;have hsz:=np s.g s.m he;obtain⟨k,hk⟩:∃k:Nat,(bJ s.g s.m).2.1 =k:=⟨(bJ s.g s.m).2.1.toNat,by omega⟩;have hkm:k<=s.m:=by omega
  have HN:=ae (iC (sg:=false) he hbd hk);have HI:=ae (show uN (bJ s.g s.m)=.tuple #[.int .i64 ((bJ s.g s.m)).1,.int .i64 k,.int .i64 0] by first| (rw[k6,(dx _).1,(dx _).2 he,he,hk]) | (rw[k6,he,hk]));have HB:=ae hb;have HG:=ae hg;clear hb hg he hk hsz hbd;go_enter Tryz.func99,Tryz.ntmps99;go_wp2_with fail;refine sK.out.mono ?_;rintro r w1 ⟨rfl,rfl⟩;rw[HI.out];go_wp2_with fail;refine(pK rb b o s.m c k _ _ hkm hm hc (by rw[<-EZ.out];exact pM.out)).mono ?_;rintro r w2 ⟨rfl,⟨o',ho',hr'⟩,hol⟩;go_wp2_with fail;go_ret;rw[HN.out];exact⟨rfl,tk hol hm hc HB.out hne HG.out hbw hkm ho' (by rw[EZ.out];exact hr'),hol⟩
 ·have HN:=ae (pL (sg:=false) hgd);have HI:=ae (show uN (bJ s.g s.m)=.tuple #[.int .i64 ((bJ s.g s.m)).1,.int .i64 ((bJ s.g s.m)).2.1,.int .i64 ((bJ s.g s.m)).2.2] from rfl);have hse:((bJ s.g s.m)).2.2 ≠0∨s.bad=true:=by
   by_cases hb2:s.bad=true
   ·exact Or.inr hb2
   ·refine Or.inl (fun h=>hgd ⟨?_,by simpa using hb2⟩)
    first|exact h| (rw[(dx _).1] at h;exact h)
  have HB:=ae hb;have HG:=ae hg;clear hb hg hgd;go_enter Tryz.func99,Tryz.ntmps99;go_wp2_with fail;refine sK.out.mono ?_;rintro r w1 ⟨rfl,rfl⟩;rw[HI.out];go_wp2_with fail;refine(sE rb b o s.m c s.bad _ _ _ _ hse pM.out).mono ?_;rintro r w2 ⟨rfl,hr',hol⟩;go_wp2_with fail;go_ret;rw[HN.out];exact⟨rfl,⟨o,c,hr',hm,hc,j8 HB.out hol (fun h=>hne h.symm) hbw,hne,HG.out,Nat.lt_of_lt_of_le hbw hol.size⟩,hol⟩
theorem uZ (rb b:Nat) (s:St) (w:World) (h:aZ w rb 146 b s):
 Calls Tryz.prog 135 #[.pointer (some ⟨rb,0,none⟩)] w fun r w'=>r=.returned (.int .i64 (bi true s).1)/\aZ w' rb 146 b (bi true s).2 /\bM rb w.heap.size w w':=by
 obtain⟨o,c,hr,hm,hc,hb,hne,hg,hbw⟩:=h;have sK:=ae (sr b o s.m c s.g w (by omega) hg hb);have pM:=ae hr;have hc0:w.cell? ⟨rb,0,none⟩=some (.slice (some ⟨b,o,none⟩) s.m c):=by simp[World.cell?,hr]
 by_cases hgd:(bJ s.g s.m).2.2 =0/\s.bad=false
 ·obtain⟨he,hbd⟩:=hgd;have EZ:=ae hbd;have hsz:=np s.g s.m he;obtain⟨k,hk⟩:∃k:Nat,(bJ s.g s.m).2.1 =k:=⟨(bJ s.g s.m).2.1.toNat,by omega⟩;have hkm:k<=s.m:=by omega
  have HN:=ae (iC (sg:=true) he hbd hk);have HI:=ae (show uN (dZ (bJ s.g s.m))=.tuple #[.int .i64 ((dZ (bJ s.g s.m))).1,.int .i64 k,.int .i64 0] by first| (rw[k6,(dx _).1,(dx _).2 he,he,hk]) | (rw[k6,he,hk]));have HB:=ae hb;have HG:=ae hg;clear hb hg he hk hsz hbd;go_enter Tryz.func135,Tryz.ntmps135;go_wp2_with fail;refine sK.out.mono ?_;rintro r w1 ⟨rfl,rfl⟩;rw[HI.out];go_wp2_with fail;refine(pK rb b o s.m c k _ _ hkm hm hc (by rw[<-EZ.out];exact pM.out)).mono ?_;rintro r w2 ⟨rfl,⟨o',ho',hr'⟩,hol⟩;go_wp2_with fail;go_ret;rw[HN.out];exact⟨rfl,tk hol hm hc HB.out hne HG.out hbw hkm ho' (by rw[EZ.out];exact hr'),hol⟩
 ·have HN:=ae (pL (sg:=true) hgd);have HI:=ae (show uN (dZ (bJ s.g s.m))=.tuple #[.int .i64 ((dZ (bJ s.g s.m))).1,.int .i64 ((dZ (bJ s.g s.m))).2.1,.int .i64 ((dZ (bJ s.g s.m))).2.2] from rfl);have hse:((dZ (bJ s.g s.m))).2.2 ≠0∨s.bad=true:=by
   by_cases hb2:s.bad=true
   ·exact Or.inr hb2
   ·refine Or.inl (fun h=>hgd ⟨?_,by simpa using hb2⟩)
    first|exact h| (rw[(dx _).1] at h;exact h)
  have HB:=ae hb;have HG:=ae hg;clear hb hg hgd;go_enter Tryz.func135,Tryz.ntmps135;go_wp2_with fail;refine sK.out.mono ?_;rintro r w1 ⟨rfl,rfl⟩;rw[HI.out];go_wp2_with fail;refine(sE rb b o s.m c s.bad _ _ _ _ hse pM.out).mono ?_;rintro r w2 ⟨rfl,hr',hol⟩;go_wp2_with fail;go_ret;rw[HN.out];exact⟨rfl,⟨o,c,hr',hm,hc,j8 HB.out hol (fun h=>hne h.symm) hbw,hne,HG.out,Nat.lt_of_lt_of_le hbw hol.size⟩,hol⟩
open Go.RowKit
theorem uj {P:Program} (t e:TypeId) (i:TypeInfo) (z:Value) (ht:P.underlying t=some (.slice e)) (hi:P.info? e=some i) (hz:i.zero=some z) (hsize:i.size=1) (hz1:z.cells= #[z])
 (kl kc:IntKind) (l n:Nat) (hl:l<=n) (hbytes:i.bytes*n<=281474976710656) (h63:n<=9223372036854775807) (w:World):
 (Instr.makeSlice t (.int kl (l:Int)) (.int kc (n:Int))).run P w=.ok (.slice (some ⟨w.heap.size,0,none⟩) l n) (w.alloc (.cells (madeCells #[z] n) e)):=by
 have hb':(i.bytes:Int)*(n:Int)<=281474976710656:=by
  have h:((i.bytes*n:Nat):Int)<=281474976710656:=by omega
  rwa[Int.natCast_mul] at h
 have hr:=run_make (P:=P) w t e i z ht hi hz kl kc l n (by omega) (by omega) hb' (by omega);simp only[Int.toNat_natCast,hsize,Nat.mul_one,hz1] at hr;exact hr
theorem i6 {P:Program} (w:World) {ops:Array Oper} {rest:List Oper} {o:Oper} {a:Act} {Q:Exit->Act->World->Prop}
 (hg:o.guard=none) (l c:Operand) (t:TypeId) (hop:o.op=Op.makeSlice t l c)
 (e:TypeId) (i:TypeInfo) (z:Value) (ht:P.underlying t=some (.slice e)) (hi:P.info? e=some i) (hz:i.zero=some z) (hsize:i.size=1) (hz1:z.cells= #[z])
 (kl kc:IntKind) (L C:Int) (m n:Nat) (hl:a.eval l=.int kl L) (hc:a.eval c=.int kc C) (hL:L=m) (hC:C=n) (hmn:m<=n) (hbytes:i.bytes*n<=281474976710656) (h63:n<=9223372036854775807)
 (hK:wpList P ops Q rest (a.put o.dst (.slice (some ⟨w.heap.size,0,none⟩) m n)) (w.alloc (.cells (madeCells #[z] n) e))):
 wpList P ops Q (o::rest) a w:=by
 refine wpList_plain hg fun K hK'=>?_
 have hrun:=uj (P:=P) t e i z ht hi hz hsize hz1 kl kc m n hmn hbytes h63 w;subst hL hC;unfold Oper.wp;simp[execOp,hop,hl,hc,hrun,Result.andThen];exact hK' _ _ hK
theorem FK {r:Int} (h:0<=r/\r<128):bits .or .u8 r 128=r+128:=by
 rw[show bits .or .u8 r 128=bits .or .u8 128 r by simp[bits,BitVec.or_comm]];rw[bits_join .u8 8 (by decide) (fun n h1 h2=>by rw[IntKind.wrap_u8];omega) 7 128 r (by omega) (by decide) (by decide) h.1 (by omega) (by omega)];omega
theorem Fe:(Tryz.prog.info? 5).map (·.size)=some 1:=by kernel_rfl
theorem zk {w:World} {a:Addr} {v:Value} {o:Obj} (h:w.cell? a=some v):(w.alloc o).cell? a=some v:=by
 have hlt:a.block<w.heap.size:=by
  unfold World.cell? at h
  split at h
  ·rename_i hx;exact(Array.getElem?_eq_some_iff.1 hx).1
  ·simp at h
 rw[World.cell?_of_block (w:=w) (w':=w.alloc o) (a:=a) (Below.heap_alloc w o _ hlt)];exact h
theorem vZ (w:World) (n:Nat) (xs:List Nat) (hlen:xs.length=n) (hn:n<=1000000):
 (w.alloc (.cells ((madeCells #[.int .u8 0] (n+9)).toList.take 0++(cg xs++(madeCells #[.int .u8 0] (n+9)).toList.drop (0+(cg xs).length))).toArray 5)).ownsRow w.heap.size 5 1 (.slice (some ⟨w.heap.size,0,none⟩) n (n+9)) n (cg xs):=by
 have h1:(cg xs).length =n:=by simp[cg,hlen]
 refine⟨by omega,Or.inr ⟨w.heap.size,n+9,_,rfl,Nat.le_refl _,ai _ _ _ rfl,by omega,by unfold maxLen;omega,?_,?_⟩⟩
 ·simp[h1,size_madeCells]
 ·simp[h1]
theorem rW (g n cap z:Nat) (xs:List Nat) (w:World) (hown:w.ownsRow 0 5 1 (.slice (some ⟨g,0,none⟩) n cap) n (cg xs)) (hn:n<=1000000) (hn0:0<n) (hz:z<=4611686018427387903):
 Calls Tryz.prog 144 #[.slice (some ⟨g,0,none⟩) n cap,.int .i64 z] w fun e w'=>(∃v,e=.returned (.tuple #[v,.int .i64 0])/\w'.ownsRow w.heap.size 5 1 v (xs++ck z).length (cg (xs++ck z)))/\Below w.heap.size w w':=by
 obtain⟨i0,hi,hz0,hz1,hz2⟩:=aF oi;have HO:=ae hown;have HI:=ae hi;have HZ0:=ae hz0;have HZ1:=ae hz1;have HZ2:=ae hz2;have hlen:xs.length=n:=by have:=hown.1;simpa[cg] using this
 have hel:=ia 8 z (by omega);clear hown hi hz0 hz1 hz2;go_enter Tryz.func144,Tryz.ntmps144
 go_wp2_with (first| (refine i6 _ rfl (.tmp 14) (.tmp 17) 63 rfl 5 i0 (.int .u8 0) Tryz.underlying63 HI.out HZ0.out HZ1.out rfl .i64 .i64 _ _ n (n+9) rfl rfl (by omega) (by omega) (by omega) (by rw[HZ2.out];omega) (by omega) ?_) | (refine wpList_copy_own rfl (.tmp 19) (.tmp 20) 63 63 rfl 5 Tryz.underlying63 Fe w.heap.size 0 n (n+9) ⟨g,0,none⟩ n cap rfl rfl (madeCells #[.int .u8 0] (n+9)) 5 (ai _ _ _ rfl) (cg xs) (by rw[show(cg xs).length =n by simp[cg,hlen]];exact(Nat.min_self n).symm) (fun j v hj=>zk (HO.out.cells (g:=g) rfl j v hj)) (by simp[cg,hlen,size_madeCells]) (eO xs) ?_;rw[nx _ _ _ _ _ _ rfl]))
 have jD:=ae (vZ w n xs hlen hn);have HB:=ae ((Below.refl w.heap.size w).alloc (Nat.le_refl _) (.cells ((madeCells #[.int .u8 0] (n+9)).toList.take 0++(cg xs++(madeCells #[.int .u8 0] (n+9)).toList.drop (0+(cg xs).length))).toArray 5));refine au (fun W hW=>?_);rw[<-hW] at jD HB;clear hW;go_frame
 go_loopw [1,6] (fun q v wr=>∃(k:Nat) (ys:List Nat),k<=z/\q=.int .i64 k/\xs++ck z=ys++ck k/\wr.ownsRow w.heap.size 5 1 v ys.length (cg ys)/\Below w.heap.size w wr) (fun q _ _=>(intOf q).toNat)
 case atStart=>exact⟨z,xs,Nat.le_refl _,rfl,rfl,by rw[hlen];exact jD.out,HB.out⟩
 case round=>
  obtain⟨k,ys,hk,rfl,he,hown2,hB⟩:=hrel;have hz2:=hB.size;have HB2:=ae hB;have eu:=ae hown2;have hle:ys.length<=1000100:=by
   have h1:=congrArg List.length he;simp at h1;omega
  by_cases h1:128<=k
  ·have HE:=ae (show xs++ck z=(ys++[k%128+128])++ck (k/128) by rw[he,ie h1];simp);have ho:=FK (r:=(k:Int)%128) (by omega);clear he hB hown2;go_wp2_with (at_builtin;refine wpList_append_own _ rfl (.tmp 24) (.tmp 29) 63 rfl w.heap.size 5 i0 (.int .u8 0) 1 1 Tryz.underlying63 HI.out HZ0.out HZ1.out HZ2.out rfl (by decide) _ ys.length (cg ys) rfl (eu.out.alloc _) ⟨wr.heap.size,0,none⟩ 1 1 (cg [k%128+128]) rfl rfl (mY (by omega)) (eO _) (by unfold maxLen;omega) (by omega) (by simp;omega) ?_;intro v' w2 cL fP hnil3);have hb3:=gz HB2.out eu.out fP hz2;rw[<-f3,show ys.length+1=(ys++[k%128+128]).length by simp] at cL;have HB3:=ae hb3;have nq:=ae cL;clear hb3 cL fP hnil3;go_wp2_with fail;go_roundw
   case rel=>((repeat apply Exists.intro);exact⟨⟨k/128,ys++[k%128+128],by omega,by go_num,HE.out,nq.out,HB3.out⟩,rfl⟩)
   case measure=>simp[intOf];omega
  ·have HE:=ae (show xs++ck z=ys++[k] by rw[he,fI h1]);clear he hB hown2;go_wp2_with (at_builtin;refine wpList_append_own _ rfl (.tmp 33) (.tmp 36) 63 rfl w.heap.size 5 i0 (.int .u8 0) 1 1 Tryz.underlying63 HI.out HZ0.out HZ1.out HZ2.out rfl (by decide) _ ys.length (cg ys) rfl (eu.out.alloc _) ⟨wr.heap.size,0,none⟩ 1 1 (cg [k]) rfl rfl (mY (by first|rfl|omega)) (eO _) (by unfold maxLen;omega) (by omega) (by simp;omega) ?_;intro v' w2 cL fP hnil3);have hb3:=gz HB2.out eu.out fP hz2;rw[<-f3,show ys.length+1=(ys++[k]).length by simp] at cL;have HB3:=ae hb3;have nq:=ae cL;clear hb3 cL fP hnil3;go_wp2_with fail;go_ret2;rw[HE.out];exact⟨⟨_,rfl,nq.out⟩,HB3.out⟩
theorem CR (w:World):(w.alloc (.cells (madeCells #[.int .u8 0] 9) 5)).ownsRow w.heap.size 5 1 (.slice (some ⟨w.heap.size,0,none⟩) 0 9) 0 (cg []):=
 ⟨rfl,Or.inr ⟨w.heap.size,9,_,rfl,Nat.le_refl _,ai _ _ _ rfl,by omega,by unfold maxLen;omega,by simp[size_madeCells],by simp[cg]⟩⟩
theorem tf (z:Nat) (w:World) (hz:z<=4611686018427387903):
 Calls Tryz.prog 144 #[.slice none 0 0,.int .i64 z] w fun e w'=>(∃v,e=.returned (.tuple #[v,.int .i64 0])/\w'.ownsRow w.heap.size 5 1 v (ck z).length (cg (ck z)))/\Below w.heap.size w w':=by
 obtain⟨i0,hi,hz0,hz1,hz2⟩:=aF oi;have HI:=ae hi;have HZ0:=ae hz0;have HZ1:=ae hz1;have HZ2:=ae hz2;have hel:=ia 8 z (by omega);clear hi hz0 hz1 hz2;go_enter Tryz.func144,Tryz.ntmps144
 go_wp2_with (first| (refine i6 _ rfl (.tmp 14) (.tmp 17) 63 rfl 5 i0 (.int .u8 0) Tryz.underlying63 HI.out HZ0.out HZ1.out rfl .i64 .i64 _ _ 0 9 rfl rfl (by omega) (by omega) (by omega) (by rw[HZ2.out];omega) (by omega) ?_) | (refine wpList_copy_nothing rfl (.tmp 19) (.tmp 20) 63 63 rfl 5 Tryz.underlying63 Fe _ _ 0 9 0 0 rfl rfl rfl ?_))
 have jD:=ae (CR w);have HB:=ae ((Below.refl w.heap.size w).alloc (Nat.le_refl _) (.cells (madeCells #[.int .u8 0] 9) 5));refine au (fun W hW=>?_);rw[<-hW] at jD HB;clear hW;go_frame
 go_loopw [1,6] (fun q v wr=>∃(k:Nat) (ys:List Nat),k<=z/\q=.int .i64 k/\[]++ck z=ys++ck k/\wr.ownsRow w.heap.size 5 1 v ys.length (cg ys)/\Below w.heap.size w wr) (fun q _ _=>(intOf q).toNat)
 case atStart=>exact⟨z,[],Nat.le_refl _,rfl,rfl,jD.out,HB.out⟩
 case round=>
  obtain⟨k,ys,hk,rfl,he,hown2,hB⟩:=hrel;have hz2:=hB.size;have HB2:=ae hB;have eu:=ae hown2;have hle:ys.length<=1000100:=by
   have h1:=congrArg List.length he;simp at h1;omega
  by_cases h1:128<=k
  ·have HE:=ae (show []++ck z=(ys++[k%128+128])++ck (k/128) by rw[he,ie h1];simp);have ho:=FK (r:=(k:Int)%128) (by omega);clear he hB hown2;go_wp2_with (at_builtin;refine wpList_append_own _ rfl (.tmp 24) (.tmp 29) 63 rfl w.heap.size 5 i0 (.int .u8 0) 1 1 Tryz.underlying63 HI.out HZ0.out HZ1.out HZ2.out rfl (by decide) _ ys.length (cg ys) rfl (eu.out.alloc _) ⟨wr.heap.size,0,none⟩ 1 1 (cg [k%128+128]) rfl rfl (mY (by omega)) (eO _) (by unfold maxLen;omega) (by omega) (by simp;omega) ?_;intro v' w2 cL fP hnil3);have hb3:=gz HB2.out eu.out fP hz2;rw[<-f3,show ys.length+1=(ys++[k%128+128]).length by simp] at cL;have HB3:=ae hb3;have nq:=ae cL;clear hb3 cL fP hnil3;go_wp2_with fail;go_roundw
   case rel=>((repeat apply Exists.intro);exact⟨⟨k/128,ys++[k%128+128],by omega,by go_num,HE.out,nq.out,HB3.out⟩,rfl⟩)
   case measure=>simp[intOf];omega
  ·have HE:=ae (show []++ck z=ys++[k] by rw[he,fI h1]);clear he hB hown2;go_wp2_with (at_builtin;refine wpList_append_own _ rfl (.tmp 33) (.tmp 36) 63 rfl w.heap.size 5 i0 (.int .u8 0) 1 1 Tryz.underlying63 HI.out HZ0.out HZ1.out HZ2.out rfl (by decide) _ ys.length (cg ys) rfl (eu.out.alloc _) ⟨wr.heap.size,0,none⟩ 1 1 (cg [k]) rfl rfl (mY (by first|rfl|omega)) (eO _) (by unfold maxLen;omega) (by omega) (by simp;omega) ?_;intro v' w2 cL fP hnil3);have hb3:=gz HB2.out eu.out fP hz2;rw[<-f3,show ys.length+1=(ys++[k]).length by simp] at cL;have HB3:=ae hb3;have nq:=ae cL;clear hb3 cL fP hnil3;go_wp2_with fail;go_ret2;rw[show ck z=[]++ck z from rfl,HE.out];exact⟨⟨_,rfl,nq.out⟩,HB3.out⟩
theorem ja {v:Value} {z:Nat} {xs:List Nat} {w:World} (hown:cm w 0 v xs) (hn:xs.length<=1000000) (hz:z<=4611686018427387903):
 Calls Tryz.prog 144 #[v,.int .i64 z] w fun e w'=>(∃v',e=.returned (.tuple #[v',.int .i64 0])/\cm w' w.heap.size v' (xs++ck z))/\Below w.heap.size w w':=by
 have hp:0<(xs++ck z).length :=by have:=oC z;simp;omega
 rcases hown.cases with⟨rfl,rfl⟩ | ⟨g,cap,rfl,_,h0⟩
 ·refine(tf z w hz).mono ?_;rintro r w1 ⟨⟨v,rfl,h⟩,hb⟩;exact⟨⟨v,rfl,cm.of h hp⟩,hb⟩
 ·refine(rW g _ cap z xs w hown.1 hn h0 hz).mono ?_;rintro r w1 ⟨⟨v,rfl,h⟩,hb⟩;exact⟨⟨v,rfl,cm.of h hp⟩,hb⟩
theorem te {v:Value} {z:Int} {xs:List Nat} {w:World} (hown:cm w 0 v xs) (hn:xs.length<=1000000) (hz: -2305843009213693952<=z/\z<=2305843009213693951):
 Calls Tryz.prog 150 #[v,.int .i64 z] w fun e w'=>(∃v',e=.returned (.tuple #[v',.int .i64 0])/\cm w' w.heap.size v' (xs++ck (l6 z)))/\Below w.heap.size w w':=by
 by_cases h0:z<0
 ·have H:=ae (ja (z:=l6 z) hown hn (by unfold l6;rw[if_pos h0];omega));have HE:=ae (show((l6 z:Nat):Int)= -2*(z+1)+1 by unfold l6;rw[if_pos h0];omega);generalize l6 z=q at*;rw[HE.out] at H;clear hown;go_enter Tryz.func150,Tryz.ntmps150;go_wp2_with fail;refine H.out.mono ?_;rintro r w1 ⟨⟨v,rfl,hown1⟩,hb⟩;have HB:=ae hb;have HO:=ae hown1;clear hb hown1;go_wp2_with fail;go_ret2;exact⟨⟨_,rfl,HO.out⟩,HB.out⟩
 ·have H:=ae (ja (z:=l6 z) hown hn (by unfold l6;rw[if_neg h0];omega));have HE:=ae (show((l6 z:Nat):Int)=2*z by unfold l6;rw[if_neg h0];omega);generalize l6 z=q at*;rw[HE.out] at H;clear hown;go_enter Tryz.func150,Tryz.ntmps150;go_wp2_with fail;refine H.out.mono ?_;rintro r w1 ⟨⟨v,rfl,hown1⟩,hb⟩;have HB:=ae hb;have HO:=ae hown1;clear hb hown1;go_wp2_with fail;go_ret2;exact⟨⟨_,rfl,HO.out⟩,HB.out⟩
end Go.Proofs.YtcclpdfmmdonpaaGreat
