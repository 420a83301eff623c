/- Texts of the seat Yteanlcefdoigcaa, turned to this one by wip/port.py: MapX AppX. -/
import Derived.Test.YtcclpdfmmdonpaaGreatTTil
namespace Go.Proofs.YtcclpdfmmdonpaaGreat
open Go.RowKit Go.Maps
def dF (P:Program) (W:World) (k:TypeId) (b n s:Nat) (get:Lit->Option Value):Prop:=
 ∃D:DataW Value,W.ownsMap P k i7 b n D/\(∀kl z,D.atKey kl (.held z)=.held ((get kl).getD z))/\(∀kl,Maps.has D kl=(get kl).isSome)/\Maps.size D=s
section
variable {P:Program} {W W':World} {k t e:TypeId} {b n s:Nat} {get:Lit->Option Value}
theorem dF.at (h:dF P W k b n s get):bI P W k b n get:=by
 obtain⟨D,h1,h2,h3,_⟩:=h;exact⟨D,h1,h2,h3⟩
theorem dF.made (W:World):dF P (W.alloc (.map #[] 0)) k W.heap.size 0 0 (fun _=>none):=
 ⟨.map [],World.ownsMap_made W P k i7,fun _ _=>rfl,fun _=>rfl,rfl⟩
theorem dF.kept {row:Option Nat} (h:dF P W k b n s get) (hg:W.grownBy W' row) (hne:some b≠row):dF P W' k b n s get:=by
 obtain⟨D,h1,h2⟩:=h;exact⟨D,h1.kept hg hne,h2⟩
theorem dF.grow (h:dF P W k b n s get) (hb:Below W.heap.size W W'):dF P W' k b n s get:=h.kept (gQ hb) (by simp)
theorem dF.look_ok (h:dF P W k b n s get) (K:Keyed P k) (ht:P.underlying t=some (.map k e)) {z:Value} (hz:(zeroValue e).run P W=.ok z W) {key:Value} {kl:Lit} (hkey:keyOf P k key=some kl):
 (Instr.lookup t (.map (some b)) key true).run P W=.ok (.tuple #[(get kl).getD z,.bool (get kl).isSome]) W:=by
 obtain⟨D,h1,h2,h3,_⟩:=h;obtain⟨v,ps,hrun,hv⟩:=h1.look_ok K ht hz (zd:=.held z) (zp:=[]) rfl hkey;rw[h2] at hv;simp only[i7,Option.some.injEq,Prod.mk.injEq] at hv;have:=hv.1;injection this with this
 rw[<-this,<-h3];exact hrun
theorem dF.put (h:dF P W k b n s get) (K:Keyed P k) (ht:P.underlying t=some (.map k e)) (hn:n<maxLen) {key val:Value} {kl:Lit} (hkey:keyOf P k key=some kl) (hnew:get kl=none):
 ∃w',(Instr.mapUpdate t (.map (some b)) key val).run P W=.ok () w'/\dF P w' k b (n+1) (s+1) (dS get kl val)/\W.grownBy w' (some b):=by
 obtain⟨D,h1,h2,h3,h4⟩:=h;obtain⟨w',hrun,hown,hg⟩:=h1.update K ht hn (d:=.held val) (ps:=[]) hkey rfl;refine⟨w',hrun,⟨_,hown,fun x z=>?_,fun x=>?_,?_⟩,hg⟩
 ·unfold dS;by_cases hx:x=kl
  ·subst hx;rw[if_pos (WideAt.sameKey_self (K.key hkey)),atKey_put_same h1.isMap (K.key hkey)];rfl
  ·rw[if_neg (by rw[sameKey_ne hx];simp),atKey_put_other hx];exact h2 x z
 ·unfold dS;by_cases hx:x=kl
  ·subst hx;rw[if_pos (WideAt.sameKey_self (K.key hkey)),has_put_same h1.isMap (K.key hkey)];rfl
  ·rw[if_neg (by rw[sameKey_ne hx];simp),has_put_other hx];exact h3 x
 ·rw[size_put (h1.tidy K),h3,hnew,h4];rfl
theorem dF.drop (h:dF P W k b n (s+1) get) (K:Keyed P k) (ht:P.underlying t=some (.map k e)) {key:Value} {kl:Lit} (hkey:keyOf P k key=some kl) (hold:(get kl).isSome =true) (ty:TypeId):
 ∃w',(Builtin.delete_ #[t,k] ty #[.map (some b),key]).run P W=.ok (.tuple #[]) w'/\dF P w' k b n s (xU get kl)/\W.grownBy w' (some b):=by
 obtain⟨D,h1,h2,h3,h4⟩:=h;obtain⟨w',hrun,hown,hg⟩:=h1.drop K ht hkey ty;refine⟨w',hrun,⟨_,hown,fun x z=>?_,fun x=>?_,?_⟩,hg.grown⟩
 ·unfold xU;by_cases hx:x=kl
  ·subst hx;rw[if_pos (WideAt.sameKey_self (K.key hkey)),atKey_del_same];rfl
  ·rw[if_neg (by rw[sameKey_ne hx];simp),atKey_del_other hx];exact h2 x z
 ·unfold xU;by_cases hx:x=kl
  ·subst hx;rw[if_pos (WideAt.sameKey_self (K.key hkey)),has_del_same];rfl
  ·rw[if_neg (by rw[sameKey_ne hx];simp),has_del_other hx];exact h3 x
 ·have:=size_del (k:=kl) (h1.tidy K);rw[h3,hold,h4,if_pos rfl] at this;omega
theorem tm {ops:Array Oper} {rest:List Oper} {o:Oper} {a:Act} {Q:Exit->Act->World->Prop} (hg:o.guard=none) (m x v:Operand) (t:TypeId) (hop:o.op=Op.mapUpdate t m x v)
 (K:Keyed P k) (ht:P.underlying t=some (.map k e)) (hm:a.eval m=.map (some b)) (h:dF P W k b n s get) (hn:n<maxLen) (key val:Value) (kl:Lit) (hx:a.eval x=key) (hv:a.eval v=val) (hkey:keyOf P k key=some kl) (hnew:get kl=none)
 (hK:∀w',dF P w' k b (n+1) (s+1) (dS get kl val)->W.grownBy w' (some b)->wpList P ops Q rest (a.put o.dst undef) w'):wpList P ops Q (o::rest) a W:=by
 refine wpList_plain hg fun K' hK'=>?_
 obtain⟨w',hrun,r1,r2⟩:=h.put K ht hn (val:=val) hkey hnew;unfold Oper.wp;simp[execOp,hop,hm,hx,hv,hrun,Result.andThen];exact hK' _ _ (hK w' r1 r2)
theorem ru {ops:Array Oper} {rest:List Oper} {o:Oper} {a:Act} {Q:Exit->Act->World->Prop} (hg:o.guard=none) (m x:Operand) (t:TypeId) (hop:o.op=Op.call {callee:=Callee.builtin Builtin.delete,args:=#[m,x],argTypes:=#[t,k]})
 (K:Keyed P k) (ht:P.underlying t=some (.map k e)) (hm:a.eval m=.map (some b)) (h:dF P W k b n (s+1) get) (key:Value) (kl:Lit) (hx:a.eval x=key) (hkey:keyOf P k key=some kl) (hold:(get kl).isSome =true)
 (hK:∀w',dF P w' k b n s (xU get kl)->W.grownBy w' (some b)->wpList P ops Q rest (a.put o.dst (.tuple #[])) w'):wpList P ops Q (o::rest) a W:=by
 refine wpList_plain hg fun K' hK'=>?_
 obtain⟨w',hrun,r1,r2⟩:=h.drop K ht hkey hold o.type;unfold Oper.wp;simp[execOp,hop,resolve,invoke,builtin,hm,hx,hrun,Result.andThen];exact hK' _ _ (hK w' r1 r2)
theorem my {ops:Array Oper} {rest:List Oper} {o:Oper} {a:Act} {Q:Exit->Act->World->Prop} (hg:o.guard=none) (m:Operand) (t:TypeId) (hop:o.op=Op.call {callee:=Callee.builtin Builtin.len,args:=#[m],argTypes:=#[t]})
 (ht:P.underlying t=some (.map k e)) (hm:a.eval m=.map (some b)) (h:dF P W k b n s get)
 (hK:wpList P ops Q rest (a.put o.dst (.int .i64 s)) W):wpList P ops Q (o::rest) a W:=by
 obtain⟨D,h1,_,_,h4⟩:=h;refine wpList_len_own W hg m t hop k e ht i7 b n D hm h1 ?_;rw[h4];exact hK
end
def lM (L:List Pt):Lit->Option Value:=fun l=>(L.find? (fun p=>(Lit.int .i64 p.id).sameKey l)).map (fun p=>.agg p.row.toArray)
theorem rq (L:List Pt) (z:Int):lM L (.int .i64 z)=(L.find? (fun p=>p.id == z)).map (fun p=>.agg p.row.toArray):=by
 unfold lM;congr 2;funext p;exact kS _ _
theorem tI {L:List Pt} {z:Int} (h:∀p∈L,p.id≠z):lM L (.int .i64 z)=none:=by
 rw[rq,Option.map_eq_none_iff,List.find?_eq_none];intro p hp;simp[h p hp]
theorem nz {L:List Pt} {z:Int} :(lM L (.int .i64 z)).isSome =decide (∃p∈L,p.id=z):=by
 rw[rq,Option.isSome_map,Bool.eq_iff_iff,decide_eq_true_eq,List.find?_isSome];simp
theorem Ea (L:List Pt) (p:Pt):dS (lM L) (.int .i64 p.id) (.agg p.row.toArray)=lM (p::L):=by
 funext l;by_cases h:l=.int .i64 p.id
 ·subst h;rw[eF (show WideAt.IsKeyLit (Lit.int .i64 p.id) from trivial),rq];simp
 ·rw[ew h];unfold lM;rw[List.find?_cons,sameKey_ne (Ne.symm h)]
theorem DN (L:List Pt) (z:Int):xU (lM L) (.int .i64 z)=lM (L.filter (fun p=> !(z == p.id))):=by
 funext l;unfold xU;by_cases h:l=.int .i64 z
 ·subst h;rw[if_pos (WideAt.sameKey_self (show WideAt.IsKeyLit (Lit.int .i64 z) from trivial)),tI];intro p hp e;have:=(List.mem_filter.1 hp).2;simp[e] at this
 ·rw[if_neg (by rw[sameKey_ne h];simp)];unfold lM;rw[find_filter_keep];intro p hp;by_cases e:z=p.id
  ·subst e;rw[sameKey_ne (Ne.symm h)] at hp;exact absurd hp (by simp)
  ·simp[e]
theorem lP {L:List Pt} {l:Lit} {v:Value} (h:lM L l=some v):∃p∈L,v=.agg p.row.toArray/\l=.int .i64 p.id:=by
 unfold lM at h;obtain⟨p,h1,h2⟩:=Option.map_eq_some_iff.1 h;refine⟨p,List.mem_of_find?_eq_some h1,h2.symm,?_⟩;have h3:=List.find?_some h1;by_cases e:l=.int .i64 p.id
 ·exact e
 ·rw[sameKey_ne (Ne.symm e)] at h3;exact absurd h3 (by simp)
open Go.ChangeShapes Go.WideShapes Go.RowKit Go.Maps Go.Sort
theorem Al (W:World):(zeroValue 106).run Tryz.prog W=.ok (.agg #[.int .i64 0,.int .i64 0,.int .i64 0,.int .i64 0,.int .i64 0,.int .i64 0,.int .i64 0,.int .i64 0,.int .i64 0]) W:=by kernel_rfl
theorem G3 (p0 p1 p2 p3 p4 p5 p6 p7 p8:Int):bF 9 [[Value.int .i64 p0,.int .i64 p1,.int .i64 p2,.int .i64 p3,.int .i64 p4,.int .i64 p5,.int .i64 p6,.int .i64 p7,.int .i64 p8]]:=bF.one rfl (Pt.row_one ⟨p0,p1,p2,p3,p4,p5,p6,p7,p8⟩)
theorem tS {z:Int} :∀{L:List Pt},L.Pairwise (fun p q=>p.id≠q.id)->(∃p∈L,p.id=z)->(L.filter (fun p=> !(z == p.id))).length +1=L.length
 | [],_,h=>by obtain⟨p,hp,_⟩:=h;simp at hp
 |q::L,hw,h=>by
  obtain⟨h1,h2⟩:=List.pairwise_cons.1 hw;by_cases e:q.id=z
  ·have hall:L.filter (fun p=> !(z == p.id))=L:=by
    rw[List.filter_eq_self];intro p hp;have:=h1 p hp;rw[Bool.not_eq_true',beq_eq_false_iff_ne];exact fun g=>this (e.trans g)
   rw[List.filter_cons,if_neg (by simp[e]),hall];rfl
  ·rw[List.filter_cons,if_pos (by simp;exact fun g=>e g.symm),List.length_cons,List.length_cons,tS h2];obtain⟨p,hp,hz⟩:=h
   rcases List.mem_cons.1 hp with rfl|g
   ·exact absurd hz e
   ·exact⟨p,g,hz⟩
theorem um {P:List Pt} (h:bQ P=true):P.Pairwise (fun p q=>p.id≠q.id):=((cS P).1 h).2.2
theorem ny {P:List Pt} (h:bQ P=true) (R:List Int) {L:List Pt} (hp:L.Perm (aX P R)):L.Pairwise (fun p q=>p.id≠q.id):=
 (hp.pairwise_iff (R:=fun p q:Pt=>p.id≠q.id) (fun {_ _} e=>Ne.symm e)).2 ((um h).filter _)
theorem rz (v:Value) (l:List Pt) (w:World) (hp:cj w v l) (hn:l.length<=4096):Calls Tryz.prog 57 #[v] w fun r w'=>(∃v,r=.returned v/\aq w' w.heap.size v l)/\Below w.heap.size w w':=by
 obtain⟨a,cap,rfl,h⟩:=hp
 rcases h with rfl| ⟨b,off,rfl,hb,hr⟩
 ·exact mA a cap w
 ·exact qk b off cap l w hn hb hr
structure DS (w:World) (mb rb N:Nat) (L A:List Pt) (ov:Value) (W:World) (left:Lit->Bool) (cnt:Nat) (X:List Pt):Prop where
 rng:cu Tryz.prog W 3 mb rb N (lM L) left cnt
 has:∀kl,left kl=true->(lM L kl).isSome =true
 own:aq W w.heap.size ov (A++X)
 mem:∀p,p∈X↔p∈L/\left (.int .i64 p.id)=false
 ids:X.Pairwise (fun p q=>p.id≠q.id)
 base:w.heap.size<=mb/\w.heap.size<=rb
 below:Below w.heap.size w W
def Gc (w:World) (mb rb N:Nat) (L A:List Pt) (ov:Value) (W:World):Prop:=∃(left:Lit->Bool) (cnt:Nat) (X:List Pt) (o:Value),o=ov/\DS w mb rb N L A ov W left cnt X
theorem AY {X L:List Pt} (hx:X.Pairwise (fun p q=>p.id≠q.id)) (hl:L.Pairwise (fun p q=>p.id≠q.id)) (h:∀p,p∈X↔p∈L):X.Perm L:=by
 have hn1:X.Nodup:=hx.imp (fun g e=>g (congrArg Pt.id e));have hn2:L.Nodup:=hl.imp (fun g e=>g (congrArg Pt.id e));exact(List.perm_ext_iff_of_nodup hn1 hn2).2 h
theorem DS.len {w:World} {mb rb N:Nat} {L A:List Pt} {ov:Value} {W:World} {left:Lit->Bool} {cnt:Nat} {X:List Pt} (h:DS w mb rb N L A ov W left cnt X):X.length<=L.length:=by
 have h1:=nd (l:=X.map Pt.id) (m:=L.map Pt.id) (by rw[List.pairwise_map];exact h.ids) (fun a ha=>by
  obtain⟨p,hp,rfl⟩:=List.mem_map.1 ha
  exact List.mem_map.2 ⟨p,((h.mem p).1 hp).1,rfl⟩)
 simpa using h1
set_option maxRecDepth 100000 in
set_option maxHeartbeats 6400000 in
theorem mo (pv av rv:Value) (P A:List Pt) (R:List Int) (w:World) (hp:cj w pv P) (ha:cj w av A) (hr:fi w rv R) (Li:bQ P=true) (Lo:bQ A=true) (hRl:R.length<=maxLen) (IX:∀z∈R,(Lit.int .i64 z).wf =true):
 Calls Tryz.prog 51 #[pv,av,rv] w fun r w'=>(∃v e L,r=.returned (.tuple #[v,.int .i64 e])/\aq w' w.heap.size v L/\aM P A R e L)/\Below w.heap.size w w':=by
 have o4:=ae hp;have qZ:=ae ha;have BM:=ae Li;have KQ:=ae Lo;have HRW:=ae IX;have Fj:=ae (aW Li).2.1;have JM:=ae (aW Lo).2.1;have FL:=ae (aW Li).2.2;have zK:=ae (aW Lo).2.2;obtain⟨pa,pc,rfl,hpd⟩:=hp;obtain⟨aa,ac,rfl,had⟩:=ha;obtain⟨ra,rc,rfl,hrd⟩:=hr;obtain⟨n,hn⟩:∃n,n=P.length:=⟨_,rfl⟩;obtain⟨m,hm⟩:∃m,m=A.length:=⟨_,rfl⟩;obtain⟨q,hq⟩:∃q,q=R.length:=⟨_,rfl⟩;rw[<-hn] at o4⊢;rw[<-hm] at qZ⊢;rw[<-hq] at hRl⊢;have HN:=ae hn;have HM:=ae hm;have HQ:=ae hq;have vG:=ae hpd;have HAD:=ae had;have pM:=ae hrd;have JZ:n<=1024:=by rw[hn];exact FL.out
 have Nm:m<=1024:=by rw[hm];exact zK.out
 have LU:q<=9223372036854775807:=by unfold maxLen at hRl;omega
 clear hpd had hrd hn hm hq Li Lo IX hRl;obtain⟨i0,hi,hz0,hz1,hz2⟩:=aF ix;have HI:=ae hi;have HZ0:=ae hz0;have HZ1:=ae hz1;have HZ2:=ae hz2;clear hi hz0 hz1 hz2;have hmk:=fun(x:Int) (W:World)=>(show(Instr.makeMap 148 (some (.int .i64 x))).run Tryz.prog W=.ok (.map (some W.heap.size)) (W.alloc (.map #[] 0)) by simp[Instr.makeMap,run_underlying Tryz.underlying148,asInt,newObj];rfl)
 go_enter Tryz.func51,Tryz.ntmps51;go_upto_region 2 with fail;refine au (fun W1 hW1=>?_);have BW:=ae (show dF Tryz.prog W1 3 w.heap.size 0 0 (lM []) by rw[hW1];exact dF.made w);have HB1:=ae (show Below w.heap.size w W1 by rw[hW1];exact(Below.refl _ _).alloc (Nat.le_refl _) _);have hmb:w.heap.size<W1.heap.size:=by rw[hW1];simp
 clear hW1 hmk;go_wp2_with fail
 go_loopw [27] (fun iv W=>∃i:Nat,i<=n/\iv=.int .i64 (i:Int)/\dF Tryz.prog W 3 w.heap.size i i (lM (P.take i).reverse)/\Below w.heap.size w W/\w.heap.size<W.heap.size) (fun iv _=>n-(intOf iv).toNat)
 case atStart=>exact⟨0,by omega,rfl,BW.out,HB1.out,hmb⟩
 case round=>
  obtain⟨i,hi,rfl,hmap,hB,hmw⟩:=hrel;have uO:=ae hmap;have bm:=ae hB;have fT:=hB.size;clear hmap hB;by_cases hlt:i<n
  ·have d1:decide ((i:Int)<(n:Int))=true:=decide_eq_true (by omega);obtain⟨p,hp⟩:∃p,P[i]? =some p:=⟨_,List.getElem?_eq_getElem (by rw[<-HN.out];exact hlt)⟩;obtain⟨b,off,rfl,hbw,hrows⟩:=vG.out.resolve_left (fun h=>by rw[h] at hp;simp at hp);have hcs:∀y,y<9->wr.cell? ⟨b,off+i*9+y,none⟩=some (.int .i64 (p.f y)):=fun y hy=>by
    rw[bm.out.cell hbw,hrows i p.row (by rw[List.getElem?_map,hp];rfl) y hy,Pt.row_at p y hy]
   have pu:=ae hp;have Ek:=ae (Fj.out p (List.mem_of_getElem? hp)).1
   have PW:=ae (show lM (P.take i).reverse (.int .i64 p.id)=none from tI (fun u hu e=>by
    rw[List.mem_reverse] at hu;obtain⟨j,hj,ej⟩:=jm hu
    exact ly hj ej hp (fun g=>g e) (um BM.out)))
   have wG:=ae (show dS (lM (P.take i).reverse) (.int .i64 p.id) (.agg p.row.toArray)=lM (P.take (i+1)).reverse by
    rw[Ea,aH hp,List.reverse_append]
    rfl)
   clear hp hrows hbw;obtain⟨p0,p1,p2,p3,p4,p5,p6,p7,p8⟩:=p;simp only[Pt.row] at wG;have HKEY:=ae (keyOf_int_mk (P:=Tryz.prog) Tryz.underlying3 (show(Lit.int .i64 p0).wf =true from WalkArith.wf_i64 (by have:=Ek.out;simp only at this;omega)));have a0:wr.cell? ⟨b,off+i*9,none⟩=some (.int .i64 p0):=hcs 0 (by decide);have a1:wr.cell? ⟨b,off+i*9+1,none⟩=some (.int .i64 p1):=hcs 1 (by decide);have a2:wr.cell? ⟨b,off+i*9+2,none⟩=some (.int .i64 p2):=hcs 2 (by decide);have a3:wr.cell? ⟨b,off+i*9+3,none⟩=some (.int .i64 p3):=hcs 3 (by decide);have a4:wr.cell? ⟨b,off+i*9+4,none⟩=some (.int .i64 p4):=hcs 4 (by decide);have a5:wr.cell? ⟨b,off+i*9+5,none⟩=some (.int .i64 p5):=hcs 5 (by decide);have a6:wr.cell? ⟨b,off+i*9+6,none⟩=some (.int .i64 p6):=hcs 6 (by decide);have a7:wr.cell? ⟨b,off+i*9+7,none⟩=some (.int .i64 p7):=hcs 7 (by decide);have a8:wr.cell? ⟨b,off+i*9+8,none⟩=some (.int .i64 p8):=hcs 8 (by decide);clear hcs;go_upto_region 5 with fail;refine au (fun W5 gx=>?_);have jI:=ae (show W5.heap[wr.heap.size]? =some (.cells #[.int .i64 p0,.int .i64 p1,.int .i64 p2,.int .i64 p3,.int .i64 p4,.int .i64 p5,.int .i64 p6,.int .i64 p7,.int .i64 p8] 106) by rw[gx];exact ai _ _ _ rfl);have hb5:Below wr.heap.size wr W5:=by rw[gx];exact(Below.refl _ _).alloc (Nat.le_refl _) _
   have fq:=ae (bm.out.trans (hb5.mono fT));have PY:=ae (uO.out.grow hb5);have PH:=Nat.lt_of_lt_of_le hmw hb5.size;clear gx hb5 a0 a1 a2 a3 a4 a5 a6 a7 a8 uO;obtain⟨g,hg⟩:∃g,g=wr.heap.size:=⟨_,rfl⟩;rw[<-hg] at jI⊢;clear hg;have b0:W5.cell? ⟨g,0,none⟩=some (.int .i64 p0):=(af (j:=0) jI.out).trans rfl;have b1:W5.cell? ⟨g,1,none⟩=some (.int .i64 p1):=(af (j:=1) jI.out).trans rfl;have b2:W5.cell? ⟨g,2,none⟩=some (.int .i64 p2):=(af (j:=2) jI.out).trans rfl;have b3:W5.cell? ⟨g,3,none⟩=some (.int .i64 p3):=(af (j:=3) jI.out).trans rfl;have b4:W5.cell? ⟨g,4,none⟩=some (.int .i64 p4):=(af (j:=4) jI.out).trans rfl;have b5:W5.cell? ⟨g,5,none⟩=some (.int .i64 p5):=(af (j:=5) jI.out).trans rfl;have b6:W5.cell? ⟨g,6,none⟩=some (.int .i64 p6):=(af (j:=6) jI.out).trans rfl;have b7:W5.cell? ⟨g,7,none⟩=some (.int .i64 p7):=(af (j:=7) jI.out).trans rfl;have b8:W5.cell? ⟨g,8,none⟩=some (.int .i64 p8):=(af (j:=8) jI.out).trans rfl;have hml:i<maxLen:=by unfold maxLen;omega
   go_wp2_with (at_mapUpdate;refine tm rfl (.tmp 31) (.tmp 33) (.tmp 34) 148 rfl tq Tryz.underlying148 rfl PY.out hml (.int .i64 p0) (.agg #[.int .i64 p0,.int .i64 p1,.int .i64 p2,.int .i64 p3,.int .i64 p4,.int .i64 p5,.int .i64 p6,.int .i64 p7,.int .i64 p8]) (.int .i64 p0) rfl rfl HKEY.out PW.out ?_;intro w8 xt rK);rw[wG.out] at xt;have zI:=rK.size;exact⟨⟨i+1,by omega,by go_num,xt,fq.out.grown rK fq.out.size (fun j hj=>by injection hj with hj;omega),by omega⟩,by simp[intOf];omega⟩
  ·obtain rfl:i=n:=by omega
   have d1:decide ((i:Int)<(i:Int))=false:=by simp
   have mQ:=ae (show ∃L:List Pt,L.Perm (aX P (R.take 0))/\dF Tryz.prog wr 3 w.heap.size i L.length (lM L) from⟨P.reverse,by rw[List.take_zero,yl];exact List.reverse_perm P,by
    have:=uO.out;rw[HN.out,List.take_length] at this;rw[List.length_reverse,HN.out]
    exact this⟩)
   clear uO;obtain⟨L0,hL0,hM0⟩:=mQ.out;have Kc:=ae hL0;have JX:=ae hM0;clear hL0 hM0 mQ;go_wp2_with fail
   go_loopw [38] (fun jv W=>∃(j:Nat) (L:List Pt),j<=q/\jv=.int .i64 (j:Int)/\cn P (R.take j)/\L.Perm (aX P (R.take j))/\dF Tryz.prog W 3 w.heap.size i L.length (lM L)/\Below w.heap.size w W/\w.heap.size<W.heap.size) (fun jv _=>q-(intOf jv).toNat)
   case atStart=>exact⟨0,L0,by omega,rfl,by rw[List.take_zero];exact cn.nil,Kc.out,JX.out,bm.out,hmw⟩
   clear Kc JX
   case round=>
    obtain⟨j,L,hj,rfl,hgo,hperm,hmap,hB,JQ⟩:=hrel;have Gp:=ae hgo;have FC:=ae hperm;have uO:=ae hmap;have dD:=ae hB;have Kq:=hB.size;clear hgo hperm hmap hB;by_cases hlt:j<q
    ·have d2:decide ((j:Int)<(q:Int))=true:=decide_eq_true (by omega);obtain⟨z,hz⟩:∃z,R[j]? =some z:=⟨_,List.getElem?_eq_getElem (by rw[<-HQ.out];exact hlt)⟩;obtain⟨b,off,rfl,hbw,hrows⟩:=pM.out.resolve_left (fun h=>by rw[h] at hz;simp at hz);have c0:wr.cell? ⟨b,off+j,none⟩=some (.int .i64 z):=by rw[dD.out.cell hbw];exact hrows j z hz
     have FF:=ae hz;have HKEY:=ae (keyOf_int_mk (P:=Tryz.prog) Tryz.underlying3 (HRW.out z (List.mem_of_getElem? hz)));clear hz hbw hrows;have hlook:=uO.out.look_ok tq Tryz.underlying148 (Al wr) HKEY.out
     cases hgz:lM L (.int .i64 z) with
     |none=>
      rw[hgz] at hlook;simp only[Option.getD_none,Option.isSome_none] at hlook
      have JP:=ae (cn.stop (P:=P) FF.out (fun⟨p,h1,h2⟩=>by
       have h3:(lM L (.int .i64 z)).isSome =true:=by rw[nz];exact decide_eq_true ⟨p,FC.out.mem_iff.2 h1,h2⟩
       rw[hgz] at h3
       exact absurd h3 (by simp)))
      have HR:=ae (aM.bad (A:=A) (el JP.out) (by decide));clear hgz;go_wp2_with fail;go_ret2;exact⟨⟨_,_,[],rfl,al.nil _ _ _ _,HR.out⟩,by have hB0:=dD.out;(repeat' (first| (with_reducible first|exact Below.refl _ _|assumption|refine Below.alloc ?_ ?_ _|refine Below.drew ?_ |refine below_drewN ?_ _|refine Below.setCell ?_ ?_ _|refine below_setRow ?_ ?_ _) |go_size))⟩
     |some v=>
      obtain⟨p,Iy,rfl,hpz⟩:=lP hgz;obtain rfl:z=p.id:=by injection hpz
      have HOLD:=ae (show(lM L (.int .i64 p.id)).isSome =true by rw[hgz];rfl);rw[hgz] at hlook;simp only[Option.getD_some,Option.isSome_some] at hlook;have ib:=ae (show ∃u∈aX P (R.take j),u.id=p.id from⟨p,FC.out.mem_iff.1 Iy,rfl⟩);have eC:=ae (Gp.out.next FF.out ib.out);have iQ:=ae (show(L.filter (fun u=> !(p.id == u.id))).Perm (aX P (R.take (j+1))) by rw[vh FF.out];exact FC.out.filter _);obtain⟨s,hs⟩:∃s,s=(L.filter (fun u=> !(p.id == u.id))).length :=⟨_,rfl⟩;have HS:=ae hs;have Fa:=ae (show dF Tryz.prog wr 3 w.heap.size i (s+1) (lM L) by rw[hs,tS (ny BM.out _ FC.out) ⟨p,Iy,rfl⟩];exact uO.out);have Pu:=ae (DN L p.id);clear hgz Iy hpz hs uO;obtain⟨p0,p1,p2,p3,p4,p5,p6,p7,p8⟩:=p;simp only[Pt.row] at hlook;go_upto_region 11 with fail;refine au (fun W7 o7=>?_);have gS:Below wr.heap.size wr W7:=by rw[o7];exact(Below.refl _ _).alloc (Nat.le_refl _) _
      have cU:=ae (dD.out.trans (gS.mono Kq));have Dr:=ae (Fa.out.grow gS);have M9:=Nat.lt_of_lt_of_le JQ gS.size;clear o7 gS hlook c0 Fa;go_wp2_with (at_delete;refine ru rfl (.tmp 50) (.tmp 51) 148 rfl tq Tryz.underlying148 rfl Dr.out (.int .i64 p0) (.int .i64 p0) rfl HKEY.out HOLD.out ?_;intro w8 xt rK);rw[Pu.out,HS.out] at xt;have zI:=rK.size;exact⟨⟨j+1,_,by omega,by go_num,eC.out,iQ.out,xt,cU.out.grown rK cU.out.size (fun j hj=>by injection hj with hj;omega),by omega⟩,by simp[intOf];omega⟩
    ·obtain rfl:j=q:=by omega
     have d2:decide ((j:Int)<(j:Int))=false:=by simp
     have Ie:=ae (show cn P R by have:=Gp.out;rwa[HQ.out,List.take_length] at this);have yR:=ae (show L.Perm (aX P R) by have:=FC.out;rwa[HQ.out,List.take_length] at this);obtain⟨W6,rfl⟩:∃W6,W6=wr:=⟨_,rfl⟩;clear Gp FC;go_wp2_with fail
     go_loopw [55] (fun kv W=>∃k:Nat,k<=m/\kv=.int .i64 (k:Int)/\(∀a∈A.take k,∀p∈aX P R,p.id≠a.id)/\Below W6.heap.size W6 W) (fun kv _=>m-(intOf kv).toNat)
     case atStart=>exact⟨0,by omega,rfl,fun a ha=>by simp at ha,Below.refl _ _⟩
     case round=>
      obtain⟨k,hk,rfl,hth,hB⟩:=hrel;have Ip:=ae hth;have gi:=ae hB;have hzk:=hB.size;have ij:=ae (dD.out.trans (hB.mono Kq));clear hth hB;by_cases hlk:k<m
      ·have d3:decide ((k:Int)<(m:Int))=true:=decide_eq_true (by omega);obtain⟨p,hp⟩:∃p,A[k]? =some p:=⟨_,List.getElem?_eq_getElem (by rw[<-HM.out];exact hlk)⟩;obtain⟨b,off,rfl,hbw,hrows⟩:=HAD.out.resolve_left (fun h=>by rw[h] at hp;simp at hp);have hcs:∀y,y<9->wr.cell? ⟨b,off+k*9+y,none⟩=some (.int .i64 (p.f y)):=fun y hy=>by
        rw[ij.out.cell hbw,hrows k p.row (by rw[List.getElem?_map,hp];rfl) y hy,Pt.row_at p y hy]
       have pu:=ae hp;have Ek:=ae (JM.out p (List.mem_of_getElem? hp)).1;clear hp hrows hbw;obtain⟨p0,p1,p2,p3,p4,p5,p6,p7,p8⟩:=p;have HKEY:=ae (keyOf_int_mk (P:=Tryz.prog) Tryz.underlying3 (show(Lit.int .i64 p0).wf =true from WalkArith.wf_i64 (by have:=Ek.out;simp only at this;omega)));have a0:wr.cell? ⟨b,off+k*9,none⟩=some (.int .i64 p0):=hcs 0 (by decide);have a1:wr.cell? ⟨b,off+k*9+1,none⟩=some (.int .i64 p1):=hcs 1 (by decide);have a2:wr.cell? ⟨b,off+k*9+2,none⟩=some (.int .i64 p2):=hcs 2 (by decide);have a3:wr.cell? ⟨b,off+k*9+3,none⟩=some (.int .i64 p3):=hcs 3 (by decide);have a4:wr.cell? ⟨b,off+k*9+4,none⟩=some (.int .i64 p4):=hcs 4 (by decide);have a5:wr.cell? ⟨b,off+k*9+5,none⟩=some (.int .i64 p5):=hcs 5 (by decide);have a6:wr.cell? ⟨b,off+k*9+6,none⟩=some (.int .i64 p6):=hcs 6 (by decide);have a7:wr.cell? ⟨b,off+k*9+7,none⟩=some (.int .i64 p7):=hcs 7 (by decide);have a8:wr.cell? ⟨b,off+k*9+8,none⟩=some (.int .i64 p8):=hcs 8 (by decide);clear hcs;go_upto_region 18 with fail;refine au (fun W7 o7=>?_);have mm:=ae (show W7.heap[wr.heap.size]? =some (.cells #[.int .i64 p0,.int .i64 p1,.int .i64 p2,.int .i64 p3,.int .i64 p4,.int .i64 p5,.int .i64 p6,.int .i64 p7,.int .i64 p8] 106) by rw[o7];exact ai _ _ _ rfl);have gS:Below wr.heap.size wr W7:=by rw[o7];exact(Below.refl _ _).alloc (Nat.le_refl _) _
       have cU:=ae (gi.out.trans (gS.mono hzk));clear o7 gS a0 a1 a2 a3 a4 a5 a6 a7 a8;obtain⟨g,hg⟩:∃g,g=wr.heap.size:=⟨_,rfl⟩;rw[<-hg] at mm⊢;clear hg;have c0:W7.cell? ⟨g,0,none⟩=some (.int .i64 p0):=(af (j:=0) mm.out).trans rfl;have hlook:=(uO.out.grow cU.out).look_ok tq Tryz.underlying148 (Al W7) HKEY.out
       cases hgz:lM L (.int .i64 p0) with
       |none=>
        rw[hgz] at hlook;simp only[Option.getD_none,Option.isSome_none] at hlook
        have rB:=ae (show ∀a∈A.take (k+1),∀u∈aX P R,u.id≠a.id by
         rw[aH pu.out];intro a ha u hu
         rcases List.mem_append.1 ha with g1|g1
         ·exact Ip.out a g1 u hu
         ·obtain rfl:=List.mem_singleton.1 g1;intro e;have h3:(lM L (.int .i64 p0)).isSome =true:=by rw[nz];exact decide_eq_true ⟨u,yR.out.mem_iff.2 hu,e⟩
          rw[hgz] at h3
          exact absurd h3 (by simp))
        clear hgz;go_wp2_with fail;exact⟨⟨k+1,by omega,by go_num,rB.out,cU.out.alloc cU.out.size _⟩,by simp[intOf];omega⟩
       |some v=>
        obtain⟨u,OR,rfl,hpz⟩:=lP hgz;rw[hgz] at hlook;simp only[Option.getD_some,Option.isSome_some] at hlook
        have Hr:=ae (show ¬dH P A R from fun h=>by
         injection hpz with _ hpz
         exact h _ (List.mem_of_getElem? pu.out) u (yR.out.mem_iff.1 OR) hpz.symm)
        have HR:=ae (aM.bad (fV Ie.out Hr.out) (by decide));clear hgz OR hpz;obtain⟨u0,u1,u2,u3,u4,u5,u6,u7,u8⟩:=u;simp only[Pt.row] at hlook;go_wp2_with fail;go_ret2;exact⟨⟨_,_,rfl,[],al.nil _ _ _ _,HR.out⟩,dD.out.trans ((cU.out.alloc cU.out.size _).mono Kq)⟩
      ·obtain rfl:k=m:=by omega
       have d3:decide ((k:Int)<(k:Int))=false:=by simp
       have o9:=ae (show dH P A R by have:=Ip.out;rwa[HM.out,List.take_length] at this);have J9:=ae (uO.out.grow gi.out);have QY:=ae (qZ.out.still ij.out);obtain⟨s,hs⟩:∃s,s=L.length:=⟨_,rfl⟩;rw[<-hs] at J9;have zX:=ae hs;have QO:s<=1024:=by
        rw[hs,yR.out.length_eq];refine Nat.le_trans (List.length_filter_le _ _) ?_;rw[<-HN.out];exact JZ
       have hmwk:w.heap.size<wr.heap.size:=Nat.lt_of_lt_of_le JQ hzk;clear uO Ip hs;by_cases hmany:s+k<=1024
       ·have d4:decide ((1024:Int)<(s:Int)+(k:Int))=false:=decide_eq_false (by omega);have hmn:¬ 1024<s+k:=by omega
        have K1:=ae (me Ie.out o9.out (by rw[<-yR.out.length_eq,<-zX.out,<-HM.out];exact hmany));have EU:=ij.out.size;go_wp2_with (at_len;refine my rfl (.tmp 68) 148 rfl Tryz.underlying148 rfl J9.out ?_);refine(rz _ A wr QY.out (by have:=zK.out;omega)).mono ?_;rintro r w7 ⟨⟨cv,rfl,hown⟩,gS⟩;have lw:=ae (show aq w7 w.heap.size cv A from al.mono hown EU);have cU:=ae (ij.out.trans (gS.mono EU));have Dr:=ae (J9.out.grow gS);have M9:w.heap.size<w7.heap.size:=Nat.lt_of_lt_of_le hmwk gS.size;clear hown gS J9
        go_wp2_with (refine gK rfl (.tmp 76) 148 rfl tq Tryz.underlying148 rfl Dr.out.at ?_
                     intro W9 cnt FT kF Bc;have Db:=ae FT;have qM:=ae kF
                     clear FT kF Bc)
        have OW:=ae (show Gc w w.heap.size w7.heap.size i L A cv W9 from⟨_,cnt,[],_,rfl,Db.out,fun kl h=>h,by rw[List.append_nil];exact al.turned lw.out (aN qM.out) (fun b _ e=>by cases e),fun p=>by
         constructor
         ·intro h;simp at h
         ·rintro⟨h1,h2⟩;rw[nz] at h2
          exact absurd ⟨p,h1,rfl⟩ (of_decide_eq_false h2),List.Pairwise.nil,⟨Nat.le_refl _,by omega⟩,(cU.out.grown qM.out (by omega) (fun b e=>by cases e))⟩)
        go_frame
        go_loopw [19] (fun ov W=>Gc w w.heap.size w7.heap.size i L A ov W) (fun _ W=>W.rangeLeft w.heap.size w7.heap.size)
        case atStart=>exact OW.out
        clear OW Db qM
        case round=>
         obtain⟨left,cnt2,X,ov,rfl,hra⟩:=hrel;have gg:=ae hra;have hzr:=hra.below.size;clear hra
         go_upto_region 28 with(refine fE rfl (.tmp 77) rfl tq rfl gg.out.rng gg.out.has ?_ ?_
                                intro hd;have HD:=ae hd;clear hd
                                rotate_left
                                intro key vv KF W10 cnt3 hk2 hl2 hg2 rf hlt k8 mw hen;obtain⟨p,Iy,rfl,rfl⟩:=lP hg2;have JL:=ae Iy;have LN:=ae hl2;have BB:=ae rf;have lm:=ae hlt;have mc:=ae k8;have yq:=ae (show ∃p',p'=p from⟨p,rfl⟩);obtain⟨p0,p1,p2,p3,p4,p5,p6,p7,p8⟩:=p;simp only[Pt.row] at hen;clear Iy hl2 hg2 rf hlt k8 mw hk2
                                rotate_right)
         ·have IU:=ae (AY gg.out.ids (ny BM.out R yR.out) (fun p=>by
           rw[gg.out.mem]
           exact⟨fun h=>h.1,fun h=>⟨h,HD.out _⟩⟩))
          have By:=ae (show(A++X).Perm (A++aX P R) from(IU.out.trans yR.out).append_left A);have Jw:=ae (kC By.out.symm (kr BM.out KQ.out K1.out));refine(jS ov (A++X) w.heap.size wr gg.out.own (by have:=(aW Jw.out).2.2;omega) (fun p hp=>((aW Jw.out).2.1 p hp).1)).mono ?_;rintro r w11 ⟨rfl,L',hperm,hasc,hown,zx⟩;have BL:=ae (show aq w11 w.heap.size ov L' from hown);have pp:=ae (show Below w.heap.size w w11 from gg.out.below.grown zx hzr (fun b hb=>al.ownBlock gg.out.own b hb));have HR:=ae (aM.ok K1.out (hperm.trans By.out) hasc);clear hperm hasc hown zx;go_wp2_with fail;go_ret2;exact⟨⟨_,_,L',rfl,BL.out,HR.out⟩,pp.out⟩
         ·refine au (fun W11 Gw=>?_);have mM:=ae (show W11.heap[W10.heap.size]? =some (.cells #[.int .i64 p0,.int .i64 p1,.int .i64 p2,.int .i64 p3,.int .i64 p4,.int .i64 p5,.int .i64 p6,.int .i64 p7,.int .i64 p8] 106) by rw[Gw];exact ai _ _ _ rfl);have lE:Below W10.heap.size W10 W11:=by rw[Gw];exact(Below.refl _ _).alloc (Nat.le_refl _) _
          have LZ:=ae (show aq W10 w.heap.size ov (A++X) from al.turned gg.out.own (aN mc.out) (fun b hb e=>fS gg.out.own gg.out.rng hb (by injection e)));have dK:=ae (al.grow' LZ.out lE);have Gf:=ae (BB.out.grow lE);have I3:=mc.out.size;have IH:=ae (gg.out.below.grown mc.out hzr (fun b hb=>by injection hb with hb;have:=gg.out.base.2;omega));have pp:=ae (IH.out.trans (lE.mono IH.out.size));clear Gw lE;obtain⟨g,hg⟩:∃g,g=W10.heap.size:=⟨_,rfl⟩;rw[<-hg] at mM⊢;clear hg hen;have b0:W11.cell? ⟨g,0,none⟩=some (.int .i64 p0):=(af (j:=0) mM.out).trans rfl;have b1:W11.cell? ⟨g,1,none⟩=some (.int .i64 p1):=(af (j:=1) mM.out).trans rfl;have b2:W11.cell? ⟨g,2,none⟩=some (.int .i64 p2):=(af (j:=2) mM.out).trans rfl;have b3:W11.cell? ⟨g,3,none⟩=some (.int .i64 p3):=(af (j:=3) mM.out).trans rfl;have b4:W11.cell? ⟨g,4,none⟩=some (.int .i64 p4):=(af (j:=4) mM.out).trans rfl;have b5:W11.cell? ⟨g,5,none⟩=some (.int .i64 p5):=(af (j:=5) mM.out).trans rfl;have b6:W11.cell? ⟨g,6,none⟩=some (.int .i64 p6):=(af (j:=6) mM.out).trans rfl;have b7:W11.cell? ⟨g,7,none⟩=some (.int .i64 p7):=(af (j:=7) mM.out).trans rfl;have b8:W11.cell? ⟨g,8,none⟩=some (.int .i64 p8):=(af (j:=8) mM.out).trans rfl;have kP:=ae (aB.one (ai W11 _ _ rfl):aB (W11.alloc (.cells #[.int .i64 p0,.int .i64 p1,.int .i64 p2,.int .i64 p3,.int .i64 p4,.int .i64 p5,.int .i64 p6,.int .i64 p7,.int .i64 p8] 106)) W11.heap.size 0 9 [[.int .i64 p0,.int .i64 p1,.int .i64 p2,.int .i64 p3,.int .i64 p4,.int .i64 p5,.int .i64 p6,.int .i64 p7,.int .i64 p8]]);have eK:=ae (al.grow' dK.out ((Below.refl _ _).alloc (Nat.le_refl _) _):al (W11.alloc (.cells #[.int .i64 p0,.int .i64 p1,.int .i64 p2,.int .i64 p3,.int .i64 p4,.int .i64 p5,.int .i64 p6,.int .i64 p7,.int .i64 p8] 106)) w.heap.size 106 9 ov ((A++X).map Pt.row));have C3:=ae (Gf.out.grow ((Below.refl _ _).alloc (Nat.le_refl _) (.cells #[.int .i64 p0,.int .i64 p1,.int .i64 p2,.int .i64 p3,.int .i64 p4,.int .i64 p5,.int .i64 p6,.int .i64 p7,.int .i64 p8] 106)));have bR:=ae (pp.out.alloc pp.out.size _:Below w.heap.size w (W11.alloc (.cells #[.int .i64 p0,.int .i64 p1,.int .i64 p2,.int .i64 p3,.int .i64 p4,.int .i64 p5,.int .i64 p6,.int .i64 p7,.int .i64 p8] 106)))
          have KM:=ae (show(A++X).length <=2048 by
           rw[List.length_append,<-HM.out];have h1:=gg.out.len;rw[<-zX.out] at h1
           omega)
          have ez:=ae (show((A++X).map Pt.row).length +1<=maxLen by rw[List.length_map];have:=KM.out;unfold maxLen;omega);have HL2:=ae (show(((A++X).map Pt.row).length +1)*72<=140737488355328 by rw[List.length_map];have:=KM.out;omega);clear dK
          go_wp2_with (first
           | (at_builtin
              refine ar rfl (.tmp 82) (.tmp 84) 35 rfl w.heap.size 106 i0 _ 9 72 Tryz.underlying35 HI.out HZ0.out HZ1.out HZ2.out rfl (by decide) _ ((A++X).map Pt.row) [[.int .i64 p0,.int .i64 p1,.int .i64 p2,.int .i64 p3,.int .i64 p4,.int .i64 p5,.int .i64 p6,.int .i64 p7,.int .i64 p8]] rfl eK.out W11.heap.size 0 1 1 rfl rfl kP.out (G3 _ _ _ _ _ _ _ _ _) ez.out HL2.out bR.out.size ?_;intro v6 W6 aV da z6;clear z6;have fD:=ae (show aq W6 w.heap.size v6 (A++(X++[⟨p0,p1,p2,p3,p4,p5,p6,p7,p8⟩])) by unfold aq;rw[<-List.append_assoc,List.map_append];exact aV);have Ny:=ae (show Below w.heap.size w W6 from bR.out.grown da bR.out.size (fun k hk=>al.ownBlock eK.out k hk));have N4:=ae (cu.kept C3.out da (fun e=>oE eK.out C3.out e.symm rfl) (fun e=>fS eK.out C3.out e.symm rfl))
              clear aV da))
          have Q6:=ae (show DS w w.heap.size w7.heap.size i L A v6 W6 (fun z=>left z && !z.sameKey (.int .i64 p0)) cnt3 (X++[⟨p0,p1,p2,p3,p4,p5,p6,p7,p8⟩]) from {
           rng:=N4.out
           has:=fun kl h=>gg.out.has kl (by rw[Bool.and_eq_true] at h;exact h.1)
           own:=fD.out
           mem:=fun u=>by
            rw[List.mem_append,gg.out.mem,List.mem_singleton,kS,Bool.and_eq_false_iff,Bool.not_eq_false',beq_iff_eq];constructor
            ·rintro (⟨h1,h2⟩ |rfl)
             ·exact⟨h1,Or.inl h2⟩
             ·exact⟨JL.out,Or.inr rfl⟩
            ·rintro⟨h1,h2|h2⟩
             ·exact Or.inl ⟨h1,h2⟩
             ·refine Or.inr ?_;obtain⟨x,hx,rfl⟩:=List.mem_iff_getElem.1 h1;obtain⟨y,hy,ey⟩:=List.mem_iff_getElem.1 JL.out;have hpw:=List.pairwise_iff_getElem.1 (ny BM.out R yR.out);have Jf:L[x].id =L[y].id :=by rw[ey];exact h2
              rcases Nat.lt_trichotomy x y with h|h|h
              ·exact absurd Jf (hpw x y hx hy h)
              ·subst h;exact ey
              ·exact absurd Jf.symm (hpw y x hy hx h)
           ids:=by
            rw[List.pairwise_append];refine⟨gg.out.ids,List.pairwise_singleton _ _,fun x hx y hy e=>?_⟩;obtain rfl:=List.mem_singleton.1 hy;have h1:=((gg.out.mem x).1 hx).2;rw[e,LN.out] at h1;exact absurd h1 (by simp)
           base:=gg.out.base
           below:=Ny.out})
          refine⟨⟨_,cnt3,_,_,rfl,Q6.out⟩,?_⟩;rw[N4.out.left_eq,gg.out.rng.left_eq];exact lm.out
       ·have d4:decide ((1024:Int)<(s:Int)+(k:Int))=true:=decide_eq_true (by omega);have hmn:1024<s+k:=by omega
        have HR:=ae (aM.bad (gJ Ie.out o9.out (by rw[<-yR.out.length_eq,<-zX.out,<-HM.out];exact hmany)) (by decide));go_wp2_with (at_len;refine my rfl (.tmp 68) 148 rfl Tryz.underlying148 rfl J9.out ?_);go_ret2;exact⟨⟨_,_,[],rfl,al.nil _ _ _ _,HR.out⟩,ij.out⟩
end Go.Proofs.YtcclpdfmmdonpaaGreat
