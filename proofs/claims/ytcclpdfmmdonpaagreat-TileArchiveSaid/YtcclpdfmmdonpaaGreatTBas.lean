/- Texts of the seat Yteanlcefdoigcaa, turned to this one by wip/port.py: Base. -/
import Derived.Test.YtcclpdfmmdonpaaGreatRows
import Derived.WalkKit
import Derived.ProofKit
import Derived.Handy
import Derived.WalkSpells
import Derived.Deep.QuietTactic
import Derived.BigQuiet
import Derived.BigRegion
import Derived.Laws.CopyOwn
import Derived.Lib.SmallJoins
import Derived.Orders
import Derived.Laws.Tables
import Derived.Deep.MidRow
namespace Go.Proofs.YtcclpdfmmdonpaaGreat
open Go.RowKit
theorem ae {p:Prop} (h:p):RowKit.Hid p:=h
theorem ai (w:World) (o:Obj) (n:Nat) (h:n=w.heap.size):(w.alloc o).heap[n]? =some o:=by
 subst h;show(w.heap.push o)[_]? =_;simp
theorem am (w:World) (o:Obj) (n:Nat) (x:Obj) (h:w.heap[n]? =some x):(w.alloc o).heap[n]? =some x:=by
 show(w.heap.push o)[_]? =_;rw[Array.getElem?_push];have:n<w.heap.size:=(Array.getElem?_eq_some_iff.1 h).1;rw[if_neg (by omega)];exact h
theorem iA {B:Nat} {w w':World} {n:Nat} {x:Obj} (hb:Below B w w') (hn:n<B) (h:w.heap[n]? =some x):w'.heap[n]? =some x:=by
 rw[hb.block n hn];exact h
theorem nx (W:World) (n:Nat) (t:TypeId) (fr:Nat×Nat) (old cells:Array Value) (hn:n=W.heap.size):(W.alloc (.cells old t fr)).setRow n cells=W.alloc (.cells cells t fr):=by
 subst hn
 cases W with
 |mk heap tape drawn os output=>
  show World.mk ((heap.push (.cells old t fr)).modify heap.size _) tape drawn os output=World.mk (heap.push (.cells cells t fr)) tape drawn os output;congr 1;apply Array.ext
  ·simp
  ·intro i h1 h2;simp only[Array.getElem_modify,Array.getElem_push];by_cases h:i=heap.size
   ·subst h;simp
   ·have:i<heap.size:=by simp at h2;omega
    simp[this];intro h';omega
theorem au {P:Program} {c:Code} {Q:Exit->Act->World->Prop} {a:Act} {w:World} (h:∀W,W=w->c.wp P Q a W):c.wp P Q a w:=h w rfl
theorem aC {P:Program} {ops:Array Oper} {rest:List Oper} {o:Oper} {a:Act} {w:World} {Q:Exit->Act->World->Prop} (hgd:o.guard=none) (ty:TypeId) (x y:Operand) (ho:o.op=.store ty x y)
 {g:Nat} {cells old:Array Value} {t:TypeId} (hx:a.eval x=.pointer (some ⟨g,0,none⟩)) (hy:a.eval y=.agg cells)
 (hg:w.heap[g]? =some (.cells old t (0,0))) {n:Nat} (hi:(P.info? ty).map (·.size)=some n) (hs:cells.size=n)
 (hold:old.size=n) (h1:cells.toList.all (·.oneCell')=true)
 (h:wpList P ops Q rest (a.put o.dst undef) (w.setRow g cells)):wpList P ops Q (o::rest) a w:=
 wpList_store_row hgd ty x y ho g cells hx hy t old hg (by rw[hs];exact hi) (by rw[hs];exact hold) (by rw[<-Array.all_toList];exact h1) h
section
variable {P:Program} {fn:Func} {p u v:Tmp} {ty:TypeId} {tmps:Array Value} {w:World} {g:Nat} {t:TypeId} {cs:Array Value} {fr:Nat×Nat} {d:TypeDesc} {n:Nat}
theorem cV (h:fn.results= #[.cell p ty]) (hp:tmps.getD p undef=.pointer (some ⟨g,0,none⟩)) (hg:w.heap[g]? =some (.cells cs t fr))
 (hu:P.underlying ty=some d) (hd:(match d with| .struct _| .array _ _=>true|_=>false)=true) (hi:(P.info? ty).map (·.size)=some n) (hs:cs.size=n):
 (results fn tmps).run P w=.ok (.agg cs) w:=results_cell_row h tmps w g t cs fr d hp hg hu hd (by rw[hs];exact hi)
theorem gu (h:fn.results= #[.cell p ty,.tmp u]) (hp:tmps.getD p undef=.pointer (some ⟨g,0,none⟩)) (hg:w.heap[g]? =some (.cells cs t fr))
 (hu:P.underlying ty=some d) (hd:(match d with| .struct _| .array _ _=>true|_=>false)=true) (hi:(P.info? ty).map (·.size)=some n) (hs:cs.size=n):
 (results fn tmps).run P w=.ok (.tuple #[.agg cs,tmps.getD u undef]) w:=by
 have hp':tmps[p]?.getD undef=.pointer (some ⟨g,0,none⟩):=by simpa using hp
 simp[results,h,hp',asAddr,run_loadVar_row w g t ty cs fr d hg hu hd (by rw[hs];exact hi)]
theorem si (h:fn.results= #[.cell p ty,.tmp u,.tmp v]) (hp:tmps.getD p undef=.pointer (some ⟨g,0,none⟩)) (hg:w.heap[g]? =some (.cells cs t fr))
 (hu:P.underlying ty=some d) (hd:(match d with| .struct _| .array _ _=>true|_=>false)=true) (hi:(P.info? ty).map (·.size)=some n) (hs:cs.size=n):
 (results fn tmps).run P w=.ok (.tuple #[.agg cs,tmps.getD u undef,tmps.getD v undef]) w:=by
 have hp':tmps[p]?.getD undef=.pointer (some ⟨g,0,none⟩):=by simpa using hp
 simp[results,h,hp',asAddr,run_loadVar_row w g t ty cs fr d hg hu hd (by rw[hs];exact hi)]
end
theorem aj {w w':World} {n:Nat} {x:Obj} (hb:Below w.heap.size w w') (h:w.heap[n]? =some x):w'.heap[n]? =some x:=
 iA hb (Array.getElem?_eq_some_iff.1 h).1 h
theorem bf {P:Program} {c:Code} {Q:Exit->Act->World->Prop} {a:Act} {w:World} (h:∀A,A=a->c.wp P Q A w):c.wp P Q a w:=h a rfl
open Go.RowKit
def fw (P:Program) (ops:Array Oper) (Q:Exit->Act->World->Prop) (S J:(Nat->Bool)->Act->World->Prop):Nat->List Oper->Prop
 |_,[]=>True
 |k,o::rest=>(∀L:Nat->Bool,L k=false->(o.after.all fun e=> !Region.binds .any e || L e.on)=true->∀a w,S L a w->
  wpList P ops (Exit.then (J fun j=>j == k || L j) Q) [o] a w)/\fw P ops Q S J (k+1) rest
def cI:Nat->List Oper->Bool
 |_,[]=>true
 |k,o::rest=>(o.after.all fun e=> !Region.binds .any e || decide (e.on<k)) && cI (k+1) rest
section
variable {P:Program} {Q:Exit->Act->World->Prop} {J:(Nat->Bool)->Act->World->Prop}
theorem fw.at {ops:Array Oper} :∀{l:List Oper} {k:Nat},fw P ops Q J J k l->∀{i:Nat} {o:Oper},l[i]? =some o->∀L:Nat->Bool,L (k+i)=false->
 (o.after.all fun e=> !Region.binds .any e || L e.on)=true->∀a w,J L a w->wpList P ops (Exit.then (J fun j=>j == k+i || L j) Q) [o] a w
 | [],_,_,i,o,h=>by simp at h
 |x::l,k,hs,0,o,h=>by
  simp at h;subst h;exact hs.1
 |x::l,k,hs,i+1,o,h=>by
  have:=fw.at hs.2 (i:=i) (o:=o) (by simpa using h);rwa[show k+1+i=k+(i+1) from by omega] at this
theorem cI.at:∀{l:List Oper} {k:Nat},cI k l=true->∀{i:Nat} {o:Oper},l[i]? =some o->(o.after.all fun e=> !Region.binds .any e || decide (e.on<k+i))=true
 | [],_,_,i,o,h=>by simp at h
 |x::l,k,hb,0,o,h=>by
  simp at h;subst h;simp only[cI,Bool.and_eq_true] at hb;exact hb.1
 |x::l,k,hb,i+1,o,h=>by
  simp only[cI,Bool.and_eq_true] at hb;have:=cI.at hb.2 (i:=i) (o:=o) (by simpa using h);rwa[show k+1+i=k+(i+1) from by omega] at this
theorem Oper.wp_then {o:Oper} {a:Act} {w:World} {N:Act->World->Prop} {K:Act->World->Prop} (h:o.wp P a w N (Exit.then K Q)):o.wp P a w N Q:=by
 unfold Oper.wp at*;generalize (execOp a.eval o).run P w=r at*
 cases r with
 |ok n w'=>cases n<;>exact h
 |halt x w'=>cases x<;>exact h
theorem qF {l:List Oper} {i:Nat} {o:Oper} {K:Act->World->Prop} {a:Act} {w:World} (ho:l.toArray[i]? =some o)
 (h:wpList P l.toArray (Exit.then K Q) [o] a w):wpOp P l.toArray Q i K a w:=by
 unfold wpOp;rw[ho];simp only[wpList] at h⊢
 split
 ·rename_i hw
  rw[if_pos hw] at h
  rcases h with h| ⟨h1,h2⟩
  ·exact .inl (Oper.wp_then h)
  ·obtain⟨a',w',hq⟩:=h2;exact .inr ⟨h1,a',w',hq⟩
 ·rename_i hw
  rw[if_neg hw] at h;exact h
def li (listed:Array Bool):Nat:=listed.toList.countP (!·)
theorem yk {l:List Oper} (hs:fw P l.toArray Q J J 0 l) (hb:cI 0 l=true)
 (hJ:∀L L':Nat->Bool,(∀j,j<l.length->L j=L' j)->∀a w,J L a w->J L' a w)
 (hend:∀a w,J (fun _=>true) a w->Q .normal a w):∀(fuel:Nat) (listed:Array Bool) (a:Act) (w:World),listed.size=l.length->li listed<=fuel->J (fun j=>listed.getD j false) a w->
 wpAny P .any l.toArray Q fuel listed a w:=by
 have hready:∀(listed:Array Bool),listed.size=l.length->Region.ready .any l.toArray listed=[]->∀j,j<l.length->listed.getD j false=true:=by
  intro listed hsz hr j
  induction j using Nat.strongRecOn with
  |_ j ih=>
   intro hj
   cases hc:listed.getD j false with
   |true=>rfl
   |false=>
    exfalso;have hmem:j∈Region.ready .any l.toArray listed:=by
     unfold Region.ready;rw[List.mem_filter];refine⟨by simpa using hj,?_⟩;have hlj:l.toArray[j]? =some l[j]:=by simp[hj]
     have hgt:listed.getD j true=false:=by
      rw[Array.getD_eq_getD_getElem?] at hc⊢;rw[Array.getElem?_eq_getElem (by omega)] at hc⊢;exact hc
     rw[hgt,hlj];simp only[Bool.not_false,Bool.true_and,Option.map_some,Option.getD_some];have hbj:=cI.at hb (i:=j) (o:=l[j]) (by simp[hj]);rw[Array.all_eq_true'] at hbj⊢;intro e he;have:=hbj e he;simp only[Bool.or_eq_true,Bool.not_eq_true',decide_eq_true_eq] at this⊢
     rcases this with h1|h1
     ·exact .inl h1
     ·exact .inr (ih e.on (by omega) (by omega))
    rw[hr] at hmem;simp at hmem
 have hall:∀(listed:Array Bool) (a:Act) (w:World),listed.size=l.length->Region.ready .any l.toArray listed=[]->J (fun j=>listed.getD j false) a w->Q .normal a w:=
  fun listed a w hsz hr hj=>hend a w (hJ _ _ (fun j h=>hready listed hsz hr j h) a w hj)
 intro fuel
 induction fuel with
 |zero=>
  intro listed a w hsz hu hj;have hr:Region.ready .any l.toArray listed=[]:=by
   unfold Region.ready;rw[List.filter_eq_nil_iff];intro i hi;have hil:i<l.length:=by simpa using hi
   have hcount:listed.toList.countP (!·)=0:=by unfold li at hu;omega
   rw[List.countP_eq_zero] at hcount;have:=hcount listed[i] (by simp);rw[Array.getD_eq_getD_getElem?,Array.getElem?_eq_getElem (by omega)];simp at this;simp[this]
  exact⟨hr,hall listed a w hsz hr hj⟩
 |succ fuel ih=>
  intro listed a w hsz hu hj;refine⟨fun hr=>hall listed a w hsz hr hj,?_⟩;intro i hi;unfold Region.ready at hi;rw[List.mem_filter] at hi;obtain⟨hi1,hi2⟩:=hi;have hil:i<l.length:=by simpa using hi1
  have hli:l.toArray[i]? =some l[i]:=by simp[hil]
  rw[hli] at hi2;simp only[Bool.and_eq_true,Option.map_some,Option.getD_some,Bool.not_eq_true'] at hi2;obtain⟨hn,hd⟩:=hi2;have hget:listed[i]'(by omega)=false:=by
   rw[Array.getD_eq_getD_getElem?,Array.getElem?_eq_getElem (by omega)] at hn;exact hn
  have KU:(fun j=>listed.getD j false) (0+i)=false:=by
   simp only[Nat.zero_add];rw[Array.getD_eq_getD_getElem?,Array.getElem?_eq_getElem (by omega)];exact hget
  have hstep:=fw.at hs (i:=i) (o:=l[i]) (by simp[hil]) (fun j=>listed.getD j false) KU hd a w hj;refine wpOp_mono ?_ (qF hli hstep);intro a' w' PM;refine ih _ _ _ (by simpa using hsz) ?_ (hJ _ _ ?_ _ _ PM)
  ·unfold li at hu⊢;rw[Array.toList_setIfInBounds];have hlen:i<listed.toList.length:=by simpa using(by omega:i<listed.size)
   have:=List.countP_set (p:=(!·)) (l:=listed.toList) (i:=i) (a:=true) hlen;have hgi:listed.toList[i]=false:=by simpa using hget
   have hpos:0<listed.toList.countP (!·):=by
    rw[List.countP_pos_iff];exact⟨listed.toList[i],List.getElem_mem hlen,by rw[hgi];rfl⟩
   have e1:(if(!listed.toList[i])=true then 1 else 0)=1:=by rw[hgi];rfl
   have e2:(if(!true)=true then 1 else 0)=0:=rfl;rw[e1,e2] at this;rw[this];omega
  ·intro j hjl;simp only[Nat.zero_add];have hlt:j<listed.size:=by omega
   by_cases hji:j=i
   ·subst hji;simp[hlt]
   ·simp[hlt,hji,Ne.symm hji]
theorem pk {id:Nat} {l:List Oper} {a:Act} {w:World} (hm:P.follows .mixedOrders =true) (hb:cI 0 l=true) (J:(Nat->Bool)->Act->World->Prop)
 (h0:J (fun _=>false) a w.drew) (hJ:∀L L':Nat->Bool,(∀j,j<l.length->L j=L' j)->∀a w,J L a w->J L' a w)
 (hs:∀K:(Nat->Bool)->Act->World->Prop,(∀L a w,J L a w->K L a w)->fw P l.toArray Q J K 0 l) (hend:∀a w,J (fun _=>true) a w->Q .normal a w):(Code.region id l.toArray true).wp P Q a w:=by
 have hs:=hs J (fun _ _ _ h=>h);refine wp_region_any hm (yk hs hb hJ hend _ _ _ _ (by simp) ?_ (hJ _ _ ?_ _ _ h0))
 ·unfold li;simp only[Array.toList_replicate,List.size_toArray];exact Nat.le_trans (List.countP_le_length) (by simp)
 ·intro j hj;rw[Array.getD_eq_getD_getElem?,Array.getElem?_replicate];simp[hj]
end
open Go.RowKit
def ah (A:Act):List (Option Nat)->(Nat->Value)->Act
 | [],_=>A
 |d::ds,us=>ah (A.put d (us 0)) ds (fun j=>us (j+1))
def ct (us:Nat->Value) (k:Nat) (v:Value):Nat->Value:=fun j=>if j=k then v else us j
theorem Cs (A:Act) {d e:Nat} (h:d≠e) (v u:Value):(A.put (some d) v).put (some e) u=(A.put (some e) u).put (some d) v:=by
 simp only[Act.put,Act.mk.injEq,and_true];exact Array.setIfInBounds_comm v u h
theorem xS (A:Act) (d:Nat) (v u:Value):(A.put (some d) v).put (some d) u=A.put (some d) u:=by
 simp[Act.put]
theorem nV:∀(ds:List (Option Nat)) (A:Act) (us:Nat->Value) (d:Nat) (v:Value),some d∉ds->(ah A ds us).put (some d) v=ah (A.put (some d) v) ds us
 | [],A,us,d,v,_=>rfl
 |none::ds,A,us,d,v,h=>by
  simp only[List.mem_cons,not_or] at h;exact nV ds A _ d v h.2
 |some e::ds,A,us,d,v,h=>by
  simp only[List.mem_cons,not_or] at h;show(ah (A.put (some e) (us 0)) ds _).put (some d) v=ah ((A.put (some d) v).put (some e) (us 0)) ds _;rw[nV ds _ _ d v h.2,Cs A (fun hh=>h.1 (by rw[hh]))]
theorem eQ:∀(ds:List (Option Nat)) (A:Act) (us:Nat->Value) (k:Nat) (v:Value),(ds.filterMap id).Nodup ->k<ds.length->(ah A ds us).put (ds.getD k none) v=ah A ds (ct us k v)
 | [],_,_,_,_,_,h=>by simp at h
 |none::ds,A,us,0,v,hd,_=>by
  show ah A ds _=ah A ds _;congr 1
 |some e::ds,A,us,0,v,hd,_=>by
  simp only[List.filterMap_cons,id,List.nodup_cons,List.mem_filterMap] at hd;show(ah (A.put (some e) (us 0)) ds _).put (some e) v=ah (A.put (some e) v) ds _;rw[nV ds _ _ e v (fun h=>hd.1 ⟨_,h,rfl⟩),xS];congr 1
 |d::ds,A,us,k+1,v,hd,hk=>by
  have hd':(ds.filterMap id).Nodup :=by
   cases d with
   |none=>simpa using hd
   |some e=>simp only[List.filterMap_cons,id,List.nodup_cons] at hd;exact hd.2
  show(ah (A.put d (us 0)) ds _).put (ds.getD k none) v=ah (A.put d (us 0)) ds _;rw[eQ ds _ _ k v hd' (by simpa using hk)];congr 1;funext j;simp[ct]
theorem CE (A:Act) (d:Nat):A.put (some d) (A.tmps.getD d undef)=A:=by
 cases A with
 |mk tmps defers=>
  simp only[Act.put,Act.mk.injEq,and_true];apply Array.ext
  ·simp
  ·intro i h1 h2;rw[Array.getElem_setIfInBounds]
   split
   ·rename_i h
    subst h;rw[Array.getD_eq_getD_getElem?,Array.getElem?_eq_getElem h2];rfl
   ·rfl
def fy (A:Act) (ds:List (Option Nat)):Nat->Value:=fun j=>match ds.getD j none with
 |some d=>A.tmps.getD d undef
 |none=>undef
theorem ci (A:Act):∀(ds:List (Option Nat)),ah A ds (fy A ds)=A
 | []=>rfl
 |none::ds=>ci A ds
 |some d::ds=>by
  show ah (A.put (some d) (A.tmps.getD d undef)) ds (fy A ds)=A;rw[CE];exact ci A ds
section
variable {P:Program} {Q:Exit->Act->World->Prop}
def bK (P:Program) (ops:Array Oper) (Q:Exit->Act->World->Prop) (A0:Act) (ds:List (Option Nat)) (R:(Nat->Bool)->(Nat->Value)->World->Prop):Nat->List Oper->Prop
 |_,[]=>True
 |k,o::rest=>(∀(K:Act->World->Prop) (L:Nat->Bool) (us:Nat->Value) (W:World),
  (∀v A' W',A'=(ah A0 ds us).put (ds.getD k none) v->R (fun j=>j == k || L j) (ct us k v) W'->K A' W')->L k=false->
  (o.after.all fun e=> !Region.binds .any e || L e.on)=true->R L us W->wpList P ops (Exit.then K Q) [o] (ah A0 ds us) W)/\bK P ops Q A0 ds R (k+1) rest
theorem bK.reg {ops:Array Oper} {A0:Act} {ds:List (Option Nat)} {R:(Nat->Bool)->(Nat->Value)->World->Prop} (hds:(ds.filterMap id).Nodup):∀{l:List Oper} {k:Nat},k+l.length=ds.length->cI k l=true->
 bK P ops Q A0 ds R k l->∀K:(Nat->Bool)->Act->World->Prop,(∀L a w,(∃us,a=ah A0 ds us/\R (fun j=>L j && decide (j<ds.length)) us w)->K L a w)->
 fw P ops Q (fun L a w=>∃us,a=ah A0 ds us/\R (fun j=>L j && decide (j<ds.length)) us w) K k l
 | [],_,_,_,_,_,_=>trivial
 |o::rest,k,hl,hb,hs,K,hK=>by
  simp only[List.length_cons] at hl;simp only[cI,Bool.and_eq_true] at hb;refine⟨?_,bK.reg hds (by omega) hb.2 hs.2 K hK⟩;rintro L hL hd a w ⟨us,rfl,hR⟩;refine hs.1 (K fun j=>j == k || L j) (fun j=>L j && decide (j<ds.length)) us w ?_ (by simp[hL]) ?_ hR
  ·intro v A' W' hA hR';refine hK _ _ _ ⟨ct us k v,hA.trans (eQ ds A0 us k v hds (by omega)),?_⟩;have:(fun j=>(j == k || L j) && decide (j<ds.length))=fun j=>j == k || (L j && decide (j<ds.length)):=by
    funext j;by_cases hj:j=k
    ·subst hj;simp;omega
    ·rw[show(j == k)=false from beq_false_of_ne hj,Bool.false_or,Bool.false_or]
   rw[this];exact hR'
  ·have hb1:=hb.1;rw[Array.all_eq_true'] at hd hb1⊢;intro e he;have h1:=hd e he;have h2:=hb1 e he;simp only[Bool.or_eq_true,Bool.not_eq_true',Bool.and_eq_true,decide_eq_true_eq] at h1 h2⊢
   rcases h1 with h1|h1
   ·exact .inl h1
   ·rcases h2 with h2|h2
    ·exact .inl h2
    ·exact .inr ⟨h1,by omega⟩
theorem bD {id:Nat} {l:List Oper} {A0:Act} {w:World} (hm:P.follows .mixedOrders =true) (hb:cI 0 l=true) (ds:List (Option Nat)) (hl:l.length=ds.length) (hds:(ds.filterMap _root_.id).Nodup)
 (R:(Nat->Bool)->(Nat->Value)->World->Prop) (us0:Nat->Value) (hus:ah A0 ds us0=A0) (h0:R (fun _=>false) us0 w.drew)
 (hs:bK P l.toArray Q A0 ds R 0 l) (hend:∀(L:Nat->Bool) us W,(∀j,j<ds.length->L j=true)->R L us W->Q .normal (ah A0 ds us) W):(Code.region id l.toArray true).wp P Q A0 w:=by
 refine pk hm hb (fun L a w=>∃us,a=ah A0 ds us/\R (fun j=>L j && decide (j<ds.length)) us w) ⟨us0,hus.symm,?_⟩ ?_ (fun K hK=>bK.reg hds (by omega) hb hs K hK) ?_
 ·simpa using h0
 ·rintro L L' hL a w ⟨us,ha,hR⟩;refine⟨us,ha,?_⟩;have:(fun j=>L j && decide (j<ds.length))=fun j=>L' j && decide (j<ds.length):=by
   funext j;by_cases hj:j<ds.length
   ·rw[hL j (by omega)]
   ·simp[hj]
  rw[<-this];exact hR
 ·rintro a w ⟨us,rfl,hR⟩;exact hend _ us w (by intro j hj;simp[hj]) hR
def dX (P:Program) (ops:Array Oper) (Q:Exit->Act->World->Prop) (A0:Act) (ds:List (Option Nat)) (B:World) (Pr:Nat->World->Value->Prop):Nat->List Oper->Prop
 |_,[]=>True
 |k,o::rest=>(∀(K:Act->World->Prop) (us:Nat->Value) (W:World),
  (∀v A' W',A'=(ah A0 ds us).put (ds.getD k none) v->Below W.heap.size W W'->Pr k W' v->K A' W')->Below B.heap.size B W->
  (∀e∈o.after,Region.binds .any e=true->Pr e.on W (us e.on))->wpList P ops (Exit.then K Q) [o] (ah A0 ds us) W)/\dX P ops Q A0 ds B Pr (k+1) rest
theorem dX.by {ops:Array Oper} {A0:Act} {ds:List (Option Nat)} {B:World} {Pr:Nat->World->Value->Prop} (uu:∀j W W' v,Below W.heap.size W W'->Pr j W v->Pr j W' v):∀{l:List Oper} {k:Nat},
 dX P ops Q A0 ds B Pr k l->bK P ops Q A0 ds (fun L us W=>Below B.heap.size B W/\∀j,L j=true->Pr j W (us j)) k l
 | [],_,_=>trivial
 |o::rest,k,hs=>by
  refine⟨?_,dX.by uu hs.2⟩;intro K L us W hK hL hd hR;refine hs.1 K us W ?_ hR.1 ?_
  ·intro v A' W' hA hB hv;refine hK v A' W' hA ⟨hR.1.trans (hB.mono hR.1.size),?_⟩;intro j hj;by_cases hjk:j=k
   ·subst hjk;simpa[ct] using hv
   ·simp only[ct,hjk,if_false];exact uu j W W' _ hB (hR.2 j (by simpa[hjk] using hj))
  ·intro e he hbi;rw[Array.all_eq_true'] at hd;have:=hd e he;rw[hbi] at this;exact hR.2 e.on (by simpa using this)
theorem rh {id:Nat} {l:List Oper} {A0:Act} {w:World} (hm:P.follows .mixedOrders =true) (hb:cI 0 l=true) (ds:List (Option Nat)) (hl:l.length=ds.length) (hds:(ds.filterMap _root_.id).Nodup)
 (Pr:Nat->World->Value->Prop) (uu:∀j W W' v,Below W.heap.size W W'->Pr j W v->Pr j W' v) (us0:Nat->Value) (hus:ah A0 ds us0=A0)
 (hs:dX P l.toArray Q A0 ds w Pr 0 l) (hend:∀us W,Below w.heap.size w W->(∀j,j<ds.length->Pr j W (us j))->Q .normal (ah A0 ds us) W):(Code.region id l.toArray true).wp P Q A0 w:=
 bD hm hb ds hl hds (fun L us W=>Below w.heap.size w W/\∀j,L j=true->Pr j W (us j)) us0 hus ⟨(Below.refl _ _).drew,by simp⟩ (hs.by uu)
  (fun L us W hL hR=>hend us W hR.1 (fun j hj=>hR.2 j (hL j hj)))
def yA (p:World->Value->Prop):Prop:=∀W W' v,Below W.heap.size W W'->p W v->p W' v
def pw:List (World->Value->Prop)->Prop
 | []=>True
 |p::l=>yA p/\pw l
theorem pw.at:∀{l:List (World->Value->Prop)},pw l->∀j W W' v,Below W.heap.size W W'->l.getD j (fun _ _=>True) W v->l.getD j (fun _ _=>True) W' v
 | [],_,j,W,W',v,_,_=>by simp
 |p::l,h,0,W,W',v,hB,hp=>h.1 W W' v hB hp
 |p::l,h,j+1,W,W',v,hB,hp=>pw.at h.2 j W W' v hB hp
def aw (x:Value) (_:World) (v:Value):Prop:=v=x
theorem aw.stb (x:Value):yA (aw x):=fun _ _ _ _ h=>h
theorem ry {id:Nat} {l:List Oper} {A0:Act} {w:World} (hm:P.follows .mixedOrders =true) (hb:cI 0 l=true) (ds:List (Option Nat)) (hl:l.length=ds.length) (hds:(ds.filterMap _root_.id).Nodup)
 (ps:List (World->Value->Prop)) (hps:pw ps)
 (hs:dX P l.toArray Q A0 ds w (fun j=>ps.getD j (fun _ _=>True)) 0 l) (hend:∀us W,Below w.heap.size w W->(∀j,j<ds.length->ps.getD j (fun _ _=>True) W (us j))->Q .normal (ah A0 ds us) W):(Code.region id l.toArray true).wp P Q A0 w:=
 rh hm hb ds hl hds _ hps.at (fy A0 ds) (ci A0 ds) hs hend
end
open Go.RowKit
def rs (c:Nat) (l:List Oper):Bool:=l.all fun o=>(List.range c).all fun j=>o.after.any fun e=>Region.binds .any e && e.on == j
section
variable {P:Program} {Q:Exit->Act->World->Prop}
theorem bK.append {ops:Array Oper} {A0:Act} {ds:List (Option Nat)} {R:(Nat->Bool)->(Nat->Value)->World->Prop} :∀{l1 l2:List Oper} {k:Nat},
 bK P ops Q A0 ds R k l1->bK P ops Q A0 ds R (k+l1.length) l2->bK P ops Q A0 ds R k (l1++l2)
 | [],l2,k,_,h2=>h2
 |o::l1,l2,k,h1,h2=>⟨h1.1,bK.append h1.2 (by rw[show k+1+l1.length=k+(o::l1).length by simp;omega];exact h2)⟩
theorem pF {ops:Array Oper} {A0:Act} {ds:List (Option Nat)} {B:World} {Pr:Nat->World->Value->Prop} (uu:∀j W W' v,Below W.heap.size W W'->Pr j W v->Pr j W' v) (c:Nat)
 (R2:(Nat->Bool)->(Nat->Value)->World->Prop):∀{l:List Oper} {k:Nat},k+l.length<=c->cI k l=true->dX P ops Q A0 ds B Pr k l->
 bK P ops Q A0 ds (fun L us W=>((∀j,c<=j->j<ds.length->L j=false)/\Below B.heap.size B W/\∀j,j<c->L j=true->Pr j W (us j))∨((∀j,j<c->L j=true)/\R2 L us W)) k l
 | [],_,_,_,_=>trivial
 |o::rest,k,hl,hb,hs=>by
  simp only[List.length_cons] at hl;simp only[cI,Bool.and_eq_true] at hb;refine⟨?_,pF uu c R2 (by omega) hb.2 hs.2⟩;intro K L us W hK hL hd hR
  rcases hR with⟨hn,hB,hp⟩ | ⟨ha,_⟩
  ·have hdep:∀e∈o.after,Region.binds .any e=true->L e.on=true:=by
    intro e he hbi;rw[Array.all_eq_true'] at hd;have:=hd e he;rw[hbi] at this;simpa using this
   have hlt:∀e∈o.after,Region.binds .any e=true->e.on<k:=by
    intro e he hbi;have hb1:=hb.1;rw[Array.all_eq_true'] at hb1;have:=hb1 e he;rw[hbi] at this;simpa using this
   refine hs.1 K us W ?_ hB ?_
   ·intro v A' W' hA hB' hv;refine hK v A' W' hA (Or.inl ⟨?_,hB.trans (hB'.mono hB.size),?_⟩)
    ·intro j hj hjn;have h1:=hn j hj hjn;simp[h1];omega
    ·intro j hjc hj;by_cases hjk:j=k
     ·subst hjk;simpa[ct] using hv
     ·simp only[ct,hjk,if_false];exact uu j W W' _ hB' (hp j hjc (by simpa[hjk] using hj))
   ·intro e he hbi;have:=hlt e he hbi;exact hp e.on (by omega) (hdep e he hbi)
  ·rw[ha k (by omega)] at hL
   cases hL
theorem so {ops:Array Oper} {A0:Act} {ds:List (Option Nat)} {B:World} {Pr:Nat->World->Value->Prop} (c:Nat)
 (R2:(Nat->Bool)->(Nat->Value)->World->Prop)
 (h12:∀L us W,(∀j,j<c->L j=true)->(∀j,c<=j->j<ds.length->L j=false)->Below B.heap.size B W->(∀j,j<c->Pr j W (us j))->R2 L us W):∀{l:List Oper} {k:Nat},rs c l=true->
 bK P ops Q A0 ds R2 k l->
 bK P ops Q A0 ds (fun L us W=>((∀j,c<=j->j<ds.length->L j=false)/\Below B.heap.size B W/\∀j,j<c->L j=true->Pr j W (us j))∨((∀j,j<c->L j=true)/\R2 L us W)) k l
 | [],_,_,_=>trivial
 |o::rest,k,hc,hs=>by
  simp only[rs,List.all_cons,Bool.and_eq_true] at hc;refine⟨?_,so c R2 h12 hc.2 hs.2⟩;intro K L us W hK hL hd hR;have hall:∀j,j<c->L j=true:=by
   intro j hj;have h1:=hc.1;rw[List.all_eq_true] at h1;have h2:=h1 j (List.mem_range.2 hj);rw[Array.any_eq_true'] at h2;obtain⟨e,he,h3⟩:=h2;simp only[Bool.and_eq_true,beq_iff_eq] at h3;rw[Array.all_eq_true'] at hd;have h4:=hd e he;rw[h3.1,h3.2] at h4;simpa using h4
  have EK:R2 L us W:=by
   rcases hR with⟨hn,hB,hp⟩ | ⟨_,h⟩
   ·exact h12 L us W hall hn hB (fun j hj=>hp j hj (hall j hj))
   ·exact h
  refine hs.1 K L us W ?_ hL hd EK;intro v A' W' hA hR';exact hK v A' W' hA (Or.inr ⟨fun j hj=>by simp[hall j hj],hR'⟩)
theorem pi {id:Nat} {l:List Oper} {A0:Act} {w:World} (hm:P.follows .mixedOrders =true) (hb:cI 0 l=true) (ds:List (Option Nat)) (hl:l.length=ds.length) (hds:(ds.filterMap _root_.id).Nodup)
 (c:Nat) (hcl:(l.take c).length <=c) (hb1:cI 0 (l.take c)=true) (hcov:rs c (l.drop c)=true) (ps:List (World->Value->Prop)) (hps:pw ps)
 (R2:(Nat->Bool)->(Nat->Value)->World->Prop)
 (h12:∀L us W,(∀j,j<c->L j=true)->(∀j,c<=j->j<ds.length->L j=false)->Below w.heap.size w W->(∀j,j<c->ps.getD j (fun _ _=>True) W (us j))->R2 L us W)
 (hs1:dX P l.toArray Q A0 ds w (fun j=>ps.getD j (fun _ _=>True)) 0 (l.take c)) (hs2:bK P l.toArray Q A0 ds R2 (l.take c).length (l.drop c))
 (hend:∀L us W,(∀j,j<ds.length->L j=true)->R2 L us W->Q .normal (ah A0 ds us) W) (hcn:c<ds.length):(Code.region id l.toArray true).wp P Q A0 w:=by
 refine bD hm hb ds hl hds (fun L us W=>((∀j,c<=j->j<ds.length->L j=false)/\Below w.heap.size w W/\∀j,j<c->L j=true->ps.getD j (fun _ _=>True) W (us j))∨((∀j,j<c->L j=true)/\R2 L us W)) (fy A0 ds) (ci A0 ds) (Or.inl ⟨fun _ _ _=>rfl,(Below.refl _ _).drew,by simp⟩) ?_ ?_
 ·have h1:=pF (ops:=l.toArray) (Q:=Q) (A0:=A0) (ds:=ds) (B:=w) hps.at c R2 (k:=0) (l:=l.take c) (by omega) hb1 hs1;have h2:=so (ops:=l.toArray) (Q:=Q) (A0:=A0) (ds:=ds) (B:=w) (Pr:=fun j=>ps.getD j (fun _ _=>True)) c R2 h12 (k:=(l.take c).length) hcov hs2;have h3:=bK.append h1 (by rw[Nat.zero_add];exact h2);rw[List.take_append_drop] at h3;exact h3
 ·rintro L us W hL (⟨hn,_,_⟩ | ⟨_,h⟩)
  ·have:=hn c (Nat.le_refl _) hcn;rw[hL c hcn] at this
   cases this
  ·exact hend L us W hL h
end
open Go.RowKit
section
variable {P:Program} {Q:Exit->Act->World->Prop}
end
open Go.RowKit
section
variable {P:Program} {Q:Exit->Act->World->Prop}
theorem fN {id:Nat} {l:List Oper} {A0:Act} {w:World} (hm:P.follows .mixedOrders =true) (hb:cI 0 l=true) (ds:List (Option Nat)) (hl:l.length=ds.length) (hds:(ds.filterMap _root_.id).Nodup)
 (c:Nat) {o:Oper} (ho:l.drop c=[o]) (hb1:cI 0 (l.take c)=true) (hcov:rs c (l.drop c)=true) (ps:List (World->Value->Prop)) (hps:pw ps)
 (hs1:dX P l.toArray Q A0 ds w (fun j=>ps.getD j (fun _ _=>True)) 0 (l.take c))
 (hlast:∀(K:Act->World->Prop) (us:Nat->Value) (W:World),(∀v A' W',A'=(ah A0 ds us).put (ds.getD c none) v->Q .normal A' W'->K A' W')->Below w.heap.size w W->(∀j,j<c->ps.getD j (fun _ _=>True) W (us j))->wpList P l.toArray (Exit.then K Q) [o] (ah A0 ds us) W):
 (Code.region id l.toArray true).wp P Q A0 w:=by
 have hlen:l.length=c+1:=by
  have h1:=congrArg List.length ho;rw[List.length_drop] at h1;simp at h1;omega
 refine pi hm hb ds hl hds c (List.length_take_le _ _) hb1 hcov ps hps (fun L us W=>(L c=false->Below w.heap.size w W/\∀j,j<c->ps.getD j (fun _ _=>True) W (us j))/\(L c=true->Q .normal (ah A0 ds us) W)) ?_ hs1 ?_ ?_ (by omega)
 ·intro L us W _ h2 hB hp;exact⟨fun _=>⟨hB,hp⟩,fun h=>by rw[h2 c (Nat.le_refl _) (by omega)] at h;cases h⟩
 ·rw[List.length_take,hlen,Nat.min_eq_left (Nat.le_succ c),ho];refine⟨?_,trivial⟩;intro K L us W hK hL _ hR;obtain⟨hB,hp⟩:=hR.1 hL;refine hlast K us W (fun v A' W' hA hQ=>hK v A' W' hA ⟨fun h=>by simp at h,fun _=>?_⟩) hB hp;rw[<-eQ ds A0 us c v hds (by omega),<-hA];exact hQ
 ·intro L us W hL hR;exact hR.2 (hL c (by omega))
end
open Go.RowKit
def jd (o:Oper):List Nat:=(o.after.toList.filter fun e=>Region.binds .any e).map (·.on)
def nQ (l:List Oper):Nat->List Nat->List Nat
 |0,S=>S
 |n+1,S=>nQ l n (S++(S.flatMap fun i=>match l[i]? with|some o=>jd o|none=>[]).eraseDups)
def jz (l:List Oper) (c:Nat):Bool:=(List.range l.length).all fun k=>decide (k<c) || (match l[k]? with|some o=>(List.range k).all fun j=>(nQ l 9 (jd o)).contains j|none=>false)
def jW (l:List Oper) (L:Nat->Bool):Prop:=∀(i:Nat) (o:Oper),l[i]? =some o->L i=true->∀j∈jd o,L j=true
theorem gV {l:List Oper} {L:Nat->Bool} (hL:jW l L):∀(n:Nat) (S:List Nat),(∀j∈S,L j=true)->∀j∈nQ l n S,L j=true
 |0,_,h=>h
 |n+1,S,h=>by
  refine gV hL n _ ?_;intro j hj;rw[List.mem_append] at hj
  rcases hj with hj|hj
  ·exact h j hj
  ·rw[List.mem_eraseDups,List.mem_flatMap] at hj;obtain⟨i,hi,hj⟩:=hj
   cases ho:l[i]? with
   |none=>rw[ho] at hj;simp at hj
   |some o=>rw[ho] at hj;exact hL i o ho (h i hi) j hj
section
variable {P:Program} {Q:Exit->Act->World->Prop}
def iu (P:Program) (ops:Array Oper) (Q:Exit->Act->World->Prop):List Oper->Act->World->Prop
 | [],a,w=>Q .normal a w
 |o::rest,a,w=>∀K:Act->World->Prop,(∀v A' W',A'=a.put o.dst v->iu P ops Q rest A' W'->K A' W')->wpList P ops (Exit.then K Q) [o] a w
theorem iM {o:Oper} {L:Nat->Bool} (hd:(o.after.all fun e=> !Region.binds .any e || L e.on)=true):∀j∈jd o,L j=true:=by
 intro j hj;unfold jd at hj;rw[List.mem_map] at hj;obtain⟨e,he,rfl⟩:=hj;rw[List.mem_filter] at he;rw[Array.all_eq_true'] at hd;have:=hd e (Array.mem_toList_iff.1 he.1);rw[he.2] at this;simpa using this
theorem jW.add {l:List Oper} {L:Nat->Bool} {k:Nat} {o:Oper} (h:jW l L) (ho:l[k]? =some o) (hd:∀j∈jd o,L j=true):jW l (fun j=>j == k || L j):=by
 intro i o' ho' hi j hj;by_cases hik:i=k
 ·subst hik;rw[ho] at ho'
  cases ho'
  simp[hd j hj]
 ·have hi':L i=true:=by simpa[hik] using hi
  simp[h i o' ho' hi' j hj]
def CD (P:Program) (ops:Array Oper) (Q:Exit->Act->World->Prop) (l:List Oper) (A0:Act) (ds:List (Option Nat)) (B:World) (Pr:Nat->World->Value->Prop) (c:Nat) (L:Nat->Bool) (us:Nat->Value) (W:World):Prop:=
 jW l L/\(((∀j,c<=j->j<l.length->L j=false)/\Below B.heap.size B W/\∀j,j<c->L j=true->Pr j W (us j))∨
  (∃t,(∀j,j<t->L j=true)/\(∀j,t<=j->j<l.length->L j=false)/\c<t/\iu P ops Q (l.drop t) (ah A0 ds us) W))
theorem nU {ops:Array Oper} {l:List Oper} {A0:Act} {ds:List (Option Nat)} {B:World} {Pr:Nat->World->Value->Prop} (uu:∀j W W' v,Below W.heap.size W W'->Pr j W v->Pr j W' v) (c:Nat):
 ∀{l1:List Oper} {k:Nat},(∀j,j<l1.length->l[k+j]? =l1[j]?)->k+l1.length<=c->cI k l1=true->dX P ops Q A0 ds B Pr k l1->bK P ops Q A0 ds (CD P ops Q l A0 ds B Pr c) k l1
 | [],_,_,_,_,_=>trivial
 |o::rest,k,hat,hl,hb,hs=>by
  simp only[List.length_cons] at hl;simp only[cI,Bool.and_eq_true] at hb;refine⟨?_,nU uu c (l1:=rest) (k:=k+1) (fun j hj=>by rw[show k+1+j=k+(j+1) by omega,hat (j+1) (by simp;omega)];rfl) (by omega) hb.2 hs.2⟩;intro K L us W hK hL hd hR;have ho:l[k]? =some o:=by have:=hat 0 (by simp);simpa using this
  have hdi:=iM hd;obtain⟨hcl,hR⟩:=hR
  rcases hR with⟨hn,hB,hp⟩ | ⟨t,ha,_,htc,_⟩
  ·refine hs.1 K us W ?_ hB ?_
   ·intro v A' W' hA hB' hv;refine hK v A' W' hA ⟨hcl.add ho hdi,Or.inl ⟨?_,hB.trans (hB'.mono hB.size),?_⟩⟩
    ·intro j hj hjn;simp[hn j hj hjn];omega
    ·intro j hjc hj;by_cases hjk:j=k
     ·subst hjk;simpa[ct] using hv
     ·simp only[ct,hjk,if_false];exact uu j W W' _ hB' (hp j hjc (by simpa[hjk] using hj))
   ·intro e he hbi;have hb1:=hb.1;rw[Array.all_eq_true'] at hb1 hd;have h1:=hb1 e he;have h2:=hd e he;rw[hbi] at h1 h2;simp at h1 h2;exact hp e.on (by omega) h2
  ·rw[ha k (by omega)] at hL
   cases hL
theorem pU {ops:Array Oper} {l:List Oper} {A0:Act} {ds:List (Option Nat)} {B:World} {Pr:Nat->World->Value->Prop} (c:Nat) (hdst:ds=l.map (·.dst)) (hds:(ds.filterMap _root_.id).Nodup)
 (htail:∀us W,Below B.heap.size B W->(∀j,j<c->Pr j W (us j))->iu P ops Q (l.drop c) (ah A0 ds us) W) (hch:jz l c=true):
 ∀{l2:List Oper} {k:Nat},c<=k->l.drop k=l2->bK P ops Q A0 ds (CD P ops Q l A0 ds B Pr c) k l2
 | [],_,_,_=>trivial
 |o::rest,k,hck,hdr=>by
  have ho:l[k]? =some o:=by
   have:=congrArg (fun x=>x[0]?) hdr;simpa using this
  have hkl:k<l.length:=(List.getElem?_eq_some_iff.1 ho).1;have Cb:l.drop (k+1)=rest:=by
   have:=congrArg List.tail hdr;simpa[List.tail_drop] using this
  refine⟨?_,pU c hdst hds htail hch (l2:=rest) (k:=k+1) (by omega) Cb⟩;intro K L us W hK hL hd hR;have hdi:=iM hd;obtain⟨hcl,hR⟩:=hR;have hall:∀j,j<k->L j=true:=by
   unfold jz at hch;rw[List.all_eq_true] at hch;have h1:=hch k (List.mem_range.2 hkl);rw[ho] at h1;simp only[Bool.or_eq_true,decide_eq_true_eq] at h1
   rcases h1 with h1|h1
   ·omega
   ·intro j hj;rw[List.all_eq_true] at h1;have h2:=h1 j (List.mem_range.2 hj);rw[List.contains_iff_mem] at h2;exact gV hcl _ _ hdi j h2
  have hS:(∀j,k<=j->j<l.length->L j=false)/\iu P ops Q (l.drop k) (ah A0 ds us) W:=by
   rcases hR with⟨hn,hB,hp⟩ | ⟨t,ha,hn,htc,hS⟩
   ·have:k=c:=by
     rcases Nat.lt_or_ge c k with h|h
     ·have h2:=hall c h;rw[hn c (Nat.le_refl _) (by omega)] at h2
      cases h2
     ·omega
    subst this;exact⟨hn,htail us W hB (fun j hj=>hp j hj (hall j hj))⟩
   ·have:t=k:=by
     rcases Nat.lt_trichotomy t k with h|h|h
     ·have h2:=hall t h;rw[hn t (Nat.le_refl _) (by omega)] at h2
      cases h2
     ·exact h
     ·rw[ha k h] at hL
      cases hL
    subst this;exact⟨hn,hS⟩
  obtain⟨hn,hS⟩:=hS;rw[hdr] at hS;refine hS K (fun v A' W' hA hS'=>?_);have hdk:ds.getD k none=o.dst:=by
   rw[hdst,List.getD_eq_getElem?_getD,List.getElem?_map,ho];rfl
  refine hK v A' W' (by rw[hdk];exact hA) ⟨hcl.add ho hdi,Or.inr ⟨k+1,?_,?_,by omega,?_⟩⟩
  ·intro j hj;by_cases hjk:j=k
   ·simp[hjk]
   ·simp[hall j (by omega)]
  ·intro j hj hjn;simp[hn j (by omega) hjn];omega
  ·rw[Cb,<-eQ ds A0 us k v hds (by rw[hdst];simpa using hkl),hdk,<-hA];exact hS'
theorem aJ {id:Nat} {l:List Oper} {A0:Act} {w:World} (hm:P.follows .mixedOrders =true) (hb:cI 0 l=true) (ds:List (Option Nat)) (hdst:ds=l.map (·.dst)) (hds:(ds.filterMap _root_.id).Nodup)
 (c:Nat) (hcl:c<l.length) (hb1:cI 0 (l.take c)=true) (hch:jz l c=true) (ps:List (World->Value->Prop)) (hps:pw ps)
 (hs1:dX P l.toArray Q A0 ds w (fun j=>ps.getD j (fun _ _=>True)) 0 (l.take c))
 (htail:∀us W,Below w.heap.size w W->(∀j,j<c->ps.getD j (fun _ _=>True) W (us j))->iu P l.toArray Q (l.drop c) (ah A0 ds us) W):
 (Code.region id l.toArray true).wp P Q A0 w:=by
 have hl:l.length=ds.length:=by rw[hdst];simp
 refine bD hm hb ds hl hds (CD P l.toArray Q l A0 ds w (fun j=>ps.getD j (fun _ _=>True)) c) (fy A0 ds) (ci A0 ds) ⟨fun _ _ _ h=>by simp at h,Or.inl ⟨fun _ _ _=>rfl,(Below.refl _ _).drew,fun _ _ h=>by simp at h⟩⟩ ?_ ?_
 ·have hlen:(l.take c).length =c:=by rw[List.length_take];omega
  have h1:=nU (ops:=l.toArray) (Q:=Q) (l:=l) (A0:=A0) (ds:=ds) (B:=w) hps.at c (l1:=l.take c) (k:=0) (fun j hj=>by rw[Nat.zero_add,List.getElem?_take_of_lt (by omega)]) (by omega) hb1 hs1;have h2:=pU (P:=P) (ops:=l.toArray) (Q:=Q) (l:=l) (A0:=A0) (ds:=ds) (B:=w) (Pr:=fun j=>ps.getD j (fun _ _=>True)) c hdst hds htail hch (l2:=l.drop c) (k:=c) (Nat.le_refl _) rfl;have h3:=bK.append h1 (by rw[Nat.zero_add,hlen];exact h2);rw[List.take_append_drop] at h3;exact h3
 ·intro L us W hL hR
  rcases hR.2 with⟨hn,_,_⟩ | ⟨t,_,hn,htc,hS⟩
  ·have:=hn c (Nat.le_refl _) hcl;rw[hL c (by omega)] at this
   cases this
  ·have htl:l.length<=t:=by
    rcases Nat.lt_or_ge t l.length with h|h
    ·have:=hn t (Nat.le_refl _) h;rw[hL t (by omega)] at this
     cases this
    ·exact h
   rw[List.drop_eq_nil_of_le htl] at hS;exact hS
end
open Go.RowKit
def oQ (P:Program) (ops:Array Oper) (Q:Exit->Act->World->Prop) (A0:Act) (ds:List (Option Nat)) (B:World) (Pr:Nat->World->Value->Prop) (c:Nat):Nat->List Oper->Prop
 |_,[]=>True
 |k,o::rest=>(∀(K:Act->World->Prop) (us:Nat->Value) (W:World),
  (∀v A' W',A'=(ah A0 ds us).put (ds.getD k none) v->Below W.heap.size W W'->Pr k W' v->K A' W')->Below B.heap.size B W->
  (∀e∈o.after,Region.binds .any e=true->Pr e.on W (us e.on))->(∀j,c<=j->us j=fy A0 ds j)->wpList P ops (Exit.then K Q) [o] (ah A0 ds us) W)/\oQ P ops Q A0 ds B Pr c (k+1) rest
section
variable {P:Program} {Q:Exit->Act->World->Prop}
def AS (P:Program) (ops:Array Oper) (Q:Exit->Act->World->Prop) (l:List Oper) (A0:Act) (ds:List (Option Nat)) (B:World) (Pr:Nat->World->Value->Prop) (c:Nat) (L:Nat->Bool) (us:Nat->Value) (W:World):Prop:=
 jW l L/\(((∀j,c<=j->us j=fy A0 ds j)/\(∀j,c<=j->j<l.length->L j=false)/\Below B.heap.size B W/\∀j,j<c->L j=true->Pr j W (us j))∨
  (∃t,(∀j,j<t->L j=true)/\(∀j,t<=j->j<l.length->L j=false)/\c<t/\iu P ops Q (l.drop t) (ah A0 ds us) W))
theorem mx {ops:Array Oper} {l:List Oper} {A0:Act} {ds:List (Option Nat)} {B:World} {Pr:Nat->World->Value->Prop} (uu:∀j W W' v,Below W.heap.size W W'->Pr j W v->Pr j W' v) (c:Nat):
 ∀{l1:List Oper} {k:Nat},(∀j,j<l1.length->l[k+j]? =l1[j]?)->k+l1.length<=c->cI k l1=true->oQ P ops Q A0 ds B Pr c k l1->bK P ops Q A0 ds (AS P ops Q l A0 ds B Pr c) k l1
 | [],_,_,_,_,_=>trivial
 |o::rest,k,hat,hl,hb,hs=>by
  simp only[List.length_cons] at hl;simp only[cI,Bool.and_eq_true] at hb;refine⟨?_,mx uu c (l1:=rest) (k:=k+1) (fun j hj=>by rw[show k+1+j=k+(j+1) by omega,hat (j+1) (by simp;omega)];rfl) (by omega) hb.2 hs.2⟩;intro K L us W hK hL hd hR;have ho:l[k]? =some o:=by have:=hat 0 (by simp);simpa using this
  have hdi:=iM hd;obtain⟨hcl,hR⟩:=hR
  rcases hR with⟨hu,hn,hB,hp⟩ | ⟨t,ha,_,htc,_⟩
  ·refine hs.1 K us W ?_ hB ?_ hu
   ·intro v A' W' hA hB' hv;refine hK v A' W' hA ⟨hcl.add ho hdi,Or.inl ⟨fun j hj=>by simp only[ct,show ¬j=k by omega,if_false];exact hu j hj,?_,hB.trans (hB'.mono hB.size),?_⟩⟩
    ·intro j hj hjn;simp[hn j hj hjn];omega
    ·intro j hjc hj;by_cases hjk:j=k
     ·subst hjk;simpa[ct] using hv
     ·simp only[ct,hjk,if_false];exact uu j W W' _ hB' (hp j hjc (by simpa[hjk] using hj))
   ·intro e he hbi;have hb1:=hb.1;rw[Array.all_eq_true'] at hb1 hd;have h1:=hb1 e he;have h2:=hd e he;rw[hbi] at h1 h2;simp at h1 h2;exact hp e.on (by omega) h2
  ·rw[ha k (by omega)] at hL
   cases hL
theorem oO {ops:Array Oper} {l:List Oper} {A0:Act} {ds:List (Option Nat)} {B:World} {Pr:Nat->World->Value->Prop} (c:Nat) (hdst:ds=l.map (·.dst)) (hds:(ds.filterMap _root_.id).Nodup)
 (htail:∀us W,Below B.heap.size B W->(∀j,j<c->Pr j W (us j))->iu P ops Q (l.drop c) (ah A0 ds us) W) (hch:jz l c=true):
 ∀{l2:List Oper} {k:Nat},c<=k->l.drop k=l2->bK P ops Q A0 ds (AS P ops Q l A0 ds B Pr c) k l2
 | [],_,_,_=>trivial
 |o::rest,k,hck,hdr=>by
  have ho:l[k]? =some o:=by
   have:=congrArg (fun x=>x[0]?) hdr;simpa using this
  have hkl:k<l.length:=(List.getElem?_eq_some_iff.1 ho).1;have Cb:l.drop (k+1)=rest:=by
   have:=congrArg List.tail hdr;simpa[List.tail_drop] using this
  refine⟨?_,oO c hdst hds htail hch (l2:=rest) (k:=k+1) (by omega) Cb⟩;intro K L us W hK hL hd hR;have hdi:=iM hd;obtain⟨hcl,hR⟩:=hR;have hall:∀j,j<k->L j=true:=by
   unfold jz at hch;rw[List.all_eq_true] at hch;have h1:=hch k (List.mem_range.2 hkl);rw[ho] at h1;simp only[Bool.or_eq_true,decide_eq_true_eq] at h1
   rcases h1 with h1|h1
   ·omega
   ·intro j hj;rw[List.all_eq_true] at h1;have h2:=h1 j (List.mem_range.2 hj);rw[List.contains_iff_mem] at h2;exact gV hcl _ _ hdi j h2
  have hS:(∀j,k<=j->j<l.length->L j=false)/\iu P ops Q (l.drop k) (ah A0 ds us) W:=by
   rcases hR with⟨_,hn,hB,hp⟩ | ⟨t,ha,hn,htc,hS⟩
   ·have:k=c:=by
     rcases Nat.lt_or_ge c k with h|h
     ·have h2:=hall c h;rw[hn c (Nat.le_refl _) (by omega)] at h2
      cases h2
     ·omega
    subst this;exact⟨hn,htail us W hB (fun j hj=>hp j hj (hall j hj))⟩
   ·have:t=k:=by
     rcases Nat.lt_trichotomy t k with h|h|h
     ·have h2:=hall t h;rw[hn t (Nat.le_refl _) (by omega)] at h2
      cases h2
     ·exact h
     ·rw[ha k h] at hL
      cases hL
    subst this;exact⟨hn,hS⟩
  obtain⟨hn,hS⟩:=hS;rw[hdr] at hS;refine hS K (fun v A' W' hA hS'=>?_);have hdk:ds.getD k none=o.dst:=by
   rw[hdst,List.getD_eq_getElem?_getD,List.getElem?_map,ho];rfl
  refine hK v A' W' (by rw[hdk];exact hA) ⟨hcl.add ho hdi,Or.inr ⟨k+1,?_,?_,by omega,?_⟩⟩
  ·intro j hj;by_cases hjk:j=k
   ·simp[hjk]
   ·simp[hall j (by omega)]
  ·intro j hj hjn;simp[hn j (by omega) hjn];omega
  ·rw[Cb,<-eQ ds A0 us k v hds (by rw[hdst];simpa using hkl),hdk,<-hA];exact hS'
theorem mP {id:Nat} {l:List Oper} {A0:Act} {w:World} (hm:P.follows .mixedOrders =true) (hb:cI 0 l=true) (ds:List (Option Nat)) (hdst:ds=l.map (·.dst)) (hds:(ds.filterMap _root_.id).Nodup)
 (c:Nat) (hcl:c<l.length) (hb1:cI 0 (l.take c)=true) (hch:jz l c=true) (ps:List (World->Value->Prop)) (hps:pw ps)
 (hs1:oQ P l.toArray Q A0 ds w (fun j=>ps.getD j (fun _ _=>True)) c 0 (l.take c))
 (htail:∀us W,Below w.heap.size w W->(∀j,j<c->ps.getD j (fun _ _=>True) W (us j))->iu P l.toArray Q (l.drop c) (ah A0 ds us) W):
 (Code.region id l.toArray true).wp P Q A0 w:=by
 have hl:l.length=ds.length:=by rw[hdst];simp
 refine bD hm hb ds hl hds (AS P l.toArray Q l A0 ds w (fun j=>ps.getD j (fun _ _=>True)) c) (fy A0 ds) (ci A0 ds) ⟨fun _ _ _ h=>by simp at h,Or.inl ⟨fun _ _=>rfl,fun _ _ _=>rfl,(Below.refl _ _).drew,fun _ _ h=>by simp at h⟩⟩ ?_ ?_
 ·have hlen:(l.take c).length =c:=by rw[List.length_take];omega
  have h1:=mx (ops:=l.toArray) (Q:=Q) (l:=l) (A0:=A0) (ds:=ds) (B:=w) hps.at c (l1:=l.take c) (k:=0) (fun j hj=>by rw[Nat.zero_add,List.getElem?_take_of_lt (by omega)]) (by omega) hb1 hs1;have h2:=oO (P:=P) (ops:=l.toArray) (Q:=Q) (l:=l) (A0:=A0) (ds:=ds) (B:=w) (Pr:=fun j=>ps.getD j (fun _ _=>True)) c hdst hds htail hch (l2:=l.drop c) (k:=c) (Nat.le_refl _) rfl;have h3:=bK.append h1 (by rw[Nat.zero_add,hlen];exact h2);rw[List.take_append_drop] at h3;exact h3
 ·intro L us W hL hR
  rcases hR.2 with⟨_,hn,_,_⟩ | ⟨t,_,hn,htc,hS⟩
  ·have:=hn c (Nat.le_refl _) hcl;rw[hL c (by omega)] at this
   cases this
  ·have htl:l.length<=t:=by
    rcases Nat.lt_or_ge t l.length with h|h
    ·have:=hn t (Nat.le_refl _) h;rw[hL t (by omega)] at this
     cases this
    ·exact h
   rw[List.drop_eq_nil_of_le htl] at hS;exact hS
end
open Go.RowKit
structure lF (W0:World) (c m:Nat) (V:Nat->Value) (Z C:Nat->Array Value) (T:Nat->TypeId) (L:Nat->Bool) (us:Nat->Value) (W:World):Prop where
 grow:Below W0.heap.size W0 W
 vals:∀j,j<c->L j=true->us j=V j
 box:∀i,i<m->L (c+i)=true->∃g,us (c+i)=.pointer (some ⟨g,0,none⟩)/\W0.heap.size<=g/\W.heap[g]? =some (.cells (if L (c+m+i)=true then C i else Z i) (T i))
 ne:∀i j,i<m->j<m->i≠j->L (c+i)=true->L (c+j)=true->us (c+i)≠us (c+j)
 dep:∀i,i<m->L (c+m+i)=true->L (c+i)=true
theorem lF.start {W0:World} {c m:Nat} {V:Nat->Value} {Z C:Nat->Array Value} {T:Nat->TypeId} {us:Nat->Value} :lF W0 c m V Z C T (fun _=>false) us W0.drew:=
 ⟨(Below.refl _ _).drew,fun _ _ h=>(Bool.false_ne_true h).elim,fun _ _ h=>(Bool.false_ne_true h).elim,fun _ _ _ _ _ h=>(Bool.false_ne_true h).elim,fun _ _ h=>(Bool.false_ne_true h).elim⟩
section
variable {W0 W W':World} {c m:Nat} {V:Nat->Value} {Z C:Nat->Array Value} {T:Nat->TypeId} {L:Nat->Bool} {us:Nat->Value}
theorem dC {k j:Nat} {v:Value} (h:j≠k):((j == k || L j)=L j)/\ct us k v j=us j:=
 ⟨by rw[show(j == k)=false from beq_false_of_ne h,Bool.false_or],by simp[ct,h]⟩
theorem lF.pure {k:Nat} {v:Value} (h:lF W0 c m V Z C T L us W) (hk:k<c) (hB:Below W.heap.size W W') (hv:v=V k):lF W0 c m V Z C T (fun j=>j == k || L j) (ct us k v) W':=by
 have o:∀j,c<=j->((j == k || L j)=L j)/\ct us k v j=us j:=fun j hj=>dC (by omega)
 refine⟨h.grow.trans (hB.mono h.grow.size),?_,?_,?_,?_⟩
 ·intro j hj wM;by_cases hjk:j=k
  ·subst hjk;simp[ct,hv]
  ·rw[(dC (L:=L) (us:=us) (v:=v) hjk).2];exact h.vals j hj (by simpa[hjk] using wM)
 ·intro i hi KU;simp only[(o (c+i) (by omega)).1,(o (c+i) (by omega)).2,(o (c+m+i) (by omega)).1] at KU⊢;obtain⟨g,e,hg,hh⟩:=h.box i hi KU;exact⟨g,e,hg,aj hB hh⟩
 ·intro i j hi hj hij h1 h2;simp only[(o (c+i) (by omega)).1,(o (c+i) (by omega)).2,(o (c+j) (by omega)).1,(o (c+j) (by omega)).2] at h1 h2⊢;exact h.ne i j hi hj hij h1 h2
 ·intro i hi h1;simp only[(o (c+i) (by omega)).1,(o (c+m+i) (by omega)).1] at h1⊢;exact h.dep i hi h1
theorem lF.alloc {i:Nat} (h:lF W0 c m V Z C T L us W) (hi:i<m) (hL:L (c+i)=false):
 lF W0 c m V Z C T (fun j=>j == c+i || L j) (ct us (c+i) (.pointer (some ⟨W.heap.size,0,none⟩))) (W.alloc (.cells (Z i) (T i))):=by
 have hB:=(Below.refl W.heap.size W).alloc (Nat.le_refl _) (.cells (Z i) (T i));have hnd:L (c+m+i)=false:=by
  cases hd:L (c+m+i)
  ·rfl
  ·rw[h.dep i hi hd] at hL;cases hL
 refine⟨h.grow.trans (hB.mono h.grow.size),?_,?_,?_,?_⟩
 ·intro j hj wM;have o:=dC (L:=L) (us:=us) (v:=.pointer (some ⟨W.heap.size,0,none⟩)) (show j≠c+i by omega);rw[o.1] at wM;rw[o.2];exact h.vals j hj wM
 ·intro j hj wM;have o2:=dC (L:=L) (us:=us) (v:=.pointer (some ⟨W.heap.size,0,none⟩)) (show c+m+j≠c+i by omega);simp only[o2.1];by_cases hji:j=i
  ·subst hji;refine⟨W.heap.size,by simp[ct],h.grow.size,?_⟩;rw[hnd,if_neg (by decide)];exact ai _ _ _ rfl
  ·have o:=dC (L:=L) (us:=us) (v:=.pointer (some ⟨W.heap.size,0,none⟩)) (show c+j≠c+i by omega);rw[o.1] at wM;obtain⟨g,e,hg,hh⟩:=h.box j hj wM;exact⟨g,by rw[o.2];exact e,hg,am _ _ _ _ hh⟩
 ·intro a b ha hb hab h1 h2;have key:∀x,x<m->x≠i->(x+c == c+i || L (c+x))=true->L (c+x)=true->us (c+x)≠.pointer (some ⟨W.heap.size,0,none⟩):=by
   intro x hx hxi _ QW he;obtain⟨g,e,_,hh⟩:=h.box x hx QW;rw[e] at he;injection he with he
   injection he with he
   injection he with he
   have:=(Array.getElem?_eq_some_iff.1 hh).1;omega
  by_cases hai:a=i
  ·subst hai;have o:=dC (L:=L) (us:=us) (v:=.pointer (some ⟨W.heap.size,0,none⟩)) (show c+b≠c+a by omega);rw[o.1] at h2;rw[o.2];simp only[ct,if_true];exact fun he=>key b hb (by omega) (by rw[h2];simp) h2 he.symm
  ·have o:=dC (L:=L) (us:=us) (v:=.pointer (some ⟨W.heap.size,0,none⟩)) (show c+a≠c+i by omega);rw[o.1] at h1;rw[o.2];by_cases hbi:b=i
   ·subst hbi;simp only[ct,if_true];exact key a ha hai (by rw[h1];simp) h1
   ·have o':=dC (L:=L) (us:=us) (v:=.pointer (some ⟨W.heap.size,0,none⟩)) (show c+b≠c+i by omega);rw[o'.1] at h2;rw[o'.2];exact h.ne a b ha hb hab h1 h2
 ·intro j hj h1;have o2:=dC (L:=L) (us:=us) (v:=.pointer (some ⟨W.heap.size,0,none⟩)) (show c+m+j≠c+i by omega);rw[o2.1] at h1;rw[h.dep j hj h1];simp
theorem lF.store {i g:Nat} {v:Value} (h:lF W0 c m V Z C T L us W) (hi:i<m) (hL:L (c+i)=true) (e:us (c+i)=.pointer (some ⟨g,0,none⟩)) (hg:W0.heap.size<=g) (hh:W.heap[g]? =some (.cells (Z i) (T i))):
 lF W0 c m V Z C T (fun j=>j == c+m+i || L j) (ct us (c+m+i) v) (W.setRow g (C i)):=by
 have o:∀j,j<c+m->((j == c+m+i || L j)=L j)/\ct us (c+m+i) v j=us j:=fun j hj=>dC (by omega)
 refine⟨below_setRow h.grow hg _,?_,?_,?_,?_⟩
 ·intro j hj wM;rw[(o j (by omega)).1] at wM;rw[(o j (by omega)).2];exact h.vals j hj wM
 ·intro j hj wM;simp only[(o (c+j) (by omega)).1,(o (c+j) (by omega)).2] at wM⊢;by_cases hji:j=i
  ·subst hji;refine⟨g,e,hg,?_⟩;rw[show(c+m+j == c+m+j || L (c+m+j))=true by simp,if_pos rfl];exact setRow_heap _ _ _ _ _ _ hh
  ·obtain⟨g',e',hg',hh'⟩:=h.box j hj wM;refine⟨g',e',hg',?_⟩;rw[show(c+m+j == c+m+i || L (c+m+j))=L (c+m+j) by rw[show(c+m+j == c+m+i)=false from beq_false_of_ne (by omega),Bool.false_or]];have hne:g'≠g:=by
    rintro rfl;exact h.ne j i hj hi hji wM hL (by rw[e,e'])
   show(W.heap.modify g _)[g']? =_;rw[Array.getElem?_modify,if_neg (by omega)];exact hh'
 ·intro a b ha hb hab h1 h2;simp only[(o (c+a) (by omega)).1,(o (c+a) (by omega)).2,(o (c+b) (by omega)).1,(o (c+b) (by omega)).2] at h1 h2⊢;exact h.ne a b ha hb hab h1 h2
 ·intro j hj h1;rw[(o (c+j) (by omega)).1];by_cases hji:j=i
  ·subst hji;exact hL
  ·rw[show(c+m+j == c+m+i || L (c+m+j))=L (c+m+j) by rw[show(c+m+j == c+m+i)=false from beq_false_of_ne (by omega),Bool.false_or]] at h1;exact h.dep j hj h1
end
open Go.RowKit Go.Deep
theorem af {W:World} {b j:Nat} {C:Array Value} {t:TypeId} {fr:Nat×Nat} (h:W.heap[b]? =some (.cells C t fr)):W.cell? ⟨b,j,none⟩=C[j]? :=by
 simp[World.cell?,h]
theorem tg {W:World} {b o n t:Nat} {C:Array Value} (h:W.heap[b]? =some (.cells C t)) (hn:o+n<=C.size):W.there b o n:=by
 intro j hj;constructor
 ·simp[World.cell?,h];omega
 ·simp[World.frozen?,h]
def fA (C:Array Value):Nat->List Value->Array Value
 |_,[]=>C
 |o,v::vs=>fA (C.setIfInBounds o v) (o+1) vs
theorem i9:∀(vs:List Value) (C:Array Value) (o:Nat),(fA C o vs).size =C.size
 | [],_,_=>rfl
 |v::vs,C,o=>(i9 vs _ _).trans (by simp)
theorem jF:∀(vs:List Value) (C:Array Value) (o j:Nat),(j<o∨o+vs.length<=j)->(fA C o vs)[j]? =C[j]?
 | [],_,_,_,_=>rfl
 |v::vs,C,o,j,h=>by
  rw[fA,jF vs _ (o+1) j (by simp at h;omega),Array.getElem?_setIfInBounds_ne (by simp at h;omega)]
theorem qR:∀(vs:List Value) (C:Array Value) (o j:Nat),o+vs.length<=C.size->j<vs.length->(fA C o vs)[o+j]? =vs[j]?
 | [],_,_,_,_,h=>by simp at h
 |v::vs,C,o,0,h,_=>by
  simp at h;rw[fA,jF vs _ (o+1) (o+0) (by omega),Nat.add_zero,Array.getElem?_setIfInBounds_self,if_pos (by omega)];rfl
 |v::vs,C,o,j+1,h,hj=>by
  simp at h hj;rw[fA,show o+(j+1)=(o+1)+j by omega,qR vs _ (o+1) j (by simp;omega) hj];simp
theorem GA {W:World} {g o t:Nat} {fr:Nat×Nat} {C:Array Value} {v:Value} (h:W.heap[g]? =some (.cells C t fr)):W.setCell ⟨g,o,none⟩ v=W.setRow g (C.setIfInBounds o v):=by
 unfold World.setCell World.setRow;congr 1;apply Array.ext
 ·simp
 ·intro i h1 h2;rw[Array.getElem_modify,Array.getElem_modify];by_cases hi:g=i
  ·subst hi;obtain⟨hlt,hv⟩:=Array.getElem?_eq_some_iff.1 h;simp[hv]
  ·simp[hi]
theorem Bb {W:World} {g:Nat} {A B:Array Value} :(W.setRow g A).setRow g B=W.setRow g B:=by
 unfold World.setRow;congr 1;apply Array.ext
 ·simp
 ·intro i h1 h2;rw[Array.getElem_modify,Array.getElem_modify,Array.getElem_modify];by_cases hi:g=i
  ·simp only[hi,if_true]
   cases W.heap[i]'(by simpa using h1)<;>rfl
  ·simp[hi]
theorem En {W:World} {g t:Nat} {fr:Nat×Nat} {C:Array Value} (h:W.heap[g]? =some (.cells C t fr)):W.setRow g C=W:=by
 have e:W.heap.modify g (fun| .cells _ elem frozen=>.cells C elem frozen|o=>o)=W.heap:=by
  apply Array.ext
  ·simp
  ·intro i h1 h2;rw[Array.getElem_modify];by_cases hi:g=i
   ·subst hi;obtain⟨hlt,hv⟩:=Array.getElem?_eq_some_iff.1 h;simp[hv]
   ·simp[hi]
 exact congrArg (fun x=>{W with heap:=x}) e
theorem vP:∀(vs:List Value) {W:World} {g o t:Nat} {fr:Nat×Nat} {C:Array Value},W.heap[g]? =some (.cells C t fr)->W.setCells g o vs=W.setRow g (fA C o vs)
 | [],_,_,_,_,_,_,h=>(En h).symm
 |v::vs,W,g,o,t,fr,C,h=>by
  rw[World.setCells,GA h,vP vs (setRow_heap _ _ _ _ _ _ h),Bb];rfl
theorem eN {P:Program} {ops:Array Oper} {rest:List Oper} {op:Oper} {a:Act} {w:World} {Q:Exit->Act->World->Prop} (hgd:op.guard=none) (ty:TypeId) (x y:Operand) (ho:op.op=.store ty x y)
 (b o:Nat) (cells:Array Value) (hx:a.eval x=.pointer (some ⟨b,o,none⟩)) (hy:a.eval y=.agg cells)
 {C:Array Value} {t n:Nat} (hC:w.heap[b]? =some (.cells C t)) (hi:(P.info? ty).map (·.size)=some n) (hs:cells.size=n) (hn:o+n<=C.size) (h1:cells.toList.all (·.oneCell')=true)
 (h:wpList P ops Q rest (a.put op.dst undef) (w.setRow b (fA C o cells.toList))):wpList P ops Q (op::rest) a w:=
 wpList_store_mid hgd ty x y ho b o cells hx hy (tg hC (by omega)) (by rw[hs];exact hi) (by rw[<-Array.all_toList];exact h1) (by rw[vP _ hC];exact h)
theorem lu {P:Program} (w:World) (b o:Nat) (ty:TypeId) (v:Value) (hv:v.cells= #[v]) (h1:v.oneCell'=true) (ht:w.there b o 1) (hi:(P.info? ty).map (·.size)=some 1):
 (storeVar ty ⟨b,o,none⟩ v).run P w=.ok () (w.setCells b o [v]):=by
 have:=run_storeCells_cells (P:=P) b o [v] 0 w (fun j hj=>by simpa using(ht j (by simpa using hj)).1) (fun j hj=>by simpa using(ht j (by simpa using hj)).2)
  (fun u hu=>by simp at hu;subst hu;exact h1)
 cases hq:P.info? ty with
 |none=>simp[hq] at hi
 |some i=>
  have hs:i.size=1:=by simp[hq] at hi;omega
  simp only[Nat.add_zero] at this;simp[storeVar,sizeOf,typeInfo,hq,hv,hs,this]
theorem bC {P:Program} {ops:Array Oper} {rest:List Oper} {op:Oper} {a:Act} {w:World} {Q:Exit->Act->World->Prop} (hgd:op.guard=none) (ty:TypeId) (x y:Operand) (ho:op.op=.store ty x y)
 (b o:Nat) (v:Value) (hx:a.eval x=.pointer (some ⟨b,o,none⟩)) (hy:a.eval y=v) (hv:v.cells= #[v]) (h1:v.oneCell'=true)
 {C:Array Value} {t:Nat} (hC:w.heap[b]? =some (.cells C t)) (hi:(P.info? ty).map (·.size)=some 1) (hn:o+1<=C.size)
 (h:wpList P ops Q rest (a.put op.dst undef) (w.setRow b (fA C o [v]))):wpList P ops Q (op::rest) a w:=by
 refine wpList_plain hgd fun K hK=>?_
 unfold Oper.wp execOp;simp only[ho,hx,hy,Instr.storeAt,Instr.sureAddr,Sem.run_bind,Sem.run_pure,Result.andThen_ok,lu w b o ty v hv h1 (tg hC hn) hi];rw[vP _ hC];exact hK _ _ h
end Go.Proofs.YtcclpdfmmdonpaaGreat
