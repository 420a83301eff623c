/- Texts of the seat Yteanlcefdoigcaa, turned to this one by wip/port.py: Maps. -/
import Derived.Test.YtcclpdfmmdonpaaGreatTArg
import Derived.Maps.AppendAt
import Derived.Maps.Own
import Derived.Maps.OwnSet
import Derived.Maps.Views
import Derived.Maps.RangeWalk
namespace Go.Proofs.YtcclpdfmmdonpaaGreat
open Go.RowKit
def bF (sz:Nat) (l:List (List Value)):Prop:=∀r∈l,r.length=sz/\∀u∈r,u.oneCell'=true
theorem bF.nil (sz:Nat):bF sz []:=fun _ h=>by simp at h
theorem bF.append {sz:Nat} {l m:List (List Value)} (h1:bF sz l) (h2:bF sz m):bF sz (l++m):=fun r hr=>by
 rcases List.mem_append.1 hr with h|h
 ·exact h1 r h
 ·exact h2 r h
theorem bF.one {sz:Nat} {r:List Value} (h:r.length=sz) (h1:∀u∈r,u.oneCell'=true):bF sz [r]:=fun x hx=>by
 obtain rfl:=List.mem_singleton.1 hx;exact⟨h,h1⟩
theorem bF.length {sz:Nat} :∀{l:List (List Value)},bF sz l->l.flatten.length=l.length*sz
 | [],_=>by simp
 |r::l,h=>by
  rw[List.flatten_cons,List.length_append,bF.length (fun x hx=>h x (List.mem_cons_of_mem _ hx)),(h r (List.mem_cons_self ..)).1,List.length_cons,Nat.add_mul];omega
theorem bF.at {sz:Nat} :∀{l:List (List Value)} {i:Nat} {r:List Value},bF sz l->l[i]? =some r->∀j,j<sz->l.flatten[i*sz+j]? =r[j]?
 |y::l,0,r,hw,h,j,hj=>by
  simp at h;subst h;rw[List.flatten_cons,Nat.zero_mul,Nat.zero_add,List.getElem?_append_left (by rw[(hw y (List.mem_cons_self ..)).1];exact hj)]
 |y::l,i+1,r,hw,h,j,hj=>by
  simp at h;have hy:=(hw y (List.mem_cons_self ..)).1;have e:(i+1)*sz+j=sz+(i*sz+j):=by rw[Nat.add_mul];omega
  rw[List.flatten_cons,e,List.getElem?_append_right (by omega),hy,Nat.add_sub_cancel_left];exact bF.at (fun x hx=>hw x (List.mem_cons_of_mem _ hx)) h j hj
theorem bF.plain {sz:Nat} {l:List (List Value)} (h:bF sz l):∀u∈l.flatten,u.oneCell'=true:=fun u hu=>by
 obtain⟨r,hr,hx⟩:=List.mem_flatten.1 hu;exact(h r hr).2 u hx
def aB (W:World) (b off sz:Nat) (l:List (List Value)):Prop:=∀(i:Nat) (r:List Value),l[i]? =some r->∀j,j<sz->W.cell? ⟨b,off+i*sz+j,none⟩=r[j]?
theorem aB.still {W W':World} {b off sz B:Nat} {l:List (List Value)} (h:aB W b off sz l) (hb:Below B W W') (hB:b<B):aB W' b off sz l:=fun i r hi j hj=>by
 rw[hb.cell hB];exact h i r hi j hj
theorem aB.news {W:World} {b off sz:Nat} {l:List (List Value)} (h:aB W b off sz l) (hw:bF sz l) (hz:0<sz) (j:Nat) (u:Value) (hu:l.flatten[j]? =some u):W.cell? ((⟨b,off,none⟩:Addr).add j)=some u:=by
 have hj:j<l.length*sz:=by rw[<-hw.length];exact(List.getElem?_eq_some_iff.1 hu).1
 have hd:j/sz<l.length:=Nat.div_lt_of_lt_mul (by rw[Nat.mul_comm];exact hj);have hm:j%sz<sz:=Nat.mod_lt _ hz;have e:j/sz*sz+j%sz=j:=by rw[Nat.mul_comm];exact Nat.div_add_mod j sz
 have h1:=hw.at (List.getElem?_eq_getElem hd) (j%sz) hm;rw[e,hu] at h1;have h2:=h (j/sz) _ (List.getElem?_eq_getElem hd) (j%sz) hm;rw[<-h1] at h2;rw[Go.WideShapes.add_plain,<-h2];congr 2;omega
def al (W:World) (base t sz:Nat) (v:Value) (l:List (List Value)):Prop:=bF sz l/\W.ownsRow base t sz v l.length l.flatten
section
variable {W W':World} {base base' t sz:Nat} {v:Value} {l:List (List Value)}
theorem al.nil (W:World) (base t sz:Nat):al W base t sz (.slice none 0 0) []:=⟨bF.nil sz,by simp,Or.inl ⟨rfl,rfl⟩⟩
theorem al.rows (h:al W base t sz v l) (hn:0<l.length):
 ∃g cap cur,v=.slice (some ⟨g,0,none⟩) l.length cap/\base<=g/\W.heap[g]? =some (.cells cur t)/\aB W g 0 sz l/\l.length<=cap/\cap<=maxLen/\cur.size=cap*sz:=by
 rcases h.2.2 with⟨_,h2⟩ | ⟨g,cap,cur,h1,hB,h2,h3,h4,h5,h6⟩
 ·omega
 ·refine⟨g,cap,cur,h1,hB,h2,fun i r hi j hj=>?_,h3,h4,h5⟩;have hil:i<l.length:=(List.getElem?_eq_some_iff.1 hi).1;have hk:i*sz+j<l.length*sz:=by
   have:(i+1)*sz<=l.length*sz:=Nat.mul_le_mul_right sz hil;rw[Nat.add_mul] at this;omega
  rw[af h2,Nat.zero_add,<-h.1.at hi j hj,<-h6,List.getElem?_take_of_lt hk,Array.getElem?_toList]
theorem al.slice (h:al W base t sz v l):∃a cap,v=.slice a l.length cap:=by
 rcases h.2.2 with⟨h1,h2⟩ | ⟨g,cap,cur,h1,_⟩
 ·exact⟨none,0,by rw[h1,h2]⟩
 ·exact⟨_,cap,h1⟩
theorem al.heap (h:al W base t sz v l) (hB:∀g x,W.heap[g]? =some x->base<=g->W'.heap[g]? =some x):al W' base t sz v l:=by
 refine⟨h.1,h.2.1,?_⟩
 rcases h.2.2 with h1| ⟨g,cap,cur,h1,hb,h2,h3⟩
 ·exact Or.inl h1
 ·exact Or.inr ⟨g,cap,cur,h1,hb,hB _ _ h2 hb,h3⟩
theorem al.grow (h:al W base t sz v l) (hB:Below W.heap.size W W'):al W' base t sz v l:=h.heap fun _ _ hx _=>aj hB hx
theorem al.mono (h:al W base t sz v l) (hb:base'<=base):al W base' t sz v l:=by
 refine⟨h.1,h.2.1,?_⟩
 rcases h.2.2 with h1| ⟨g,cap,cur,h1,hbb,h3⟩
 ·exact Or.inl h1
 ·exact Or.inr ⟨g,cap,cur,h1,Nat.le_trans hb hbb,h3⟩
theorem al.ownBlock (h:al W base t sz v l) (k:Nat) (hk:v.ownBlock=some k):base<=k:=by
 rcases h.2.2 with⟨h1,_⟩ | ⟨g,cap,cur,h1,hB,_⟩
 ·subst h1;cases hk
 ·subst h1;injection hk with hk;subst hk;exact hB
theorem al.joined {n:Nat} {m:List (List Value)} (hn:n=l.length) (hm:bF sz m) (hl:bF sz l) (h:W.ownsRow base t sz v (n+m.length) (l.flatten++m.flatten)):al W base t sz v (l++m):=by
 subst hn;refine⟨hl.append hm,?_⟩;rw[List.length_append,List.flatten_append];exact h
theorem ar {P:Program} {ops:Array Oper} {rest:List Oper} {o:Oper} {a:Act} {Q:Exit->Act->World->Prop} (hgd:o.guard=none) (s x:Operand) (ty:TypeId)
 (ho:o.op=.call {callee:=.builtin .append,args:=#[s,x],argTypes:=#[ty,ty]}) (base e:TypeId) (i:TypeInfo) (z:Value) (size bytes:Nat) (ht:P.underlying ty=some (.slice e)) (hi:P.info? e=some i) (hz:i.zero=some z)
 (hsize:i.size=size) (hby:i.bytes=bytes) (hzs:z.cells.size=size) (hsz:0<size) (v:Value) (l m:List (List Value)) (hs:a.eval s=v) (hown:al W base e size v l)
 (b off n c:Nat) (hn:n=m.length) (hx:a.eval x=.slice (some ⟨b,off,none⟩) n c) (hm:aB W b off size m) (hw:bF size m)
 (h63:l.length+m.length<=maxLen) (hbytes:(l.length+m.length)*bytes<=140737488355328) (hbase:base<=W.heap.size)
 (h:∀v' w',al w' base e size v' (l++m)->W.grownBy w' v.ownBlock->(v'.ownBlock=v.ownBlock∨v'.ownBlock=some W.heap.size)->wpList P ops Q rest (a.put o.dst v') w'):wpList P ops Q (o::rest) a W:=by
 subst hn;refine wpList_append_own_at W hgd s x ty ho base e i z size bytes ht hi hz hsize hby hzs hsz v l.length l.flatten hs hown.2 ⟨b,off,none⟩ m.length c m.flatten hx hw.length (hm.news hw hsz) hw.plain h63 hbytes hbase ?_;intro v' w' h1 h2 _ h4;exact h v' w' (al.joined rfl hw hown.1 h1) h2 h4
end
open Go.RowKit Go.Maps
def i7 (v:Value):Option (DataW Value×List MemPlace):=some (.held v,[])
def bI (P:Program) (W:World) (k:TypeId) (b n:Nat) (get:Lit->Option Value):Prop:=
 ∃D:DataW Value,W.ownsMap P k i7 b n D/\(∀kl z,D.atKey kl (.held z)=.held ((get kl).getD z))/\∀kl,Maps.has D kl=(get kl).isSome
def dS (get:Lit->Option Value) (k:Lit) (v:Value):Lit->Option Value:=fun x=>if x.sameKey k=true then some v else get x
def xU (get:Lit->Option Value) (k:Lit):Lit->Option Value:=fun x=>if x.sameKey k=true then none else get x
section
variable {P:Program} {W W':World} {k t e:TypeId} {b n:Nat} {get:Lit->Option Value}
theorem bI.made (W:World):bI P (W.alloc (.map #[] 0)) k W.heap.size 0 (fun _=>none):=
 ⟨.map [],World.ownsMap_made W P k i7,fun _ _=>rfl,fun _=>rfl⟩
theorem bI.kept {row:Option Nat} (h:bI P W k b n get) (hg:W.grownBy W' row) (hne:some b≠row):bI P W' k b n get:=by
 obtain⟨D,h1,h2⟩:=h;exact⟨D,h1.kept hg hne,h2⟩
theorem gQ (h:Below W.heap.size W W'):W.grownBy W' none:=⟨h.os,h.tape,h.output,h.size,fun k hk _=>h.block k hk⟩
theorem bI.grow (h:bI P W k b n get) (hb:Below W.heap.size W W'):bI P W' k b n get:=h.kept (gQ hb) (by simp)
theorem bI.lt (h:bI P W k b n get):b<W.heap.size:=by
 obtain⟨D,h1,_⟩:=h;exact h1.lt
theorem bI.mono (h:bI P W k b n get) {n':Nat} (hn:n<=n'):bI P W k b n' get:=by
 obtain⟨D,h1,h2⟩:=h;exact⟨D,h1.mono hn,h2⟩
theorem bI.look (h:bI P W k b n get) (K:Keyed P k) (ht:P.underlying t=some (.map k e)) {z:Value} (hz:(zeroValue e).run P W=.ok z W) {key:Value} {kl:Lit} (hkey:keyOf P k key=some kl):
 (Instr.lookup t (.map (some b)) key false).run P W=.ok ((get kl).getD z) W:=by
 obtain⟨D,h1,h2,_⟩:=h;obtain⟨v,ps,hrun,hv⟩:=h1.lookup K ht hz (zd:=.held z) (zp:=[]) rfl hkey;rw[h2] at hv;simp only[i7,Option.some.injEq,Prod.mk.injEq] at hv;have:=hv.1;injection this with this
 rw[<-this];exact hrun
theorem bI.put (h:bI P W k b n get) (K:Keyed P k) (ht:P.underlying t=some (.map k e)) (hn:n<maxLen) {key val:Value} {kl:Lit} (hkey:keyOf P k key=some kl):
 ∃w',(Instr.mapUpdate t (.map (some b)) key val).run P W=.ok () w'/\bI P w' k b (n+1) (dS get kl val)/\W.grownBy w' (some b):=by
 obtain⟨D,h1,h2,h3⟩:=h;obtain⟨w',hrun,hown,hg⟩:=h1.update K ht hn (d:=.held val) (ps:=[]) hkey rfl;refine⟨w',hrun,⟨_,hown,fun x z=>?_,fun x=>?_⟩,hg⟩
 ·unfold dS;by_cases hx:x=kl
  ·subst hx;rw[if_pos (WideAt.sameKey_self (K.key hkey)),atKey_put_same h1.isMap (K.key hkey)];rfl
  ·rw[if_neg (by rw[sameKey_ne hx];simp),atKey_put_other hx];exact h2 x z
 ·unfold dS;by_cases hx:x=kl
  ·subst hx;rw[if_pos (WideAt.sameKey_self (K.key hkey)),has_put_same h1.isMap (K.key hkey)];rfl
  ·rw[if_neg (by rw[sameKey_ne hx];simp),has_put_other hx];exact h3 x
theorem eF {k:Lit} {v:Value} (hk:WideAt.IsKeyLit k):dS get k v k=some v:=by
 unfold dS;rw[if_pos (WideAt.sameKey_self hk)]
theorem ew {x k:Lit} {v:Value} (hne:x≠k):dS get k v x=get x:=by
 unfold dS;rw[if_neg (by rw[sameKey_ne hne];simp)]
theorem vN {ops:Array Oper} {rest:List Oper} {o:Oper} {a:Act} {Q:Exit->Act->World->Prop} (hg:o.guard=none) (m x v:Operand) (t:TypeId) (hop:o.op=Op.mapUpdate t m x v)
 (K:Keyed P k) (ht:P.underlying t=some (.map k e)) (hm:a.eval m=.map (some b)) (h:bI P W k b n get) (hn:n<maxLen) (key val:Value) (kl:Lit) (hx:a.eval x=key) (hv:a.eval v=val) (hkey:keyOf P k key=some kl)
 (hK:∀w',bI P w' k b (n+1) (dS get kl val)->W.grownBy w' (some b)->wpList P ops Q rest (a.put o.dst undef) w'):wpList P ops Q (o::rest) a W:=by
 refine wpList_plain hg fun K' hK'=>?_
 obtain⟨w',hrun,r1,r2⟩:=h.put K ht hn (val:=val) hkey;unfold Oper.wp;simp[execOp,hop,hm,hx,hv,hrun,Result.andThen];exact hK' _ _ (hK w' r1 r2)
end
open Go.RowKit Go.Maps
open Go.ChangeMaps (heap_setBlock_same)
open Go.WideElems (other_key)
def vj (W:World) (b:Nat) (key:Value) (s:Nat):Prop:=∃(es:Array MapEntry) (clock j:Nat) (e0:MapEntry),W.heap[b]? =some (.map es clock)/\es[j]? =some e0/\e0.key=key/\e0.born=s
theorem vj.kept {W W':World} {b s:Nat} {key:Value} {row:Option Nat} (h:vj W b key s) (hg:W.grownBy W' row) (hne:some b≠row):vj W' b key s:=by
 obtain⟨es,clock,j,e0,hb,h2⟩:=h;exact⟨es,clock,j,e0,(hg.block b (Array.getElem?_eq_some_iff.1 hb).1 hne).trans hb,h2⟩
theorem gZ {α:Type} (a:Array α) (j:Nat) (f:α->α) (x:α) (h:a[j]? =some x):a.modify j f=a.setIfInBounds j (f x):=by
 apply Array.toList_inj.1;rw[Array.toList_modify,Array.toList_setIfInBounds];exact Go.ChangeMaps.modify_eq_set f _ _ _ (by simpa using h)
section
variable {P:Program} {W W':World} {k t e:TypeId} {b n:Nat} {get:Lit->Option Value}
theorem bI.entry (h:bI P W k b n get) (K:Keyed P k) (ht:P.underlying t=some (.map k e)) (hn:n<maxLen) {z:Value} (hz:(zeroValue e).run P W=.ok z W) {key:Value} {kl:Lit} (hkey:keyOf P k key=some kl):
 ∃w' s,(Instr.mapEntry t (.map (some b)) key).run P W=.ok (.tuple #[(get kl).getD z,.int .i64 (s:Nat)]) w'/\bI P w' k b (n+1) (dS get kl ((get kl).getD z))/\W.grownBy w' (some b)/\vj w' b key s:=by
 have hl:=h.look K ht hz hkey;obtain⟨w',hrun,hm,hg⟩:=h.put K ht hn (val:=(get kl).getD z) hkey;obtain⟨D,⟨es,clock,hb,F,hs,rfl⟩,h2,h3⟩:=h;generalize (get kl).getD z=v at*
 rcases K.find W hkey es.toList F.keys with⟨h1,h2⟩ | ⟨j,e0,h1,h2,h3⟩
 ·simp[Instr.lookup,run_underlying ht,MapKept.run_getObj_map hb,K.check W _ hkey,h1,hz,Result.andThen] at hl;subst hl;simp[Instr.mapUpdate,run_underlying ht,MapKept.run_getObj_map hb,K.check W false hkey,h1,MapKept.run_setObj_map _ hb,Result.andThen] at hrun;refine⟨w',clock,?_,hm,hg,es.push ⟨key,z,clock⟩,clock+1,es.size,⟨key,z,clock⟩,?_,by simp,rfl,rfl⟩
  ·simp[Instr.mapEntry,run_underlying ht,MapKept.run_getObj_map hb,K.check W false hkey,h1,hz,MapKept.run_setObj_map _ hb,Result.andThen,goInt,hrun]
  ·rw[<-hrun];exact heap_setBlock_same hb _
 ·have hj:es[j]? =some e0:=by simpa using h2
  simp[Instr.lookup,run_underlying ht,MapKept.run_getObj_map hb,K.check W _ hkey,h1,Result.andThen] at hl;subst hl;simp[Instr.mapUpdate,run_underlying ht,MapKept.run_getObj_map hb,K.check W false hkey,h1,hj,h3,K.stays W hkey,MapKept.run_setObj_map _ hb,Result.andThen] at hrun;have e1:(es.modify j fun e=>{e with key:=key,val:=e0.val})=es.modify j fun e=>{e with key:=key}:=by
   rw[gZ _ _ _ _ hj,gZ _ _ _ _ hj]
  rw[e1] at hrun;refine⟨w',e0.born,?_,hm,hg,es.modify j fun e=>{e with key:=key},clock,j,{e0 with key:=key},?_,?_,rfl,rfl⟩
  ·simp[Instr.mapEntry,run_underlying ht,MapKept.run_getObj_map hb,K.check W false hkey,h1,hj,h3,K.stays W hkey,MapKept.run_setObj_map _ hb,Result.andThen,goInt,hrun]
  ·rw[<-hrun];exact heap_setBlock_same hb _
  ·have hjl:j<es.size:=(Array.getElem?_eq_some_iff.1 hj).1;rw[gZ _ _ _ _ hj];simp[hjl]
theorem bI.entryStore (h:bI P W k b n get) (K:Keyed P k) (ht:P.underlying t=some (.map k e)) (hn:n<maxLen) {key val:Value} {kl:Lit} {s:Nat} (hkey:keyOf P k key=some kl) (hp:vj W b key s):
 ∃w',(Instr.entryStore t (.map (some b)) (.int .i64 (s:Nat)) val).run P W=.ok () w'/\bI P w' k b (n+1) (dS get kl val)/\W.grownBy w' (some b):=by
 obtain⟨w',hrun,hm,hg⟩:=h.put K ht hn (val:=val) hkey;refine⟨w',?_,hm,hg⟩;obtain⟨D,⟨es,clock,hb,F,hs,rfl⟩,h2,h3⟩:=h;obtain⟨es',clock',j',e',hb',hj',hk',hs'⟩:=hp;rw[hb] at hb';injection hb' with hb'
 injection hb' with a1 a2
 subst a1 a2
 rcases K.find W hkey es.toList F.keys with⟨h1,h2⟩ | ⟨j,e0,h1,h2,h3⟩
 ·exact absurd hk' (h2 e' (List.mem_of_getElem? (by simpa using hj')))
 ·have hj:es[j]? =some e0:=by simpa using h2
  have hjl:j<es.toList.length:=(List.getElem?_eq_some_iff.1 h2).1;have hjj:j'=j:=by
   by_cases hne:j'=j
   ·exact hne
   ·exact absurd (hk'.trans h3.symm) (other_key F h2 (by simpa using hj') hne)
  subst hjj;rw[hj] at hj';injection hj' with hj'
  subst hj';have hfi:es.findIdx? (fun e=>(e.born:Int) == (s:Int))=some j':=by
   have hjs:j'<es.size:=(Array.getElem?_eq_some_iff.1 hj).1;have q0:es[j']=e0:=(Array.getElem?_eq_some_iff.1 hj).2;rw[Array.findIdx?_eq_some_iff_getElem];refine⟨hjs,by rw[q0,hs'];simp,fun i hi=>?_⟩;have hnd:=List.pairwise_iff_getElem.1 F.stamped.2.1 i j' (by simp;omega) (by simpa using hjs) hi;simp only[List.getElem_map,Array.getElem_toList] at hnd;rw[q0,hs'] at hnd;simp;omega
  simp[Instr.mapUpdate,run_underlying ht,MapKept.run_getObj_map hb,K.check W false hkey,h1,hj,h3,K.stays W hkey,MapKept.run_setObj_map _ hb,Result.andThen] at hrun;have e1:(es.modify j' fun e=>{e with key:=key,val:=val})=es.modify j' fun e=>{e with val:=val}:=by
   rw[gZ _ _ _ _ hj,gZ _ _ _ _ hj,<-h3]
  rw[e1] at hrun;simp[Instr.entryStore,MapKept.run_getObj_map hb,asInt,asIntOf,hfi,MapKept.run_setObj_map _ hb,Result.andThen];exact hrun
theorem iO {ops:Array Oper} {rest:List Oper} {o:Oper} {a:Act} {Q:Exit->Act->World->Prop} (hg:o.guard=none) (m x:Operand) (t:TypeId) (hop:o.op=Op.mapEntry t m x)
 (K:Keyed P k) (ht:P.underlying t=some (.map k e)) (hm:a.eval m=.map (some b)) (h:bI P W k b n get) (hn:n<maxLen) {z:Value} (hz:(zeroValue e).run P W=.ok z W) (key:Value) (kl:Lit) (hx:a.eval x=key) (hkey:keyOf P k key=some kl)
 (hK:∀w' (s:Nat),bI P w' k b (n+1) (dS get kl ((get kl).getD z))->W.grownBy w' (some b)->vj w' b key s->wpList P ops Q rest (a.put o.dst (.tuple #[(get kl).getD z,.int .i64 s])) w'):wpList P ops Q (o::rest) a W:=by
 refine wpList_plain hg fun K' hK'=>?_
 obtain⟨w',s,hrun,r1,r2,r3⟩:=h.entry K ht hn hz hkey;unfold Oper.wp;simp[execOp,hop,hm,hx,hrun,Result.andThen];exact hK' _ _ (hK w' s r1 r2 r3)
theorem eL {ops:Array Oper} {rest:List Oper} {o:Oper} {a:Act} {Q:Exit->Act->World->Prop} (hg:o.guard=none) (m x v:Operand) (t:TypeId) (hop:o.op=Op.entryStore t m x v)
 (K:Keyed P k) (ht:P.underlying t=some (.map k e)) (hm:a.eval m=.map (some b)) (h:bI P W k b n get) (hn:n<maxLen) (s:Nat) (hx:a.eval x=.int .i64 s) (val:Value) (hv:a.eval v=val) (key:Value) (kl:Lit) (hkey:keyOf P k key=some kl) (hp:vj W b key s)
 (hK:∀w',bI P w' k b (n+1) (dS get kl val)->W.grownBy w' (some b)->wpList P ops Q rest (a.put o.dst undef) w'):wpList P ops Q (o::rest) a W:=by
 refine wpList_plain hg fun K' hK'=>?_
 obtain⟨w',hrun,r1,r2⟩:=h.entryStore K ht hn (val:=val) hkey hp;unfold Oper.wp;simp[execOp,hop,hm,hx,hv,hrun,Result.andThen];exact hK' _ _ (hK w' r1 r2)
end
open Go.RowKit Go.Maps
def cu (P:Program) (W:World) (k:TypeId) (b r n:Nat) (get:Lit->Option Value) (left:Lit->Bool) (cnt:Nat):Prop:=
 ∃D:DataW Value,W.ranges P k i7 b r n D left cnt/\∀kl z,D.atKey kl (.held z)=.held ((get kl).getD z)
section
variable {P:Program} {W W':World} {k t e:TypeId} {b r n cnt:Nat} {get:Lit->Option Value} {left:Lit->Bool}
theorem cu.kept {row:Option Nat} (h:cu P W k b r n get left cnt) (hg:W.grownBy W' row) (hb:some b≠row) (hr:some r≠row):cu P W' k b r n get left cnt:=by
 obtain⟨D,h1,h2⟩:=h;exact⟨D,h1.kept hg hb hr,h2⟩
theorem cu.grow (h:cu P W k b r n get left cnt) (hb:Below W.heap.size W W'):cu P W' k b r n get left cnt:=h.kept (gQ hb) (by simp) (by simp)
theorem gK {ops:Array Oper} {rest:List Oper} {o:Oper} {a:Act} {Q:Exit->Act->World->Prop} (hg:o.guard=none) (m:Operand) (t:TypeId) (hop:o.op=Op.range t m)
 (K:Keyed P k) (ht:P.underlying t=some (.map k e)) (hm:a.eval m=.map (some b)) (h:bI P W k b n get)
 (hK:∀w' cnt,cu P w' k b W.heap.size n get (fun kl=>(get kl).isSome) cnt->W.grownBy w' none->w'.heap.size=W.heap.size+1->wpList P ops Q rest (a.put o.dst (.pointer (some ⟨W.heap.size,0,none⟩))) w'):wpList P ops Q (o::rest) a W:=by
 obtain⟨D,h1,h2,h3⟩:=h;refine wpList_range_own W hg m t hop k e K ht i7 b n D hm h1 ?_;intro w' hr hg' hs;have e1:Maps.has D=fun kl=>(get kl).isSome :=funext h3
 rw[e1] at hr;exact hK w' _ ⟨D,hr,h2⟩ hg' hs
theorem fE {ops:Array Oper} {rest:List Oper} {o:Oper} {a:Act} {Q:Exit->Act->World->Prop} (hg:o.guard=none) (it:Operand) (hop:o.op=Op.next it false) (K:Keyed P k)
 (hit:a.eval it=.pointer (some ⟨r,0,none⟩)) (h:cu P W k b r n get left cnt) (hl:∀kl,left kl=true->(get kl).isSome =true)
 (hDone:(∀kl,left kl=false)->wpList P ops Q rest (a.put o.dst (.tuple #[.bool false])) W)
 (hMore:∀(key v:Value) (kl:Lit) (w':World) (cnt':Nat),keyOf P k key=some kl->left kl=true->get kl=some v->cu P w' k b r n get (fun z=>left z && !z.sameKey kl) cnt'->cnt'<cnt->
  W.grownBy w' (some r)->w'.heap.size=W.heap.size->(Instr.entry (.pointer (some ⟨r,0,none⟩))).run P w'=.ok (.tuple #[key,v]) w'->wpList P ops Q rest (a.put o.dst (.tuple #[.bool true,key,v])) w'):wpList P ops Q (o::rest) a W:=by
 obtain⟨D,h1,h2⟩:=h;refine wpList_next_ranges (α:=Value) (β:=Value) W hg it hop k K i7 id id (fun key kl _=>⟨key,rfl⟩) (fun v y _=>⟨v,rfl⟩) b r n D left cnt hit h1 (fun _ h=>hDone h) ?_;intro x c kl y w' cnt' hkey hlk hv hat hr hlt hgr hsz hen;refine hMore x c kl w' cnt' hkey hlk ?_ ⟨D,hr,h2⟩ hlt hgr hsz hen;have hs:=hl kl hlk;obtain⟨u,hu⟩:=Option.isSome_iff_exists.1 hs;have h4:=hat (.held undef);rw[h2,hu] at h4;simp only[i7,Option.some.injEq] at hv;rw[<-hv] at h4;simp at h4;rw[hu,h4]
end
end Go.Proofs.YtcclpdfmmdonpaaGreat
