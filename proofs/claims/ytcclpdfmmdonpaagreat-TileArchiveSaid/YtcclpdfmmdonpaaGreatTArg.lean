/- Texts of the seat Yteanlcefdoigcaa, turned to this one by wip/port.py: Args LawKit. -/
import Derived.Test.YtcclpdfmmdonpaaGreatTBas
import Derived.OpenShut
import Derived.Deep.Slices
import GoSem.Claim
import GoSem.ClaimJoined
import Derived.SizedLaws
import Derived.Carry
namespace Go.Proofs.YtcclpdfmmdonpaaGreat
open Go.RowKit
def dP (P:Program) (F:TypeId->Option (List (Option IntKind))):Nat->List Field->Option (List (Option IntKind))
 |_,[]=>some []
 |off,f::fs=>
  match F f.type with
  |some ks=>if f.offset=off/\(f.name == "_")=false/\(P.info? f.type).map (·.size)=some ks.length/\0<ks.length then(dP P F (off+ks.length) fs).map (ks++·) else none
  |none=>none
def cA (P:Program):Nat->TypeId->Option (List (Option IntKind))
 |0,_=>none
 |f+1,t=>
  match P.underlying t with
  |some (.int k)=>some [some k]
  |some .bool =>some [none]
  |some (.struct fs)=>if P.stoodInHeld t=false then dP P (cA P f) 0 fs.toList else none
  |some (.array n e)=>
   match cA P f e with
   |some ks=>if(P.info? e).map (·.size)=some ks.length/\0<ks.length then some (List.replicate n ks).flatten else none
   |none=>none
  |_=>none
def pV:Option IntKind->Value->Bool
 |some k,.int k' _=>k == k'
 |none,.bool _=>true
 |_,_=>false
def ef:List (Option IntKind)->List Value->Bool
 | [],[]=>true
 |k::ks,v::vs=>pV k v && ef ks vs
 |_,_=>false
def oq:Value->Value->Bool
 | .int _ a,.int _ b=>a == b
 | .bool a,.bool b=>a == b
 |_,_=>false
def cD:List Value->List Value->Bool
 | [],[]=>true
 |x::xs,y::ys=>oq x y && cD xs ys
 |_,_=>false
theorem cq:∀{ks:List (Option IntKind)} {vs:List Value},ef ks vs=true->vs.length=ks.length
 | [],[],_=>rfl
 |_::ks,_::vs,h=>by
  simp only[ef,Bool.and_eq_true] at h;simp[cq h.2]
 | [],_::_,h=>by simp[ef] at h
 |_::_,[],h=>by simp[ef] at h
theorem fu:∀{ks ls:List (Option IntKind)} {vs:List Value},ef (ks++ls) vs=true->ef ks (vs.take ks.length)=true/\ef ls (vs.drop ks.length)=true
 | [],ls,vs,h=>by simpa[ef] using h
 |k::ks,ls,[],h=>by simp[ef] at h
 |k::ks,ls,v::vs,h=>by
  simp only[List.cons_append,ef,Bool.and_eq_true] at h;have:=fu h.2;simp[ef,h.1,this]
theorem iw:∀{a b c d:List Value},a.length=c.length->cD (a++b) (c++d)=(cD a c && cD b d)
 | [],b,[],d,_=>by simp[cD]
 |x::a,b,y::c,d,h=>by
  have:=iw (a:=a) (b:=b) (c:=c) (d:=d) (by simpa using h);simp[cD,this,Bool.and_assoc]
 | [],_,_::_,_,h=>by simp at h
 |_::_,_,[],_,h=>by simp at h
def fj (P:Program) (t:TypeId) (l:List Value):Value:=
 match P.underlying t with
 |some (.struct _) |some (.array _ _)=>.agg l.toArray
 |_=>l.headD undef
section
variable {P:Program}
theorem jT {t:TypeId} {n:Nat} (hs:(P.info? t).map (·.size)=some n) (w:World):(sizeOf t).run P w=.ok n w:=by
 cases hq:P.info? t with
 |none=>simp[hq] at hs
 |some i=>simp[hq] at hs;simp[sizeOf,typeInfo,hq,hs]
theorem lh {t:TypeId} {n:Nat} (hs:(P.info? t).map (·.size)=some n) (hu:(P.underlying t).isSome =true) (hn:(∀fs,P.underlying t≠some (.struct fs))->(∀m e,P.underlying t≠some (.array m e))->n=1)
 (l:List Value) (off:Nat) (ho:off+n<=l.length) (w:World):(part t l.toArray off).run P w=.ok (fj P t ((l.drop off).take n)) w:=by
 obtain⟨d,hd⟩:=Option.isSome_iff_exists.1 hu;have hplain:(∀fs,d≠.struct fs)->(∀m e,d≠.array m e)->(part t l.toArray off).run P w=.ok (fj P t ((l.drop off).take n)) w:=by
  intro h1 h2;have hn1:n=1:=hn (fun fs h=>h1 fs (by rw[hd] at h;exact Option.some.inj h)) (fun m e h=>h2 m e (by rw[hd] at h;exact Option.some.inj h));subst hn1;have hlt:off<l.length:=by omega
  have e1:(isAgg t).run P w=.ok false w:=by
   cases d<;>simp_all[isAgg,run_underlying hd]
  have e2:fj P t ((l.drop off).take 1)=l[off]:=by
   have:(l.drop off).take 1=[l[off]]:=by rw[List.drop_eq_getElem_cons hlt];rfl
   cases d<;>simp_all[fj]
  simp[part,e1,hlt,e2]
 cases d with
 |struct fs=>
  have e1:(isAgg t).run P w=.ok true w:=by simp[isAgg,run_underlying hd]
  simp[part,e1,jT hs,fj,hd]
 |array m e=>
  have e1:(isAgg t).run P w=.ok true w:=by simp[isAgg,run_underlying hd]
  simp[part,e1,jT hs,fj,hd]
 |_=>exact hplain (by simp) (by simp)
theorem mf {f:Nat} {t:TypeId} {ks:List (Option IntKind)} (h:cA P f t=some ks):
 (P.underlying t).isSome =true/\((∀fs,P.underlying t≠some (.struct fs))->(∀m e,P.underlying t≠some (.array m e))->ks.length=1):=by
 cases f with
 |zero=>simp[cA] at h
 |succ f=>
  simp only[cA] at h
  split at h
  ·rename_i k hk;simp at h;subst h;exact⟨by simp[hk],fun _ _=>rfl⟩
  ·rename_i hk;simp at h;subst h;exact⟨by simp[hk],fun _ _=>rfl⟩
  ·rename_i fs hk;exact⟨by simp[hk],fun h1 _=>absurd hk (h1 fs)⟩
  ·rename_i n e hk;exact⟨by simp[hk],fun _ h2=>absurd hk (h2 n e)⟩
  ·simp at h
theorem kW {f d:Nat} {w:World}
 (ih:∀(t:TypeId) (ks:List (Option IntKind)),cA P f t=some ks->∀xs ys:List Value,ef ks xs=true->ef ks ys=true->(Op.equalIn d t (fj P t xs) (fj P t ys)).run P w=.ok (cD xs ys) w)
 (xs ys:List Value) (hl:xs.length=ys.length):∀(fs:List Field) (off:Nat) (ks:List (Option IntKind)),dP P (cA P f) off fs=some ks->ef ks (xs.drop off)=true->ef ks (ys.drop off)=true->
  (Op.eqFields d xs.toArray ys.toArray fs).run P w=.ok (cD (xs.drop off) (ys.drop off)) w
 | [],off,ks,h,h1,h2=>by
  simp[dP] at h;subst h;have e1:=cq h1;have e2:=cq h2;rw[List.length_eq_zero_iff.1 e1,List.length_eq_zero_iff.1 e2];simp[Op.eqFields,cD]
 |fd::fs,off,ks,h,h1,h2=>by
  simp only[dP] at h
  split at h
  ·rename_i k1 hk1
   split at h
   ·rename_i hc
    obtain⟨hoff,hname,hsz,hpos⟩:=hc;rw[Option.map_eq_some_iff] at h;obtain⟨k2,hk2,rfl⟩:=h;obtain⟨a1,a2⟩:=fu h1;obtain⟨b1,b2⟩:=fu h2;rw[List.drop_drop] at a2 b2;obtain⟨hu,hn⟩:=mf hk1;have l1:=cq a1;have l2:=cq b1;simp only[List.length_take,List.length_drop] at l1 l2;have hne:(fd.name≠ "_"):=by simpa using hname
    simp only[Op.eqFields,hne,ne_eq,not_false_eq_true,if_true,Sem.run_bind,hoff];rw[lh hsz hu hn xs off (by omega)];simp only[Result.andThen_ok];rw[lh hsz hu hn ys off (by omega)];simp only[Result.andThen_ok];rw[ih fd.type k1 hk1 _ _ a1 b1];simp only[Result.andThen_ok];have key:cD (xs.drop off) (ys.drop off)=(cD ((xs.drop off).take k1.length) ((ys.drop off).take k1.length) && cD (xs.drop (off+k1.length)) (ys.drop (off+k1.length))):=by
     rw[<-iw (by simp[hl])];rw[<-List.drop_drop,<-List.drop_drop,List.take_append_drop,List.take_append_drop]
    rw[key]
    cases hsame:cD ((xs.drop off).take k1.length) ((ys.drop off).take k1.length)
    ·simp
    ·simp only[Bool.not_true,Bool.false_eq_true,if_false,Bool.true_and];exact kW ih xs ys hl fs _ k2 hk2 a2 b2
   ·simp at h
  ·simp at h
theorem kV {d:Nat} {w:World} {e:TypeId} {ks:List (Option IntKind)} (hpos:0<ks.length) (hsz:(P.info? e).map (·.size)=some ks.length) (hu:(P.underlying e).isSome =true)
 (hn:(∀fs,P.underlying e≠some (.struct fs))->(∀m e',P.underlying e≠some (.array m e'))->ks.length=1)
 (ih:∀xs ys:List Value,ef ks xs=true->ef ks ys=true->(Op.equalIn d e (fj P e xs) (fj P e ys)).run P w=.ok (cD xs ys) w)
 (xs ys:List Value) (hl:xs.length=ys.length):∀(n i:Nat),ef (List.replicate n ks).flatten (xs.drop (i*ks.length))=true->ef (List.replicate n ks).flatten (ys.drop (i*ks.length))=true->
  (forIn (m:=Sem) (List.range' i n) ((none,()):Option Bool×Unit) (fun i _=>do
   let a <-part e xs.toArray (i*ks.length);let b <-part e ys.toArray (i*ks.length);let r <-Op.equalIn d e a b
   if(!r)=true then pure (ForInStep.done (some false,())) else pure (ForInStep.yield (none,())))).run P w=
  .ok (if cD (xs.drop (i*ks.length)) (ys.drop (i*ks.length)) then(none,()) else(some false,())) w
 |0,i,h1,h2=>by
  have e1:=cq h1;have e2:=cq h2;simp only[List.replicate_zero,List.flatten_nil,List.length_nil] at e1 e2;rw[List.length_eq_zero_iff.1 e1,List.length_eq_zero_iff.1 e2];simp[cD]
 |n+1,i,h1,h2=>by
  rw[List.replicate_succ,List.flatten_cons] at h1 h2;obtain⟨a1,a2⟩:=fu h1;obtain⟨b1,b2⟩:=fu h2;have hmul:i*ks.length+ks.length=(i+1)*ks.length:=by rw[Nat.succ_mul]
  rw[List.drop_drop,hmul] at a2 b2;have l1:=cq a1;have l2:=cq b1;simp only[List.length_take,List.length_drop] at l1 l2;simp only[List.range'_succ,List.forIn_cons,Sem.run_bind]
  ·rw[lh hsz hu hn xs _ (by omega)];simp only[Result.andThen_ok];rw[lh hsz hu hn ys _ (by omega)];simp only[Result.andThen_ok];rw[ih _ _ a1 b1];simp only[Result.andThen_ok];have key:cD (xs.drop (i*ks.length)) (ys.drop (i*ks.length))=
    (cD ((xs.drop (i*ks.length)).take ks.length) ((ys.drop (i*ks.length)).take ks.length) && cD (xs.drop ((i+1)*ks.length)) (ys.drop ((i+1)*ks.length))):=by
    rw[<-iw (by simp[hl]),<-hmul];rw[<-List.drop_drop,<-List.drop_drop,List.take_append_drop,List.take_append_drop]
   rw[key]
   cases hsame:cD ((xs.drop (i*ks.length)).take ks.length) ((ys.drop (i*ks.length)).take ks.length)
   ·simp
   ·simp only[Bool.not_true,Bool.false_eq_true,if_false,Bool.true_and,Sem.run_pure,Result.andThen_ok];exact kV hpos hsz hu hn ih xs ys hl n (i+1) a2 b2
theorem jp (w:World):∀(f:Nat) (t:TypeId) (ks:List (Option IntKind)),cA P f t=some ks->∀d,f<=d->∀xs ys:List Value,ef ks xs=true->ef ks ys=true->
 (Op.equalIn d t (fj P t xs) (fj P t ys)).run P w=.ok (cD xs ys) w
 |0,t,ks,h,_,_,_,_,_,_=>by simp[cA] at h
 |f+1,t,ks,h,d,hd,xs,ys,h1,h2=>by
  obtain⟨d,rfl⟩:∃d',d=d'+1:=⟨d-1,by omega⟩;have ih:=fun t ks h=>jp w f t ks h d (by omega)
  have l1:=cq h1;have l2:=cq h2;simp only[cA] at h
  split at h
  ·rename_i k hk
   simp at h;subst h
   match xs,ys,h1,h2 with
   | [x],[y],h1,h2=>
    cases x<;>simp[ef,pV] at h1
    cases y<;>simp[ef,pV] at h2
    subst h1;subst h2;simp[fj,hk,Op.equalIn,run_underlying hk,cD,oq]
  ·rename_i hk
   simp at h;subst h
   match xs,ys,h1,h2 with
   | [x],[y],h1,h2=>
    cases x<;>simp[ef,pV] at h1
    cases y<;>simp[ef,pV] at h2
    simp[fj,hk,Op.equalIn,run_underlying hk,cD,oq]
  ·rename_i fs hk
   split at h
   ·rename_i hst
    have hf:P.underlying t=some (.struct (P.fieldsOf t)):=by simp[Program.fieldsOf,hk]
    have e:=run_equalIn_struct (P:=P) w d t xs.toArray ys.toArray hf hst;have hff:P.fieldsOf t=fs:=by simp[Program.fieldsOf,hk]
    rw[hff] at e;simp only[fj,hk];rw[e,kW ih xs ys (by omega) fs.toList 0 ks h (by simpa using h1) (by simpa using h2)];simp
   ·simp at h
  ·rename_i n e hk
   split at h
   ·rename_i k1 hk1
    split at h
    ·rename_i hc
     obtain⟨hsz,hpos⟩:=hc;simp at h;subst h;obtain⟨hu,hn⟩:=mf hk1;have hr:=kV hpos hsz hu hn (ih e k1 hk1) xs ys (by omega) n 0 (by simpa using h1) (by simpa using h2);simp only[fj,hk];rw[Op.equalIn];simp only[Sem.run_bind,run_underlying hk,Result.andThen_ok,jT hsz];simp only[Std.Legacy.Range.forIn_eq_forIn_range',Std.Legacy.Range.size];simp only[Nat.sub_zero,Nat.add_sub_cancel,Nat.div_one];rw[hr];simp only[Nat.zero_mul,List.drop_zero,Result.andThen_ok]
     cases cD xs ys<;>simp
    ·simp at h
   ·simp at h
  ·simp at h
theorem dU {t:TypeId} {fs:Array Field} {ks:List (Option IntKind)} (hu:P.underlying t=some (.struct fs)) (h:cA P 10 t=some ks) (xs ys:List Value) (h1:ef ks xs=true) (h2:ef ks ys=true) (W:World):
 (Op.equalIn 10000 t (.agg xs.toArray) (.agg ys.toArray)).run P W=.ok (cD xs ys) W:=by
 have:=jp W 10 t ks h 10000 (by omega) xs ys h1 h2;simpa only[fj,hu] using this
theorem kw:∀{ks:List (Option IntKind)} {l:List Value},ef ks l=true->cD l l=true
 | [],[],_=>rfl
 |k::ks,v::l,h=>by
  simp only[ef,Bool.and_eq_true] at h;have h1:=kw h.2
  cases v<;>cases k<;>simp_all[pV,cD,oq]
 | [],_::_,h=>by simp[ef] at h
 |_::_,[],h=>by simp[ef] at h
def tD (l:List Int):List Value:=l.map (Value.int .i64)
theorem jY:∀{a b:List Int},a.length=b.length->cD (tD a) (tD b)=(a == b)
 | [],[],_=>rfl
 |x::a,y::b,h=>by
  have h1:=jY (a:=a) (b:=b) (by simpa using h);simp only[tD] at h1;simp[tD,cD,oq,h1]
 | [],_::_,h=>by simp at h
 |_::_,[],h=>by simp at h
end
open Go.ChangeShapes Go.WideShapes Go.ChangeAt Go.RowKit
def cN:List (Option IntKind)->List Value->Prop
 | [],[]=>True
 |some k::ks,v::vs=>(∃n,v=.int k n/\(Lit.int k n).wf =true)/\cN ks vs
 |none::ks,v::vs=>(∃b,v=.bool b)/\cN ks vs
 |_,_=>False
theorem cN.append:∀{ks ls:List (Option IntKind)} {vs us:List Value},cN ks vs->cN ls us->cN (ks++ls) (vs++us)
 | [],ls,[],us,_,h=>h
 |some k::ks,ls,v::vs,us,h,h'=>⟨h.1,cN.append h.2 h'⟩
 |none::ks,ls,v::vs,us,h,h'=>⟨h.1,cN.append h.2 h'⟩
 | [],_,_::_,_,h,_=>by simp[cN] at h
 |some _::_,_,[],_,h,_=>by simp[cN] at h
 |none::_,_,[],_,h,_=>by simp[cN] at h
theorem fQ {k:IntKind} {ks:List (Option IntKind)} {cs:List Value} (h:cN (some k::ks) cs):∃n vs,cs=.int k n::vs/\(Lit.int k n).wf =true/\cN ks vs:=by
 cases cs with
 |nil=>simp[cN] at h
 |cons v vs=>
  obtain⟨⟨n,rfl,hw⟩,h2⟩:=h;exact⟨n,vs,rfl,hw,h2⟩
theorem AH {cs:List Value} (h:cN [] cs):cs=[]:=by
 cases cs with
 |nil=>rfl
 |cons v vs=>simp[cN] at h
section
variable {H:Type} {enc:TypeId×Value->H} {P:Program} {w:World} {base:Nat} {spare:Nat->Bool} {held:Bool}
theorem jZ {t:TypeId} {n:Nat} (h:(P.info? t).map (·.size)=some n):P.cellsOf t=n:=by simp[Program.cellsOf,h]
theorem mg {f n:Nat} (ih:∀(t:TypeId) (ks:List (Option IntKind)) (cs:List Value) (x:DataW H×List MemPlace),cA P f t=some ks->cs.length=ks.length->DataW.trod enc P w base spare held n t cs=some x->cN ks cs)
 (cs:List Value):∀(fs:List Field) (off:Nat) (ks:List (Option IntKind)),dP P (cA P f) off fs=some ks->cs.length=off+ks.length->
  (∀fd∈fs,∃y,DataW.trod enc P w base spare held n fd.type ((cs.drop fd.offset).take (P.cellsOf fd.type))=some y)->cN ks (cs.drop off)
 | [],off,ks,h,hl,_=>by
  simp[dP] at h;subst h;rw[List.drop_eq_nil_of_le (by simp at hl;omega)];trivial
 |fd::fs,off,ks,h,hl,hall=>by
  simp only[dP] at h
  split at h
  ·rename_i k1 hk1
   split at h
   ·rename_i hc
    obtain⟨hoff,hname,hsz,hpos⟩:=hc;rw[Option.map_eq_some_iff] at h;obtain⟨k2,hk2,rfl⟩:=h;simp only[List.length_append] at hl;obtain⟨y,hy⟩:=hall fd (by simp);rw[hoff,jZ hsz] at hy;have h1:=ih fd.type k1 _ y hk1 (by simp;omega) hy;have h2:=mg ih cs fs (off+k1.length) k2 hk2 (by omega) (fun g hg=>hall g (by simp[hg]));have:=h1.append h2;rwa[<-List.drop_drop,List.take_append_drop] at this
   ·simp at h
  ·simp at h
theorem mi {f n:Nat} {e:TypeId} {ks:List (Option IntKind)} (hsz:(P.info? e).map (·.size)=some ks.length)
 (ih:∀(cs:List Value) (x:DataW H×List MemPlace),cs.length=ks.length->DataW.trod enc P w base spare held n e cs=some x->cN ks cs)
 (cs:List Value):∀(m i:Nat),cs.length=(i+m)*ks.length->(∀j,i<=j->j<i+m->∃y,DataW.trod enc P w base spare held n e ((cs.drop (j*P.cellsOf e)).take (P.cellsOf e))=some y)->
  cN (List.replicate m ks).flatten (cs.drop (i*ks.length))
 |0,i,hl,_=>by
  rw[List.drop_eq_nil_of_le (by simp at hl;omega)];trivial
 |m+1,i,hl,hall=>by
  obtain⟨y,hy⟩:=hall i (by omega) (by omega);rw[jZ hsz] at hy;have hmul:i*ks.length+ks.length=(i+1)*ks.length:=by rw[Nat.succ_mul]
  have hle:(i+1)*ks.length<=(i+(m+1))*ks.length:=Nat.mul_le_mul_right _ (by omega);have h1:=ih _ y (by simp;omega) hy;have h2:=mi (f:=f) hsz ih cs m (i+1) (by rw[hl];congr 1;omega) (fun j h1 h2=>hall j (by omega) (by omega));have:=h1.append h2;rw[<-hmul,<-List.drop_drop,List.take_append_drop] at this;rw[List.replicate_succ,List.flatten_cons];exact this
theorem fH:∀(f:Nat) (t:TypeId) (ks:List (Option IntKind)) (n:Nat) (cs:List Value) (x:DataW H×List MemPlace),cA P f t=some ks->cs.length=ks.length->
 DataW.trod enc P w base spare held n t cs=some x->cN ks cs
 |0,t,ks,n,cs,x,h,_,_=>by simp[cA] at h
 |f+1,t,ks,n,cs,x,h,hl,hx=>by
  have ih:=fun t ks n cs x=>fH f t ks n cs x
  simp only[cA] at h
  split at h
  ·rename_i k hk
   simp at h;subst h;obtain⟨z,rfl,_,hw⟩:=DataW.trod_int hk hx;exact⟨⟨z,rfl,hw⟩,trivial⟩
  ·rename_i hk
   simp at h;subst h;obtain⟨b,rfl,_⟩:=DataW.trod_bool hk hx;exact⟨⟨b,rfl⟩,trivial⟩
  ·rename_i fs hk
   split at h
   ·obtain⟨xs,m,_,_,_,hxl,hf⟩:=DataW.trod_struct hk hx
    have:=mg (fun t ks cs x=>ih t ks m cs x) cs fs.toList 0 ks h (by omega) (fun fd hfd=>by
     obtain⟨j,hj,rfl⟩:=List.getElem_of_mem hfd;have hj':j<fs.size:=by simpa using hj
     have h1:=hf j fs[j] (by simp[hj']);rw[List.getElem?_eq_getElem (by omega)] at h1
     exact⟨_,by simpa using h1⟩)
    simpa using this
   ·simp at h
  ·rename_i m e hk
   split at h
   ·rename_i k1 hk1
    split at h
    ·rename_i hc
     simp at h;subst h;obtain⟨xs,n',_,_,_,hxl,hf⟩:=DataW.trod_array hk hx
     have:=mi (f:=f) hc.1 (fun cs x=>ih e k1 n' cs x hk1) cs m 0 (by simp at hl;simpa using hl) (fun j _ hj=>by
      have h1:=hf j (by omega);rw[List.getElem?_eq_getElem (by omega)] at h1
      exact⟨_,h1⟩)
     simpa using this
    ·simp at h
   ·simp at h
  ·simp at h
end
open Go.ChangeShapes Go.WideShapes Go.ChangeAt Go.RowKit Go.Deep
section
variable {H:Type} {enc:TypeId×Value->H} {P:Program} {w:World} {base:Nat} {spare:Nat->Bool} {held:Bool}
theorem xx {w:World} {b o:Nat} {v:Value} (h:w.cell? ⟨b,o,none⟩=some v):b<w.heap.size:=by
 unfold World.cell? at h
 split at h
 ·rename_i hx;exact(Array.getElem?_eq_some_iff.1 hx).1
 ·simp at h
def rows (w:World) (b off sz n:Nat) (ks:List (Option IntKind)):Prop:=
 ∀i,i<n->∃cs:List Value,cN ks cs/\∀j v,cs[j]? =some v->w.cell? ⟨b,off+i*sz+j,none⟩=some v
end
open Go.ChangeShapes Go.WideShapes Go.ChangeAt Go.RowKit
section
variable {H:Type} {enc:TypeId×Value->H}
theorem jM {P:Program} (hl:laidOutB P=true) {W W':World} (hb:Below W.heap.size W W'):
 ∀{ts:List TypeId} {vs:List Value} {ds:List (DataW H)} {ps:List MemPlace},(∀t∈ts,P.readableRec t=true/\t<P.types.size)->
  DataW.TrodAll enc P W 0 (fun _=>true) true ts vs ds ps->(∀x∈ps,x.block<W.heap.size)->
  DataW.TrodAll enc P W' 0 (fun b=>decide (b<W.heap.size)) true ts vs ds ps
 | [],[],[],_,_,h,_=>h
 |t::ts,v::vs,d::ds,ps,hr,h,hlt=>by
  obtain⟨p,q,h1,h2,rfl⟩:=h;have hrt:=hr t (by simp)
  exact⟨p,q,Below.trod hl hrt.1 hrt.2 h1 hb (fun x hx=>hlt x (by simp[hx])),
   jM hl hb (fun t ht=>hr t (by simp[ht])) h2 (fun x hx=>hlt x (by simp[hx])),rfl⟩
 | [],[],_::_,_,_,h,_=>h.elim
 | [],_::_,_,_,_,h,_=>h.elim
 |_::_,[],_,_,_,h,_=>h.elim
 |_::_,_::_,[],_,_,h,_=>h.elim
theorem je {P:Program} {w:World} {base:Nat} {sp:Nat->Bool} {hd:Bool} :∀{ts:List TypeId} {vs:List Value} {ds:List (DataW H)} {ps:List MemPlace},
 DataW.TrodAll enc P w base sp hd ts vs ds ps->vs.length=ts.length/\ds.length=ts.length
 | [],[],[],_,_=>⟨rfl,rfl⟩
 |_::ts,_::vs,_::ds,_,h=>by
  obtain⟨p,q,_,h2,_⟩:=h;have:=je h2;simp[this.1,this.2]
 | [],[],_::_,_,h=>h.elim
 | [],_::_,_,_,h=>h.elim
 |_::_,[],_,_,h=>h.elim
 |_::_,_::_,[],_,h=>h.elim
theorem ve {C:Checked} {os:Os} {f:FuncId} {fn:Func} {s:ChangeSpec} {tb:TypeId} (own:ownKnob C.prog.godebug=none) (started:os.Started)
 (noInit:C.prog.inits.idxOf? f=none) (hfn:C.prog.funcs[f]? =some fn) (hvars:s.vars=[])
 (hs:∀(ds:List (DataW H)),ds.length=fn.params.size->(s.fn H ds).results =[.lit (.bool true)]/\(s.fn H ds).args =ds/\(s.fn H ds).vars =[])
 (hres:fn.resultTypes= #[tb]) (htb:C.prog.underlying tb=some .bool) (hl:laidOutB C.prog=true)
 (hread:∀t∈fn.params.toList,C.prog.readableRec t=true/\t<C.prog.types.size)
 (witness:∃(w:World) (tape:Tape) (i:Input),w.os=os/\(w.forCall tape i).Shaped C.prog/\i.vars=[]/\Input.okWide C.prog (w.forCall tape i) .any w.heap.size f i/\
  s.pre6 enc C.prog fn [] false (w.forCall tape i).memory i.args/\({} :Assume).holds C.prog (lone (Frame.enter C.prog f i.args .normal) [] (w.forCall tape i)))
 (walk:∀(W:World) (base:Nat) (args:Array Value) (ds:List (DataW H)) (p:List MemPlace),
  (∀(j:Nat) t v,fn.params[j]? =some t->args[j]? =some v->Value.okWide C.prog W .any base t v)->
  DataW.TrodAll enc C.prog W 0 (fun _=>true) true fn.params.toList args.toList ds p->
  (∀x∈p,x.block<W.heap.size)->
  (DataW.weightsEach C.prog fn.params.toList ds).all (· <=reachBytes)=true->
  Calls C.prog f args W fun e W'=>e=.returned (.bool true)/\Below W.heap.size W W'):
 ReturnsInHanded {} C os f .any (s.pre6 enc C.prog fn [] false) (s.post enc C.prog fn false true false false):=by
 refine returnsInHanded_of_change_sized own started noInit hfn witness ?_;intro W base args ds gs before hval hW _ hsz _;have hW':=hW;obtain⟨p,q,hA,hV,rfl,hfz,hnd⟩:=hW;rw[hvars] at hV;obtain⟨rfl,rfl⟩:gs=[]/\q=[]:=by
  cases gs with
  |nil=>exact⟨rfl,hV⟩
  |cons g gs=>exact hV.elim
 have hvt:s.plain.varTypes C.prog=[]:=by simp[DataSpec.varTypes,ChangeSpec.plain,hvars]
 rw[hvt] at hsz;simp only[List.append_nil] at hsz hW';have hlt:∀x∈p,x.block<W.heap.size:=fun x hx=>by simpa using hW'.lt x hx
 refine(walk W base args ds p hval hA hlt hsz).mono fun e W' ⟨he,hb⟩=>?_
 subst he;have hlen:ds.length=fn.params.size:=by have:=(je hA).2;simpa using this
 obtain⟨h1,h2,h3⟩:=hs ds hlen;refine⟨_,rfl,ds,[],p,[],p,[],hW',?_,?_,?_,hb.frame _,fun h=>by cases h⟩
 ·rw[List.append_nil,h1,hres];exact trodAll_cons_mk (shut_bool htb _) trodAll_mk0
 ·rw[List.append_nil,h2];exact jM hl hb hread hA hlt
 ·rw[List.append_nil,h3,hvars];rfl
end
open Go.ChangeShapes Go.WideShapes Go.ChangeAt Go.RowKit
theorem Hc:ownKnob Tryz.prog.godebug=none:=by kernel_rfl
theorem Ez:laidOutB Tryz.prog=true:=by kernel_rfl
theorem tJ:∀{n:Nat} {cs:List Value},cN (List.replicate n (some .i64)) cs->∃zs:List Int,zs.length=n/\cs=zs.map (Value.int .i64)
 |0,cs,h=>⟨[],rfl,AH h⟩
 |n+1,cs,h=>by
  obtain⟨z,vs,rfl,_,h2⟩:=fQ (show cN (some .i64 ::List.replicate n (some .i64)) cs from h);obtain⟨zs,hl,rfl⟩:=tJ h2;exact⟨z::zs,by simp[hl],rfl⟩
theorem tZ:cA Tryz.prog 10 3=some (List.replicate 1 (some .i64)):=by kernel_rfl
theorem zF:cA Tryz.prog 10 106=some (List.replicate 9 (some .i64)):=by kernel_rfl
theorem yO:(Tryz.prog.info? 106).map (·.size)=some 9:=by kernel_rfl
end Go.Proofs.YtcclpdfmmdonpaaGreat
