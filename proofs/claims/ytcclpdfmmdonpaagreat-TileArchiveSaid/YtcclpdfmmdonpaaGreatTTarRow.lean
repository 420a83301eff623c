/- TileArchive: what an archive has after every script of commits and of other calls, and that it has the same after losses of power between calls. Every input, no condition. -/
import Derived.Test.YtcclpdfmmdonpaaGreatTTarA
namespace Go.Proofs.YtcclpdfmmdonpaaGreat
set_option maxRecDepth 100000
open Go.ChangeShapes Go.WideShapes Go.ChangeAt Go.RowKit Go.Maps Go.Sort
theorem eE:Tryz.prog.cellsOf 3=1:=by kernel_rfl
theorem nX:Tryz.prog.cellsOf 37=2:=by kernel_rfl
theorem nD:Tryz.prog.cellsOf 38=2:=by kernel_rfl
theorem vU:Tryz.prog.cellsOf 54=7:=by kernel_rfl
theorem oo:cA Tryz.prog 10 3=some [some .i64]:=by kernel_rfl
theorem yK:cA Tryz.prog 10 38=some [some .i64,some .i64]:=by kernel_rfl
theorem lH {n:Int} (h:(Lit.int .i64 n).wf =true): -9223372036854775808<=n/\n<=9223372036854775807:=by
 simp[Lit.wf,IntKind.min,IntKind.max,IntKind.signed,IntKind.bits] at h;omega
section
variable {H:Type} {enc:TypeId×Value->H} {w:World} {base:Nat} {spare:Nat->Bool} {held:Bool}
theorem CN {fuel:Nat} {v:Value} {x:DataW H×List MemPlace} (hx:DataW.trod enc Tryz.prog w base spare held fuel 30 [v]=some x):ip v:=by
 obtain⟨a,len,cap,rfl,hl,hn,hr⟩:=fW Tryz.underlying30 tZ sO (by decide) hx;intro c h;injection h with h1 h2 h3
 subst h3;exact(hn h1).2
theorem Cv {fuel:Nat} {cs:List Value} {x:DataW H×List MemPlace} (hl:cs.length=7) (hx:DataW.trod enc Tryz.prog w base spare held fuel 54 cs=some x):
 ∃p:Sp,cs=p.row/\DH w p:=by
 obtain⟨xs,m,_,_,_,hxl,hf⟩:=DataW.trod_struct Tryz.underlying54 hx
 match cs,hl with
 | [c0,c1,c2,c3,c4,c5,c6],_=>
  have h0:=hf 0 _ rfl;rw[List.getElem?_eq_getElem (by rw[hxl];decide)] at h0;have h1:=hf 1 _ rfl;rw[List.getElem?_eq_getElem (by rw[hxl];decide)] at h1;have h2:=hf 2 _ rfl;rw[List.getElem?_eq_getElem (by rw[hxl];decide)] at h2;have h3:=hf 3 _ rfl;rw[List.getElem?_eq_getElem (by rw[hxl];decide)] at h3;have h4:=hf 4 _ rfl;rw[List.getElem?_eq_getElem (by rw[hxl];decide)] at h4;obtain⟨p0,_,e0,_,_⟩:=fQ (show cN (some .i64 ::[]) _ from fH 10 3 _ _ _ _ oo (by simp[eE]) h0);simp[eE] at e0;obtain⟨rfl,_⟩:=e0;obtain⟨p1,_,e1,hw1,_⟩:=fQ (show cN (some .i64 ::[]) _ from fH 10 3 _ _ _ _ oo (by simp[eE]) h1);simp[eE] at e1;obtain⟨rfl,_⟩:=e1;obtain⟨p2,_,e2,hw2,_⟩:=fQ (show cN (some .i64 ::[]) _ from fH 10 3 _ _ _ _ oo (by simp[eE]) h2);simp[eE] at e2;obtain⟨rfl,_⟩:=e2;have hk:cN [some .i64,some .i64] [c5,c6]:=by simpa[eE,nX,nD] using fH 10 38 _ _ _ _ yK (by simp[nD]) h4
  obtain⟨p5,vs,e5,_,hk2⟩:=fQ hk;obtain⟨p6,vs2,e6,_,_⟩:=fQ hk2;injection e5 with e5 e7
  subst e5 e7;injection e6 with e6 e8
  subst e6;obtain⟨ys,m',_,_,_,hyl,hg⟩:=DataW.trod_struct Tryz.underlying37 (show DataW.trod enc Tryz.prog w base spare held m 37 [c3,c4]=_ from by simpa[eE,nX] using h3);have g0:=hg 0 _ rfl;rw[List.getElem?_eq_getElem (by rw[hyl];decide)] at g0;have g1:=hg 1 _ rfl;rw[List.getElem?_eq_getElem (by rw[hyl];decide)] at g1;obtain⟨A,q1,q2,q3⟩:=CO (v:=c3) (by simpa[Ak] using g0);obtain⟨R,q4,q5,q6⟩:=zz (v:=c4) (by simpa[wN] using g1);have q7:ip c4:=CN (by simpa[wN] using g1);exact⟨⟨p0,p1,p2,c3,c4,A,R,p5,p6⟩,rfl,⟨q1,q2,q3,q4,q7,q5,q6,(lH hw1).2,(lH hw2).2⟩⟩
theorem Cj {r:Reach} {b0:Nat} {v:Value} {d:DataW H} {p:List MemPlace} (hv:Value.okWide Tryz.prog w r b0 51 v) (h:DataW.Trod enc Tryz.prog w base spare held 51 v d p):
 ∃(a:Option Addr) (cap:Nat) (L:List Sp),v=.slice a L.length cap/\L.length<=maxLen/\∀i p,L[i]? =some p->(∃b off,a=some ⟨b,off,none⟩/\b<w.heap.size/\∀j,j<7->w.cell? ⟨b,off+i*7+j,none⟩=p.row[j]?)/\DH w p:=by
 obtain⟨a0,len,cap,rfl⟩:=Go.WideShapes.okWide_slice Tryz.underlying51 hv;obtain⟨fuel,hx⟩:=h
 rcases Go.Deep.open_slice Tryz.underlying51 hx with⟨h0,_⟩ | ⟨a,len',cap',m,n,D,Pl,h1,hb,hl,hm,hmm,_,hall⟩
 ·simp[Value.cells] at h0;obtain⟨rfl,rfl,rfl⟩:=h0;exact⟨none,0,[],rfl,by simp,fun i p h=>by simp at h⟩
 ·simp[Value.cells] at h1;obtain⟨rfl,rfl,rfl⟩:=h1;by_cases h0:len=0
  ·subst h0;exact⟨some a,cap,[],rfl,by simp,fun i p h=>by simp at h⟩
  have hle:len<=m:=by rw[hmm];split<;>omega
  have hmx:len<=maxLen:=by omega
  rw[vU] at hall
  obtain⟨E,h1,h2⟩:=nj (R:=fun i (e:Sp)=>DH w e/\∀j,j<7->w.cell? ((a.add (i*7)).add j)=e.row[j]?) len (fun i hi=>by
   obtain⟨cs,hc,ht⟩:=hall i (by omega);obtain⟨_,hlen,hcell⟩:=World.cells?_some hc;obtain⟨e,rfl,h5⟩:=Cv hlen ht
   exact⟨e,h5,hcell⟩)
  subst h1;obtain⟨b,off,spot⟩:=a;have hpos:0<E.length:=by omega
  have hspot:spot=none:=by
   have h0:=(h2 0 _ (List.getElem?_eq_getElem hpos)).2 0 (by omega);exact(by simpa[Addr.add] using World.cell?_spot (v:=.int .i64 (E[0]).kd) (h0.trans rfl))
  subst hspot;have hr:∀i p,E[i]? =some p->∀j,j<7->w.cell? ⟨b,off+i*7+j,none⟩=p.row[j]? :=fun i e he j hj=>by
   rw[<-(h2 i e he).2 j hj,<-Go.WideShapes.add_plain,<-Go.WideShapes.add_plain]
  have hb:b<w.heap.size:=by
   have h0:=hr 0 (E[0]) (List.getElem?_eq_getElem hpos) 0 (by omega);exact xx (h0.trans rfl)
  exact⟨_,cap,E,rfl,hmx,fun i p hp=>⟨⟨b,off,rfl,hb,hr i p hp⟩,(h2 i p hp).1⟩⟩
end
theorem j4 (os:Os) (started:os.Started) (H:Type) (enc:TypeId×Value->H):
 ReturnsInHanded {} Tryz.checked os 4 .any (Rows.tileArchiveSpec.pre6 enc Tryz.prog Tryz.f4 Rows.tileArchiveRow.domain false) (Rows.tileArchiveSpec.post enc Tryz.prog Tryz.f4 false true false false):=by
 refine ve (C:=Tryz.checked) (tb:=4) Hc started (by kernel_rfl) Tryz.func4 rfl ?_ (show Tryz.f4.resultTypes= #[4] by kernel_rfl) Tryz.underlying4 Ez ?_
  (ChangeSpec.witness6 (enc:=enc) (C:=Tryz.checked) false ⟨#[],#[.int .i64 1,.slice none 0 0],[]⟩ 8 (by kernel_rfl) (by kernel_rfl) (by kernel_rfl) (by kernel_rfl)) ?_
 ·intro ds hds
  match ds,hds with
  | [d1,d2],_=>exact⟨rfl,rfl,rfl⟩
 ·rw[Tryz.params4];intro t ht;simp at ht
  rcases ht with rfl|rfl
  all_goals exact⟨by kernel_rfl,of_decide_eq_true (by kernel_rfl)⟩
 ·intro W base args ds p hval hA hlt _;change DataW.TrodAll enc Tryz.prog W 0 (fun _=>true) true Tryz.f4.params.toList args.toList ds p at hA;change ∀(j:Nat) t v,Tryz.f4.params[j]? =some t->args[j]? =some v->Value.okWide Tryz.prog W .any base t v at hval;rw[Tryz.params4] at hA hval;obtain⟨v0,vs0,d0,ds0,p0,q0,hargs,rfl,rfl,h0,r0⟩:=trodAll_cons hA;obtain⟨v1,vs1,d1,ds1,p1,q1,rfl,rfl,rfl,h1,r1⟩:=trodAll_cons r0;obtain⟨rfl,rfl,rfl⟩:=trodAll_nil r1;obtain rfl:args= #[v0,v1]:=by cases args;simp_all
  obtain⟨n,rfl,_,_,hw⟩:=open_int Tryz.underlying3 (hval 0 3 v0 rfl rfl) h0;obtain⟨a,cap,L,rfl,_,hL⟩:=Cj (hval 1 51 v1 rfl rfl) h1;exact tQ n a cap L W (lH hw) hL
theorem tileArchive_holds:Rows.TileArchiveSaid:=
 OpenClaim.holds_of_wide 4 Tryz.f4 rfl rfl rfl rfl rfl rfl rfl ⟨rfl,rfl,rfl,rfl,rfl⟩ rfl rfl rfl rfl rfl (by kernel_rfl) Tryz.func4 (by kernel_rfl)
  (of_decide_eq_true (by kernel_rfl)) (by unfold Func.isWrapper;rw[if_neg (of_decide_eq_false (by kernel_rfl))];exact⟨rfl,rfl⟩)
  (fun os started H enc _=>j4 os started H enc)
#print axioms tileArchive_holds
end Go.Proofs.YtcclpdfmmdonpaaGreat
