/- An archive in memory, and what its methods that only read return: none (48), Version (35), Versions (19), of (36), Points (40), Tiles (11), Changes (42). -/
import Derived.Test.YtcclpdfmmdonpaaGreatTArcS
import Derived.Test.YtcclpdfmmdonpaaGreatTCln
namespace Go.Proofs.YtcclpdfmmdonpaaGreat
set_option maxRecDepth 100000
open Go.RowKit Go.WideShapes Go.ChangeAt Go.Maps Go.Sort
structure Se where
 av:Value
 rv:Value
 s:gh
def Se.row (e:Se):List Value:=[e.av,e.rv]
def cF (W:World) (B:Nat) (v:Value) (S:List gh):Prop:=∃E:List Se,E.map Se.s=S/\al W B 119 2 v (E.map Se.row)/\∀e∈E,aq W B e.av e.s.add/\aI W B e.rv e.s.rem
structure Ve where
 v:Value
 p:List Pt
def Ve.row (e:Ve):List Value:=[e.v]
def dJ (W:World) (B:Nat) (v:Value) (L:List (List Pt)):Prop:=∃E:List Ve,E.map Ve.p=L/\al W B 35 1 v (E.map Ve.row)/\∀e∈E,aq W B e.v e.p
theorem cF.nil (W:World) (B:Nat):cF W B (.slice none 0 0) []:=⟨[],rfl,al.nil _ _ _ _,fun e h=>by simp at h⟩
theorem cF.slice {W:World} {B:Nat} {v:Value} {S:List gh} (h:cF W B v S):∃a c,v=.slice a S.length c:=by
 obtain⟨E,rfl,h,_⟩:=h;obtain⟨a,c,e⟩:=h.slice;exact⟨a,c,by simpa using e⟩
theorem dJ.slice {W:World} {B:Nat} {v:Value} {L:List (List Pt)} (h:dJ W B v L):∃a c,v=.slice a L.length c:=by
 obtain⟨E,rfl,h,_⟩:=h;obtain⟨a,c,e⟩:=h.slice;exact⟨a,c,by simpa using e⟩
theorem cF.still {W W':World} {B:Nat} {v:Value} {S:List gh} (h:cF W B v S) (hb:Below W.heap.size W W'):cF W' B v S:=by
 obtain⟨E,h1,h2,h3⟩:=h;exact⟨E,h1,h2.grow hb,fun e he=>⟨al.grow (h3 e he).1 hb,al.grow (h3 e he).2 hb⟩⟩
theorem dJ.still {W W':World} {B:Nat} {v:Value} {L:List (List Pt)} (h:dJ W B v L) (hb:Below W.heap.size W W'):dJ W' B v L:=by
 obtain⟨E,h1,h2,h3⟩:=h;exact⟨E,h1,h2.grow hb,fun e he=>al.grow (h3 e he) hb⟩
theorem cF.mono {W:World} {B B':Nat} {v:Value} {S:List gh} (h:cF W B v S) (hB:B'<=B):cF W B' v S:=by
 obtain⟨E,h1,h2,h3⟩:=h;exact⟨E,h1,h2.mono hB,fun e he=>⟨al.mono (h3 e he).1 hB,al.mono (h3 e he).2 hB⟩⟩
theorem dJ.mono {W:World} {B B':Nat} {v:Value} {L:List (List Pt)} (h:dJ W B v L) (hB:B'<=B):dJ W B' v L:=by
 obtain⟨E,h1,h2,h3⟩:=h;exact⟨E,h1,h2.mono hB,fun e he=>al.mono (h3 e he) hB⟩
def iq (M:Nat->Obj->Prop):Prop:=∀k C t,t=106∨t=3∨t=119->¬M k (.cells C t (0,0))
theorem aq.chg {M:Nat->Obj->Prop} {W W':World} {B:Nat} {v:Value} {l:List Pt} (h:aq W B v l) (hc:bU M W W') (hM:iq M):aq W' B v l:=al.chg h hc (fun k C _ _=>hM k C 106 (.inl rfl))
theorem aI.chg {M:Nat->Obj->Prop} {W W':World} {B:Nat} {v:Value} {l:List Int} (h:aI W B v l) (hc:bU M W W') (hM:iq M):aI W' B v l:=al.chg h hc (fun k C _ _=>hM k C 3 (.inr (.inl rfl)))
theorem cF.chg {M:Nat->Obj->Prop} {W W':World} {B:Nat} {v:Value} {S:List gh} (h:cF W B v S) (hc:bU M W W') (hM:iq M):cF W' B v S:=by
 obtain⟨E,h1,h2,h3⟩:=h;exact⟨E,h1,al.chg h2 hc (fun k C _ _=>hM k C 119 (.inr (.inr rfl))),fun e he=>⟨aq.chg (h3 e he).1 hc hM,aI.chg (h3 e he).2 hc hM⟩⟩
theorem dJ.chg {M:Nat->Obj->Prop} {W W':World} {B:Nat} {v:Value} {L:List (List Pt)} (h:dJ W B v L) (hc:bU M W W') (hM:iq M) (hv:∀k C,v.ownBlock=some k->¬M k (.cells C 35 (0,0))):dJ W' B v L:=by
 obtain⟨E,h1,h2,h3⟩:=h;exact⟨E,h1,al.chg h2 hc (fun k C _ hk=>hv k C hk),fun e he=>aq.chg (h3 e he) hc hM⟩
theorem MD.kept (B:Nat):iq (MD B):=fun k C t ht=>MT.not (by rcases ht with rfl|rfl|rfl<;>decide)
theorem dJ.at {W:World} {B:Nat} {v:Value} {L:List (List Pt)} {i:Nat} {p:List Pt} (h:dJ W B v L) (hp:L[i]? =some p):∃g c x,v=.slice (some ⟨g,0,none⟩) L.length c/\W.cell? ⟨g,i,none⟩=some x/\aq W B x p:=by
 obtain⟨E,rfl,h2,h3⟩:=h;obtain⟨hi,rfl⟩:=List.getElem?_eq_some_iff.1 hp;have hi':i<E.length:=by simpa using hi
 obtain⟨g,cap,cur,e1,_,_,e2,_⟩:=h2.rows (by simp;omega);refine⟨g,cap,E[i].v,by simpa using e1,?_,by simpa using h3 E[i] (List.getElem_mem hi')⟩;have:=e2 i [E[i].v] (by simp[Ve.row,hi']) 0 (by omega);simpa using this
def cO (a:Ac) (bv sv pv:Value) (gd:Nat):Array Value:=#[.int .i64 a.lg.age,.int .i64 a.lg.cap,.int .i64 a.lg.first,bv,sv,.bool a.lg.sealed,.bool a.torn,pv,.pointer (some ⟨gd,0,none⟩),.int .i64 a.c,.int .i64 a.file,.bool a.dead]
structure aU (W:World) (B g gd:Nat) (a:Ac) (bv sv pv:Value):Prop where
 hg:W.heap[g]? =some (.cells (cO a bv sv pv gd) 78)
 hB:B<=g
 base:aq W B bv a.lg.base
 steps:cF W B sv a.lg.steps
 pts:dJ W B pv a.pts
structure eW (a:Ac):Prop where
 first:0<=a.lg.first/\a.lg.first<=1000000
 age:0<=a.lg.age/\a.lg.age<=1000000
 pts:a.pts.length<=1000000
 steps:a.lg.steps.length<=1000000
 c:1<=a.c/\a.c<=64
 ok:∀p∈a.pts,dM p
theorem aS.small {N:Nat} {d:Dk} {a:Ac} (h:aS N d a) (hN:N<=1000):eW a:=by
 have h2:=h.few;have h3:=h.young;have h4:=h.low;have h5:=h.runs.len;exact⟨by omega,by omega,by omega,by omega,⟨h.c1,h.c2⟩,h.runs.ok h.ok.base h.ok.steps⟩
theorem aU.still {W W':World} {B g gd:Nat} {a:Ac} {bv sv pv:Value} (h:aU W B g gd a bv sv pv) (hb:Below W.heap.size W W'):aU W' B g gd a bv sv pv:=
 ⟨aj hb h.hg,h.hB,al.grow h.base hb,h.steps.still hb,h.pts.still hb⟩
theorem aU.mono {W:World} {B B' g gd:Nat} {a:Ac} {bv sv pv:Value} (h:aU W B g gd a bv sv pv) (hB:B'<=B):aU W B' g gd a bv sv pv:=
 ⟨h.hg,Nat.le_trans hB h.hB,al.mono h.base hB,h.steps.mono hB,h.pts.mono hB⟩
theorem aU.disk {W W':World} {B g gd:Nat} {a:Ac} {bv sv pv:Value} (h:aU W B g gd a bv sv pv) (hc:bU (MD B) W W'):aU W' B g gd a bv sv pv:=
 ⟨hc.block g _ h.hg (MT.not (by decide)),h.hB,aq.chg h.base hc (MD.kept B),h.steps.chg hc (MD.kept B),h.pts.chg hc (MD.kept B) (fun k C _=>MT.not (by decide))⟩
theorem aU.lt {W:World} {B g gd:Nat} {a:Ac} {bv sv pv:Value} (h:aU W B g gd a bv sv pv):g<W.heap.size:=(Array.getElem?_eq_some_iff.1 h.hg).1
theorem aU.cell {W:World} {B g gd:Nat} {a:Ac} {bv sv pv:Value} (h:aU W B g gd a bv sv pv) (j:Nat):W.cell? ⟨g,j,none⟩=(cO a bv sv pv gd)[j]? :=af h.hg
theorem dw (B g gd:Nat) (a:Ac) (bv sv pv:Value) (w:World) (h:aU w B g gd a bv sv pv):
 Calls Tryz.prog 48 #[.pointer (some ⟨g,0,none⟩)] w fun r w'=>r=.returned (.bool false)/\Below w.heap.size w w':=by
 have c8:w.cell? ⟨g,8,none⟩=some (.pointer (some ⟨gd,0,none⟩)):=h.cell 8;clear h;go_enter Tryz.func48,Tryz.ntmps48;go_wp2_with fail;go_ret;exact⟨rfl,Below.refl _ _⟩
theorem kO (B g gd:Nat) (a:Ac) (bv sv pv:Value) (w:World) (h:aU w B g gd a bv sv pv) (hs:eW a):
 Calls Tryz.prog 35 #[.pointer (some ⟨g,0,none⟩)] w fun r w'=>r=.returned (.int .i64 (a.lg.first+a.pts.length-1))/\Below w.heap.size w w':=by
 have HN:=ae (dw B g gd a bv sv pv w h);have hf:=hs.first;have hp:=hs.pts;obtain⟨pa,pc,rfl⟩:=h.pts.slice;have H:=ae h;clear h hs;obtain⟨n,hn⟩:∃n,n=a.pts.length:=⟨_,rfl⟩;rw[<-hn] at hp⊢;obtain⟨f,hff⟩:∃f,f=a.lg.first:=⟨_,rfl⟩;rw[<-hff] at hf⊢;have eS:=ae (show ∀W,Below w.heap.size w W->W.cell? ⟨g,2,none⟩=some (.int .i64 f) from fun W hb=>by rw[(H.out.still hb).cell 2];simp[cO,hff]);have xm:=ae (show ∀W,Below w.heap.size w W->W.cell? ⟨g,7,none⟩=some (.slice pa n pc) from fun W hb=>by rw[(H.out.still hb).cell 7];simp[cO,hn]);clear H hn hff;go_enter Tryz.func35,Tryz.ntmps35;go_wp2_with fail;refine HN.out.mono ?_;rintro r w1 ⟨rfl,hb⟩;have HB:=ae hb;have q2:=fun d os=>cell_regrown (eS.out _ hb) d os
 have q7:=fun d os=>cell_regrown (xm.out _ hb) d os
 clear hb;go_wp2_with fail;refine wp_region_quiet_below (by kernel_rfl) (by kernel_rfl) ?_
 repeat(first|go_big_quiet_step (fail) |quiet_step (fail))
 refine wpQuiet_nil ?_;intro _ hw';obtain⟨⟨dqV,osV⟩,hw2⟩:=hw';subst hw2;have aO:=ae (below_regrown w1 dqV osV);generalize Sort.grow (redrawn w1 dqV) osV=V at aO⊢;have gf:=aO.out.size;have HB2:=ae (HB.out.trans (aO.out.mono HB.out.size));clear q2 q7;go_wp2_with fail;go_ret;exact⟨rfl,HB2.out⟩
end Go.Proofs.YtcclpdfmmdonpaaGreat
