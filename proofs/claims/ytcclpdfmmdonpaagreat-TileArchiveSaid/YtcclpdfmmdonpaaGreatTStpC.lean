/- Forget of an archive whose disk does not fail, in one form. Commit and Forget of an archive whose disk does not fail, in one form each; the reference's beside them. -/
import Derived.Test.YtcclpdfmmdonpaaGreatTStpA
import Derived.Test.YtcclpdfmmdonpaaGreatTRefC
import Derived.Test.YtcclpdfmmdonpaaGreatTArcI
import Derived.Test.YtcclpdfmmdonpaaGreatTRefB
import Derived.Test.YtcclpdfmmdonpaaGreatTArcD
namespace Go.Proofs.YtcclpdfmmdonpaaGreat
open Go.RowKit Go.WideShapes Go.ChangeAt Go.Maps Go.Sort
theorem Br (B g gd bb N:Nat) (a:Ac) (d:Dk) (bv sv pv vv rv:Value) (v:Int) (i:Nat) (p:List Pt) (W:World) (h:pf W B g gd bb N a d bv sv pv vv rv) (hN:N<=38) (hl:d.lf=0) (hp:a.pts[i]? =some p) (hv:v=a.lg.first+(i:Int)):
 Calls Tryz.prog 27 #[.pointer (some ⟨g,0,none⟩),.int .i64 v] W fun r w'=>r=.returned (.int .i64 0)/\bU (MA B) W w'/\
  ∃a1 d1 bv1 sv1 pv1,aU w' B g gd a1 bv1 sv1 pv1/\cT w' B gd d1/\aS (N+2) d1 a1/\a1.lg.first=v/\a1.pts=a.pts.drop i/\a1.c=a.c/\d1.lf=0:=by
 by_cases hi:i=0
 ·subst hi;refine(tz B g gd a d bv sv pv v p W h.arc h.dk h.hol.up h.hol.dead (h.small (by omega)) hp (by rw[hv];simp)).mono ?_;rintro r w1 ⟨rfl,hb⟩;exact⟨rfl,bU.of_below hb,a,d,bv,sv,pv,h.arc.still hb,h.dk.still hb,h.hol.mono (by omega),by rw[hv];simp,by simp,rfl,hl⟩
 ·have hok:=zq h.hol hN (show 0<i by omega) hp;refine(vw B g gd N a d bv sv pv v i p W h.arc h.dk h.hol hN h.hB hp (by omega) hv).mono ?_;rintro r w1 ⟨hc,hk,rfl,hor⟩
  rcases hok with⟨h0,hh⟩ | ⟨_,h1,_⟩
  ·rcases hor with⟨_,bv',sv',pv',ha⟩ | ⟨h1,_⟩
   ·rw[h0];exact⟨rfl,hc,_,_,bv',sv',pv',ha,hk,hh,hv.symm,rfl,rfl,EJ hl⟩
   ·exact absurd h0 h1
  ·exact absurd hl h1
open Go.RowKit Go.WideShapes Go.ChangeAt Go.Maps Go.Sort
def lK (P A:List Pt) (R:List Int):Int:=if bQ A=true then bA P A R else 70
def Fc (N:Nat) (a:Ac) (_d:Dk) (P A:List Pt) (R:List Int) (a1:Ac) (d1:Dk):Prop:=
 aS (N+1) d1 a1/\a1.lg.first=a.lg.first/\a1.c=a.c/\d1.lf=0/\(lK P A R≠0->a1.pts=a.pts)/\(lK P A R=0->∃Q,aM P A R 0 Q/\a1.pts=a.pts++[Q])
theorem Cy (B g gd bb N:Nat) (a:Ac) (d:Dk) (bv sv pv vv rv av rw:Value) (P A:List Pt) (R:List Int) (W:World) (h:pf W B g gd bb N a d bv sv pv vv rv) (hN:N<=38) (hl:d.lf=0) (ha:cj W av A) (hr:fi W rw R) (hr0:ip rw) (l5:A.length<=12) (lC:R.length<=12) (hwf:∀z∈R,(Lit.int .i64 z).wf =true) (hp:a.pts[a.lg.steps.length]? =some P):
 Calls Tryz.prog 30 #[.pointer (some ⟨g,0,none⟩),av,rw] W fun r w'=>r=.returned (.tuple #[.int .i64 (if lK P A R=0 then a.lg.first+a.pts.length else 0),.int .i64 (lK P A R)])/\bU (MC B pv) W w'/\
  ∃a1 d1 bv1 sv1 pv1,aU w' B g gd a1 bv1 sv1 pv1/\cT w' B gd d1/\Fc N a d P A R a1 d1/\(lK P A R≠0->pv1=pv):=by
 by_cases hg:bQ A=true
 ·have hE:lK P A R=bA P A R:=if_pos hg;rw[hE];refine(tw B g gd N a d bv sv pv av rw P A R W h.arc h.dk h.hol hN h.hB ha hr hr0 hg l5 lC hwf hp).mono ?_;rintro r w1 (⟨e,he,hme,rfl,hb⟩ | ⟨L,A',hm,hpm,hs,hc,hk,hor⟩)
  ·rw[hme,if_neg he];exact⟨rfl,bU.of_below hb,a,d,bv,sv,pv,h.arc.still hb,h.dk.still hb,⟨h.hol.mono (by omega),rfl,rfl,hl,fun _=>rfl,fun h0=>absurd (by rw[<-hme,<-hE];exact h0) he⟩,fun _=>rfl⟩
  ·have hz:bA P A R=0:=hm.err.symm;rw[hz,if_pos rfl];have hok:=lI h.hol (by omega) hs hp (hm.swap hpm.symm)
   rcases hor with⟨h0,rfl,bv',sv',pv',har⟩ | ⟨h0,_⟩
   ·rcases hok with⟨_,hh⟩ | ⟨h1,_⟩
    ·exact⟨rfl,hc,_,_,bv',sv',pv',har,hk,⟨hh,rfl,rfl,Ep hl,fun h9=>absurd (hE.trans hz) h9,fun _=>⟨L,hm,rfl⟩⟩,fun h9=>absurd rfl h9⟩
    ·exact absurd (h1.symm.trans h0) (by decide)
   ·rcases hok with⟨h1,_⟩ | ⟨_,h1,_⟩
    ·exact absurd h1 h0
    ·exact absurd hl h1
 ·have hg':bQ A=false:=by simpa using hg
  have hE:lK P A R=70:=if_neg hg;rw[hE,if_neg (by decide)];refine(vp B g gd a bv sv pv av rw A W h.arc h.hol.dead ha (by unfold maxLen;omega) hg').mono ?_;rintro r w1 ⟨rfl,hb⟩;exact⟨rfl,bU.of_below hb,a,d,bv,sv,pv,h.arc.still hb,h.dk.still hb,⟨h.hol.mono (by omega),rfl,rfl,hl,fun _=>rfl,fun h0=>absurd (hE.symm.trans h0) (by decide)⟩,fun _=>rfl⟩
def iT (B:Nat) (a1:Ac) (pv1:Value) (W:World) (vv rv:Value):Prop:=aI W B vv (aT a1.lg.first a1.pts.length)/\dJ W B rv a1.pts/\∀k,rv.ownBlock=some k->pv1.ownBlock≠some k
theorem iT.still {B:Nat} {a1:Ac} {pv1:Value} {W W':World} {vv rv:Value} (h:iT B a1 pv1 W vv rv) (hb:Below W.heap.size W W'):iT B a1 pv1 W' vv rv:=⟨al.grow h.1 hb,h.2.1.still hb,h.2.2⟩
theorem xC (B N:Nat) (a a1:Ac) (d d1:Dk) (vv rv av rw pv1:Value) (P A:List Pt) (R:List Int) (W:World) (hto:Fc N a d P A R a1 d1) (hv:aI W B vv (aT a.lg.first a.pts.length)) (hp:dJ W B rv a.pts) (hs:eW a) (hn:a.pts.length=a.lg.steps.length+1) (hpl:a.pts[a.lg.steps.length]? =some P) (hB:B<=W.heap.size)
 (hpv:∀k,pv1.ownBlock=some k->k<W.heap.size) (hse:lK P A R≠0->∀k,rv.ownBlock=some k->pv1.ownBlock≠some k) (ha:cj W av A) (ha0:ip av) (hr:fi W rw R) (l5:A.length<=12) (lC:R.length<=12):
 Calls Tryz.prog 31 #[.agg #[.int .i64 a.c,vv,rv],av,rw] W fun r w'=>(∃vv' rv',r=.returned (.tuple #[.agg #[.int .i64 a.c,vv',rv'],.int .i64 (lK P A R)])/\iT B a1 pv1 w' vv' rv')/\Below W.heap.size W w':=by
 obtain⟨_,hf,_,_,h1,h2⟩:=hto;have yM:=hs.ok P (List.mem_of_getElem? hpl);have hpts:=hs.pts;refine(sH B a.c a.lg.first vv rv av rw a.pts P A R a.lg.steps.length W hv hp hn (by omega) hs.first hpl ha ha0 hr yM.len (by omega) (by unfold maxLen;omega) hB).mono ?_;rintro r w1 ⟨hor,hb⟩;refine⟨?_,hb⟩
 rcases hor with⟨hg,rfl⟩ | ⟨hg,e,he,hme,rfl⟩ | ⟨hg,vv',rv',Q,hm,rfl,hv',hp',hk⟩
 ·have hE:lK P A R=70:=if_neg (by rw[hg];decide);rw[hE];refine⟨vv,rv,rfl,?_,?_,hse (by rw[hE];decide)⟩
  ·rw[hf,h1 (by rw[hE];decide)];exact al.grow hv hb
  ·rw[h1 (by rw[hE];decide)];exact hp.still hb
 ·have hE:lK P A R=e:=(if_pos hg).trans hme;rw[hE];refine⟨vv,rv,rfl,?_,?_,hse (by rw[hE];exact he)⟩
  ·rw[hf,h1 (by rw[hE];exact he)];exact al.grow hv hb
  ·rw[h1 (by rw[hE];exact he)];exact hp.still hb
 ·have hE:lK P A R=0:=(if_pos hg).trans hm.err.symm;rw[hE];obtain⟨Q',hm',hq⟩:=h2 hE;obtain⟨_,rfl⟩:=hm.same hm' yM.good hg;refine⟨vv',rv',rfl,?_,?_,fun k hk1 hk2=>?_⟩
  ·rw[hf,hq,List.length_append,List.length_singleton];exact al.mono hv' hB
  ·rw[hq];exact hp'
  ·have:=hk k hk1;have:=hpv k hk2;omega
end Go.Proofs.YtcclpdfmmdonpaaGreat
