/- What changes an archive: failed (52). Rewrite (54): the whole log into the other file. -/
import Derived.Test.YtcclpdfmmdonpaaGreatTOpe
import Derived.Test.YtcclpdfmmdonpaaGreatTArcW
namespace Go.Proofs.YtcclpdfmmdonpaaGreat
set_option maxRecDepth 100000
open Go.RowKit Go.WideShapes Go.ChangeAt Go.Maps Go.Sort
def MA (B:Nat):Nat->Obj->Prop:=MT [68,5,78] B
theorem MA.kept (B:Nat):iq (MA B):=fun k C t ht=>MT.not (by rcases ht with rfl|rfl|rfl<;>decide)
theorem MA.of_disk {B:Nat} {W W':World} (h:bU (MD B) W W'):bU (MA B) W W':=h.mono (fun k o ⟨h1,C,t,fr,h2,h3⟩=>⟨h1,C,t,fr,h2,by simp at h3⊢;rcases h3 with rfl|rfl<;>simp⟩)
theorem MA.of_arc {B:Nat} {W W':World} (h:bU (MT [78] B) W W'):bU (MA B) W W':=h.mono (fun k o ⟨h1,C,t,fr,h2,h3⟩=>⟨h1,C,t,fr,h2,by simp at h3⊢;subst h3;simp⟩)
theorem cT.arc {W W':World} {B g:Nat} {d:Dk} (h:cT W B g d) (hc:bU (MT [78] B) W W'):cT W' B g d:=h.chg hc (fun k C _=>⟨MT.not (by decide),MT.not (by decide)⟩)
theorem aU.set {W:World} {B g gd:Nat} {a a':Ac} {bv sv pv:Value} (h:aU W B g gd a bv sv pv) (h1:a'.lg.base=a.lg.base) (h2:a'.lg.steps=a.lg.steps) (h3:a'.pts=a.pts) {X:Array Value} (hX:X=cO a' bv sv pv gd):
 aU (W.setRow g X) B g gd a' bv sv pv/\bU (MT [78] B) W (W.setRow g X):=by
 have hc:=gr h.hg h.hB X;have hK:iq (MT [78] B):=fun k C t ht=>MT.not (by rcases ht with rfl|rfl|rfl<;>decide)
 subst hX;refine⟨⟨setRow_heap _ _ _ _ _ _ h.hg,h.hB,by rw[h1];exact aq.chg h.base hc hK,by rw[h2];exact h.steps.chg hc hK,by rw[h3];exact h.pts.chg hc hK (fun k C _=>MT.not (by decide))⟩,hc⟩
theorem dv (B g gd:Nat) (a:Ac) (bv sv pv:Value) (e:Int) (b:Bool) (w:World) (h:aU w B g gd a bv sv pv) (hd:a.dead=false) (hb:(e != 0)=b):
 Calls Tryz.prog 52 #[.pointer (some ⟨g,0,none⟩),.int .i64 e] w fun r w'=>r=.returned (.int .i64 e)/\aU w' B g gd {a with dead:=b} bv sv pv/\bU (MT [78] B) w w':=by
 have c11:w.cell? ⟨g,11,none⟩=some (.bool false):=by rw[h.cell 11,<-hd];rfl
 have H:=ae h;have HH:=ae h.hg;clear h hd;have d1:decide (e=0)= !b:=by
  subst hb;by_cases h:e=0<;>simp[h]
 cases b
 all_goals
  try simp only[Bool.not_true,Bool.not_false] at d1
  go_enter Tryz.func52,Tryz.ntmps52;go_wp2_with (refine bC rfl 4 (.tmp 15) (.tmp 13) rfl g 11 _ rfl rfl rfl rfl HH.out (by kernel_rfl) (by show 11+1<=12;omega) ?_);go_ret;refine⟨rfl,?_⟩
  first
  |exact aU.set (a':={a with dead:=false}) H.out rfl rfl rfl rfl
  |exact aU.set (a':={a with dead:=true}) H.out rfl rfl rfl rfl
open Go.RowKit Go.WideShapes Go.ChangeAt Go.Maps Go.Sort
theorem Dk.op_get {d:Dk} {i:Int} {F:Fi->Fi} (hi:i=0∨i=1) (h:(d.op i F).1 =0):(d.op i F).2.get i=F (d.get i):=by
 unfold Dk.op at h⊢
 split
 ·rename_i h1
  rw[if_pos h1] at h;simp at h
 ·rename_i h1
  rw[if_neg h1] at h
  split
  ·rename_i h2
   rw[if_pos h2] at h;simp at h
  ·rcases hi with rfl|rfl<;>rfl
theorem GH {l:Int} (h0:0<=l) (h1:l<=9223372036854775807):0<=mW l/\mW l<=9223372036854775807:=by
 unfold mW
 split<;>omega
theorem Dk.op_ok {d:Dk} {i:Int} {F:Fi->Fi} (h:iV d) (hF:(F (d.get i)).s <=(F (d.get i)).b.length /\(F (d.get i)).b.length <=1000000) (hi:i=0∨i=1):iV (d.op i F).2 :=by
 unfold Dk.op
 split
 ·exact h
 ·split
  ·exact⟨Int.le_refl _,(show(0:Int)<=9223372036854775807 from by decide),h.s0,h.s1,h.n0,h.n1⟩
  ·have hs:=GH h.l0 h.l1
   rcases hi with rfl|rfl
   ·exact⟨hs.1,hs.2,hF.1,h.s1,hF.2,h.n1⟩
   ·exact⟨hs.1,hs.2,h.s0,hF.1,h.n0,hF.2⟩
theorem vd (a:Addr) (n:Nat):(a.add n).block =a.block:=by
 unfold Addr.add
 split<;>rfl
theorem cm.byB {W:World} {B g:Nat} {v:Value} {bs:List Nat} (h:cm W B v bs) (hg:g<B):Fp W g v bs:=by
 have h0:=h.1;obtain⟨_,⟨rfl,hn⟩ | ⟨k,cap,cur,rfl,RJ,_⟩⟩:=h.1
 ·exact .inl ⟨rfl,List.length_eq_zero_iff.1 hn⟩
 ·exact .inr ⟨_,_,rfl,fun j u hu=>⟨h0.cells rfl j u hu,by rw[vd];show k≠g;omega⟩⟩
theorem cm.stb (B:Nat) (bs:List Nat):yA (fun W v=>cm W B v bs):=fun _ _ _ hB h=>h.grow hB
def Ac.done (a:Ac) (e i:Int):Ac:=if e=0 then {a with file:=i} else {a with dead:=true}
set_option maxHeartbeats 3200000 in
theorem mj (B g gd N:Nat) (a:Ac) (d:Dk) (bv sv pv bv' sv':Value) (l:Lg) (sl tn:Bool) (Bs:Nat) (i:Int) (w:World) (h:aU w B g gd a bv sv pv) (hk:cT w B gd d) (hH:aS N d a) (hN:N<=40)
 (hlp:aq w Bs bv' l.base) (hls:cF w Bs sv' l.steps) (hok:gG l) (hn:l.steps.length<=1000) (hB:B<=w.heap.size) (hi:i=dG a.file) (hlen:(bG (cE l)).length <=1000000) (x:Int×Dk) (hx:x=d.rw i (bG (cE l))):
 Calls Tryz.prog 54 #[.pointer (some ⟨g,0,none⟩),.agg #[.int .i64 l.age,.int .i64 l.cap,.int .i64 l.first,bv',sv',.bool sl,.bool tn]] w fun r w'=>r=.returned (.int .i64 x.1)/\cT w' B gd x.2/\aU w' B g gd (a.done x.1 i) bv sv pv/\bU (MA B) w w':=by
 have hib:i=0∨i=1:=by rw[hi];exact kY _
 have hdk:=hH.dk hN;have hdead:=hH.dead;obtain⟨bs,hbs⟩:∃bs,bs=bG (cE l):=⟨_,rfl⟩;have EF:=ae (fun W (hc:bU (MA B) w W)=>yB l bv' sv' sl tn Bs W (aq.ptsV (aq.chg hlp hc (MA.kept B))) (hls.chg hc (MA.kept B)) hok hn);rw[<-hbs] at hx hlen EF;clear hbs;obtain⟨⟨r1,D1⟩,hx1⟩:∃y,y=d.op i Fi.clr:=⟨_,rfl⟩;obtain⟨⟨r2,D2⟩,hx2⟩:∃y,y=D1.op i (Fi.app bs):=⟨_,rfl⟩;obtain⟨⟨r3,D3⟩,hx3⟩:∃y,y=D2.op i Fi.syn:=⟨_,rfl⟩;have hk1:iV D1:=by
  have:=Dk.op_ok (F:=Fi.clr) hdk ⟨Nat.le_refl _,Nat.zero_le _⟩ hib;rw[<-hx1] at this;exact this
 have hk2:r1=0->iV D2:=fun he=>by
  have hg:=Dk.op_get (d:=d) (F:=Fi.clr) hib (by rw[<-hx1];exact he);rw[<-hx1] at hg;have hg:D1.get i=⟨[],0⟩:=hg;have:=Dk.op_ok (F:=Fi.app bs) hk1 (by rw[hg];exact⟨Nat.zero_le _,by show([]++bs).length <=1000000;simpa using hlen⟩) hib;rw[<-hx2] at this;exact this
 have gj:=ae (show ∀W,cT W B gd d->Calls Tryz.prog 55 #[.pointer (some ⟨gd,0,none⟩),.int .i64 i] W fun r w'=>r=.returned (.int .i64 r1)/\cT w' B gd D1/\bU (MD B) W w' from fun W h=>by have:=qr gd B d i W h hdk hib;rw[<-hx1] at this;exact this);have eS:=ae (show ∀W v,cT W B gd D1->Fp W gd v bs->B<=W.heap.size->Calls Tryz.prog 79 #[.pointer (some ⟨gd,0,none⟩),.int .i64 i,v] W fun r w'=>r=.returned (.int .i64 r2)/\cT w' B gd D2/\bU (MD B) W w' from fun W v h hb hB=>by have:=oU gd B D1 i v bs W h hk1 hib hb hlen hB;rw[<-hx2] at this;exact this);have qb:=ae (show r1=0->∀W,cT W B gd D2->Calls Tryz.prog 81 #[.pointer (some ⟨gd,0,none⟩),.int .i64 i] W fun r w'=>r=.returned (.int .i64 r3)/\cT w' B gd D3/\bU (MD B) W w' from fun he W h=>by have:=sf gd B D2 i W h (hk2 he) hib;rw[<-hx3] at this;exact this);have hrw:x=if r1≠0 then(r1,D1) else if r2≠0 then(r2,D2) else(r3,D3):=by
  rw[hx];unfold Dk.rw;rw[<-hx1];simp only;rw[<-hx2];simp only;rw[<-hx3]
 have HR1:=ae (show r1≠0->x=(r1,D1) from fun h=>by rw[hrw,if_pos h]);have HR2:=ae (show r1=0->r2≠0->x=(r2,D2) from fun h h2=>by rw[hrw,if_neg (by simp[h]),if_pos h2]);have HR3:=ae (show r1=0->r2=0->x=(r3,D3) from fun h h2=>by rw[hrw,if_neg (by simp[h]),if_neg (by simp[h2])]);clear hrw hx1 hx2 hx3 hk1 hk2 hx;have Fh:=ae hk.lt;have HA:=ae h;have HK:=ae hk;have HD:=ae hdead;have cX:=ae hB;obtain⟨b,hfi,hb1,hb0⟩:∃b,b=(a.file == 0)/\(b=true->i=1)/\(b=false->i=0):=⟨_,rfl,fun e=>by rw[hi];unfold dG;simp at e;simp[e],fun e=>by rw[hi];unfold dG;simp at e;simp[e]⟩;clear h hk hH hok hn hlp hls hlen hB hdk hdead hi hib;go_enter Tryz.func54,Tryz.ntmps54;go_upto_region 2 with fail;refine au (fun W1 hW1=>?_);have mB:=ae (show W1.heap[w.heap.size]? =some (.cells #[.int .i64 l.age,.int .i64 l.cap,.int .i64 l.first,bv',sv',.bool sl,.bool tn] 71) by rw[hW1];exact(by repeat' (first| (refine ai _ _ _ ?_;(first|rfl| (simp;done) | (simp;omega))) | (refine am _ _ _ _ ?_))));have HW1:=ae (show Below w.heap.size w W1 by rw[hW1];(focus ((repeat' (first| (with_reducible first|exact Below.refl _ _|assumption|refine Below.alloc ?_ ?_ _|refine Below.drew ?_ |refine below_drewN ?_ _|refine Below.setCell ?_ ?_ _|refine below_setRow ?_ ?_ _) |go_size));done)));have zH:=ae (show W1.heap.size=w.heap.size+1 by rw[hW1];exact(by first| (simp;done) | (simp;omega)));clear hW1;have HA1:=ae (HA.out.still HW1.out);have lT:=ae (HK.out.still HW1.out);have EB:=ae (bU.of_below HW1.out:bU (MA B) w W1);have c10:W1.cell? ⟨g,10,none⟩=some (.int .i64 a.file):=HA1.out.cell 10;have c8:W1.cell? ⟨g,8,none⟩=some (.pointer (some ⟨gd,0,none⟩)):=HA1.out.cell 8;clear HA HK HW1
 cases b
 ·have hi:i=0:=hb0 rfl;subst hi;have d1:(a.file == 0)=false:=hfi.symm;clear hfi hb0 hb1;go_wp2_with fail;refine(gj.out W1 lT.out).mono ?_;rintro r w2 ⟨rfl,hk2,hc2⟩;have vF:=ae hk2;have HA2:=ae (HA1.out.disk hc2);have ut:=ae (EB.out.trans (MA.of_disk hc2));have mR:=ae (hc2.block _ _ mB.out (MT.not (by decide)));have HS2:=ae (Nat.le_trans (by rw[zH.out];omega) hc2.size:w.heap.size<w2.heap.size);clear hk2 hc2 c10 c8 d1 HA1 lT EB mB gj zH;by_cases he2:r1≠0
  ·have d2:(r1 != 0)=true:=by simpa using he2
   have HE:=ae he2;clear he2;go_wp2_with fail;refine(dv B g gd a bv sv pv r1 true w2 HA2.out HD.out d2).mono ?_;rintro r w9 ⟨rfl,j5,gH⟩;have nc:=ae j5;have ll:=ae gH;clear j5 gH;go_wp2_with fail;go_ret;have hx:=HR1.out HE.out;subst hx;refine⟨rfl,vF.out.arc ll.out,?_,ut.out.trans (MA.of_arc ll.out)⟩;unfold Ac.done;rw[if_neg HE.out];exact nc.out
  have he1:r1=0:=by simpa using he2
  have E1:=ae he1;have d2:(r1 != 0)=false:=by rw[he1];rfl
  clear he2 he1 HR1;go_upto_region 7 with fail;have HB2:=ae (Below.refl w2.heap.size w2);refine bf (fun A0 hA=>?_);refine aJ (by kernel_rfl) (by kernel_rfl) [some 25,some 26,some 27,some 28,some 29,some 30,some 31,some 32,some 7] rfl (by decide) 7 (by decide) (by kernel_rfl) (by kernel_rfl)
   [aw (.pointer (some ⟨g,0,none⟩)),aw (.pointer (some ⟨g,0,none⟩)),aw (.pointer (some ⟨g,8,none⟩)),aw (.pointer (some ⟨gd,0,none⟩)),aw (.int .i64 0),aw (.agg #[.int .i64 l.age,.int .i64 l.cap,.int .i64 l.first,bv',sv',.bool sl,.bool tn]),fun W v=>cm W w2.heap.size v bs]
   ⟨aw.stb _,aw.stb _,aw.stb _,aw.stb _,aw.stb _,aw.stb _,cm.stb _ _,trivial⟩ ?hsT0 ?htT0
  case hsT0=>
   refine⟨?_,?_,?_,?_,?_,?_,?_,trivial⟩
   ·intro K us W ak hB hd;have hK:=ae ak;clear ak;have aA:=ae hB;clear hd;simp only[ah];rw[hA];go_frame;go_wp2_with fail;exact hK.out _ _ _ (by rw[hA];simp only[ah];kernel_rfl) (Below.refl _ _) rfl
   ·intro K us W ak hB hd;have hK:=ae ak;clear ak;have aA:=ae hB;have e0:us 0=_:=hd ⟨0,Ground.data⟩ (by simp) rfl;clear hd;simp only[ah];rw[hA,e0];go_frame;go_wp2_with fail;exact hK.out _ _ _ (by rw[hA];simp only[ah];rw[e0];kernel_rfl) (Below.refl _ _) rfl
   ·intro K us W ak hB hd;have hK:=ae ak;clear ak;have aA:=ae hB;have e1:us 1=_:=hd ⟨1,Ground.data⟩ (by simp) rfl;clear hd;simp only[ah];rw[hA,e1];go_frame;go_wp2_with fail;exact hK.out _ _ _ (by rw[hA];simp only[ah];rw[e1];kernel_rfl) (Below.refl _ _) rfl
   ·intro K us W ak hB hd;have hK:=ae ak;clear ak;have aA:=ae hB;have e2:us 2=_:=hd ⟨2,Ground.data⟩ (by simp) rfl;clear hd;have c8:W.cell? ⟨g,8,none⟩=some (.pointer (some ⟨gd,0,none⟩)):=(HA2.out.still hB).cell 8;simp only[ah];rw[hA,e2];go_frame;go_wp2_with fail;exact hK.out _ _ _ (by rw[hA];simp only[ah];rw[e2];kernel_rfl) (Below.refl _ _) rfl
   ·intro K us W ak hB hd;have hK:=ae ak;clear ak;have aA:=ae hB;clear hd;simp only[ah];rw[hA];go_frame;go_wp2_with fail;exact hK.out _ _ _ (by rw[hA];simp only[ah];kernel_rfl) (Below.refl _ _) rfl
   ·intro K us W ak hB hd;have hK:=ae ak;clear ak;have aA:=ae hB;clear hd;have kb:=aj hB mR.out;have y0:W.cell? ⟨w.heap.size,0,none⟩=some (.int .i64 l.age):=(af (j:=0) kb).trans rfl;have y1:W.cell? ⟨w.heap.size,1,none⟩=some (.int .i64 l.cap):=(af (j:=1) kb).trans rfl;have y2:W.cell? ⟨w.heap.size,2,none⟩=some (.int .i64 l.first):=(af (j:=2) kb).trans rfl;have y3:W.cell? ⟨w.heap.size,3,none⟩=some (bv'):=(af (j:=3) kb).trans rfl;have y4:W.cell? ⟨w.heap.size,4,none⟩=some (sv'):=(af (j:=4) kb).trans rfl;have y5:W.cell? ⟨w.heap.size,5,none⟩=some (.bool sl):=(af (j:=5) kb).trans rfl;have y6:W.cell? ⟨w.heap.size,6,none⟩=some (.bool tn):=(af (j:=6) kb).trans rfl;clear kb;simp only[ah];rw[hA];go_frame;go_wp2_with fail;exact hK.out _ _ _ (by rw[hA];simp only[ah];kernel_rfl) (Below.refl _ _) rfl
   ·intro K us W ak hB hd;have hK:=ae ak;clear ak;have aA:=ae hB;have e5:us 5=_:=hd ⟨5,Ground.data⟩ (by simp) rfl;clear hd;have hch:=ut.out.trans (bU.of_below hB);simp only[ah];rw[hA,e5];go_frame;go_wp2_with fail;refine(EF.out W hch).mono ?_;rintro r w5 ⟨⟨ov,rfl,ho⟩,hb5⟩;go_wp2_with fail;exact hK.out _ _ _ (by rw[hA];simp only[ah];rw[e5];kernel_rfl) hb5 (ho.base hB.size)
  case htT0=>
   intro us W2 cH hp;have e0:us 0=_:=hp 0 (by decide);have e1:us 1=_:=hp 1 (by decide);have e2:us 2=_:=hp 2 (by decide);have e3:us 3=_:=hp 3 (by decide);have e4:us 4=_:=hp 4 (by decide);have e5:us 5=_:=hp 5 (by decide);have p6:(fun W v=>cm W w2.heap.size v bs) W2 (us 6):=hp 6 (by decide);clear hp;have HO:=ae p6;clear p6;have zR:=ae (vF.out.still cH);have gA:=ae (HA2.out.still cH);have Dj:=ae (ut.out.trans (bU.of_below cH));have HB3:=ae (Nat.le_trans (Nat.le_of_lt HS2.out) cH.size);clear cH vF HA2 ut mR HB2;refine aD rfl ?_;intro K ak;have hK:=ae ak;clear ak;simp only[ah];rw[hA,e0,e1,e2,e3,e4,e5];go_frame;go_wp2_with fail;refine(eS.out W2 (us 6) zR.out (HO.out.byB (Nat.lt_of_lt_of_le Fh.out (Nat.le_of_lt HS2.out))) (Nat.le_trans cX.out HB3.out)).mono ?_;rintro r w4 ⟨rfl,hk4,hc4⟩;have o3:=ae hk4;have i5:=ae (gA.out.disk hc4);have CV:=ae (Dj.out.trans (MA.of_disk hc4));clear hk4 hc4 zR gA Dj HO eS;go_wp2_with fail;refine hK.out (.int .i64 r2) _ _ (by rw[hA];simp only[ah];rw[e0,e1,e2,e3,e4,e5];kernel_rfl) ?_;clear hK hA e0 e1 e2 e3 e4 e5;refine aD rfl ?_;intro K ak;have hK:=ae ak;clear ak;go_wp2_with fail;refine hK.out (.int .i64 r2) _ _ (by kernel_rfl) ?_;clear hK;refine bP rfl ?_;by_cases ue:r2≠0
   ·have d2:(r2 != 0)=true:=by simpa using ue
    have HE:=ae ue;clear ue;go_wp2_with fail;refine(dv B g gd a bv sv pv r2 true w4 i5.out HD.out d2).mono ?_;rintro r w9 ⟨rfl,j5,gH⟩;have nc:=ae j5;have ll:=ae gH;clear j5 gH;go_wp2_with fail;go_ret;have hx:=HR2.out E1.out HE.out;subst hx;refine⟨rfl,o3.out.arc ll.out,?_,CV.out.trans (MA.of_arc ll.out)⟩;unfold Ac.done;rw[if_neg HE.out];exact nc.out
   have he2:r2=0:=by simpa using ue
   have E2:=ae he2;have d3:(r2 != 0)=false:=by rw[he2];rfl
   clear ue he2 HR2;have c8:w4.cell? ⟨g,8,none⟩=some (.pointer (some ⟨gd,0,none⟩)):=i5.out.cell 8;go_wp2_with fail;refine(qb.out E1.out w4 o3.out).mono ?_;rintro r w6 ⟨rfl,EW,xM⟩;have FG:=ae EW;have kU:=ae (i5.out.disk xM);have Di:=ae (CV.out.trans (MA.of_disk xM));clear EW xM c8 o3 i5 CV qb;have hx:=HR3.out E1.out E2.out;subst hx;clear HR3;by_cases BJ:r3≠0
   ·have d2:(r3 != 0)=true:=by simpa using BJ
    have HE:=ae BJ;clear BJ;go_wp2_with fail;refine(dv B g gd a bv sv pv r3 true w6 kU.out HD.out d2).mono ?_;rintro r w9 ⟨rfl,j5,gH⟩;have nc:=ae j5;have ll:=ae gH;clear j5 gH;go_wp2_with fail;go_ret;refine⟨rfl,FG.out.arc ll.out,?_,Di.out.trans (MA.of_arc ll.out)⟩;unfold Ac.done;rw[if_neg HE.out];exact nc.out
   have GI:r3=0:=by simpa using BJ
   have d4:(r3 != 0)=false:=by rw[GI];rfl
   have E3:=ae GI;clear BJ GI;have KG:=ae kU.out.hg;go_wp2_with (refine bC rfl 3 (.tmp 52) (.tmp 50) rfl g 10 _ rfl rfl rfl rfl KG.out ml (by show 10+1<=12;omega) ?_);go_ret;obtain⟨h1,h2⟩:=aU.set (a':={a with file:=0}) kU.out rfl rfl rfl (X:=fA (cO a bv sv pv gd) 10 [.int .i64 0]) rfl;refine⟨by show Ending.returned (.int .i64 0)=.returned (.int .i64 r3);rw[E3.out],FG.out.arc h2,?_,Di.out.trans (MA.of_arc h2)⟩;unfold Ac.done;rw[if_pos E3.out];exact h1
 ·have hi:i=1:=hb1 rfl;subst hi;have d1:(a.file == 0)=true:=hfi.symm;clear hfi hb0 hb1;go_wp2_with fail;refine(gj.out W1 lT.out).mono ?_;rintro r w2 ⟨rfl,hk2,hc2⟩;have vF:=ae hk2;have HA2:=ae (HA1.out.disk hc2);have ut:=ae (EB.out.trans (MA.of_disk hc2));have mR:=ae (hc2.block _ _ mB.out (MT.not (by decide)));have HS2:=ae (Nat.le_trans (by rw[zH.out];omega) hc2.size:w.heap.size<w2.heap.size);clear hk2 hc2 c10 c8 d1 HA1 lT EB mB gj zH;by_cases he2:r1≠0
  ·have d2:(r1 != 0)=true:=by simpa using he2
   have HE:=ae he2;clear he2;go_wp2_with fail;refine(dv B g gd a bv sv pv r1 true w2 HA2.out HD.out d2).mono ?_;rintro r w9 ⟨rfl,j5,gH⟩;have nc:=ae j5;have ll:=ae gH;clear j5 gH;go_wp2_with fail;go_ret;have hx:=HR1.out HE.out;subst hx;refine⟨rfl,vF.out.arc ll.out,?_,ut.out.trans (MA.of_arc ll.out)⟩;unfold Ac.done;rw[if_neg HE.out];exact nc.out
  have he1:r1=0:=by simpa using he2
  have E1:=ae he1;have d2:(r1 != 0)=false:=by rw[he1];rfl
  clear he2 he1 HR1;go_upto_region 7 with fail;have HB2:=ae (Below.refl w2.heap.size w2);refine bf (fun A0 hA=>?_);refine aJ (by kernel_rfl) (by kernel_rfl) [some 25,some 26,some 27,some 28,some 29,some 30,some 31,some 32,some 7] rfl (by decide) 7 (by decide) (by kernel_rfl) (by kernel_rfl)
   [aw (.pointer (some ⟨g,0,none⟩)),aw (.pointer (some ⟨g,0,none⟩)),aw (.pointer (some ⟨g,8,none⟩)),aw (.pointer (some ⟨gd,0,none⟩)),aw (.int .i64 1),aw (.agg #[.int .i64 l.age,.int .i64 l.cap,.int .i64 l.first,bv',sv',.bool sl,.bool tn]),fun W v=>cm W w2.heap.size v bs]
   ⟨aw.stb _,aw.stb _,aw.stb _,aw.stb _,aw.stb _,aw.stb _,cm.stb _ _,trivial⟩ ?hsT1 ?htT1
  case hsT1=>
   refine⟨?_,?_,?_,?_,?_,?_,?_,trivial⟩
   ·intro K us W ak hB hd;have hK:=ae ak;clear ak;have aA:=ae hB;clear hd;simp only[ah];rw[hA];go_frame;go_wp2_with fail;exact hK.out _ _ _ (by rw[hA];simp only[ah];kernel_rfl) (Below.refl _ _) rfl
   ·intro K us W ak hB hd;have hK:=ae ak;clear ak;have aA:=ae hB;have e0:us 0=_:=hd ⟨0,Ground.data⟩ (by simp) rfl;clear hd;simp only[ah];rw[hA,e0];go_frame;go_wp2_with fail;exact hK.out _ _ _ (by rw[hA];simp only[ah];rw[e0];kernel_rfl) (Below.refl _ _) rfl
   ·intro K us W ak hB hd;have hK:=ae ak;clear ak;have aA:=ae hB;have e1:us 1=_:=hd ⟨1,Ground.data⟩ (by simp) rfl;clear hd;simp only[ah];rw[hA,e1];go_frame;go_wp2_with fail;exact hK.out _ _ _ (by rw[hA];simp only[ah];rw[e1];kernel_rfl) (Below.refl _ _) rfl
   ·intro K us W ak hB hd;have hK:=ae ak;clear ak;have aA:=ae hB;have e2:us 2=_:=hd ⟨2,Ground.data⟩ (by simp) rfl;clear hd;have c8:W.cell? ⟨g,8,none⟩=some (.pointer (some ⟨gd,0,none⟩)):=(HA2.out.still hB).cell 8;simp only[ah];rw[hA,e2];go_frame;go_wp2_with fail;exact hK.out _ _ _ (by rw[hA];simp only[ah];rw[e2];kernel_rfl) (Below.refl _ _) rfl
   ·intro K us W ak hB hd;have hK:=ae ak;clear ak;have aA:=ae hB;clear hd;simp only[ah];rw[hA];go_frame;go_wp2_with fail;exact hK.out _ _ _ (by rw[hA];simp only[ah];kernel_rfl) (Below.refl _ _) rfl
   ·intro K us W ak hB hd;have hK:=ae ak;clear ak;have aA:=ae hB;clear hd;have kb:=aj hB mR.out;have y0:W.cell? ⟨w.heap.size,0,none⟩=some (.int .i64 l.age):=(af (j:=0) kb).trans rfl;have y1:W.cell? ⟨w.heap.size,1,none⟩=some (.int .i64 l.cap):=(af (j:=1) kb).trans rfl;have y2:W.cell? ⟨w.heap.size,2,none⟩=some (.int .i64 l.first):=(af (j:=2) kb).trans rfl;have y3:W.cell? ⟨w.heap.size,3,none⟩=some (bv'):=(af (j:=3) kb).trans rfl;have y4:W.cell? ⟨w.heap.size,4,none⟩=some (sv'):=(af (j:=4) kb).trans rfl;have y5:W.cell? ⟨w.heap.size,5,none⟩=some (.bool sl):=(af (j:=5) kb).trans rfl;have y6:W.cell? ⟨w.heap.size,6,none⟩=some (.bool tn):=(af (j:=6) kb).trans rfl;clear kb;simp only[ah];rw[hA];go_frame;go_wp2_with fail;exact hK.out _ _ _ (by rw[hA];simp only[ah];kernel_rfl) (Below.refl _ _) rfl
   ·intro K us W ak hB hd;have hK:=ae ak;clear ak;have aA:=ae hB;have e5:us 5=_:=hd ⟨5,Ground.data⟩ (by simp) rfl;clear hd;have hch:=ut.out.trans (bU.of_below hB);simp only[ah];rw[hA,e5];go_frame;go_wp2_with fail;refine(EF.out W hch).mono ?_;rintro r w5 ⟨⟨ov,rfl,ho⟩,hb5⟩;go_wp2_with fail;exact hK.out _ _ _ (by rw[hA];simp only[ah];rw[e5];kernel_rfl) hb5 (ho.base hB.size)
  case htT1=>
   intro us W2 cH hp;have e0:us 0=_:=hp 0 (by decide);have e1:us 1=_:=hp 1 (by decide);have e2:us 2=_:=hp 2 (by decide);have e3:us 3=_:=hp 3 (by decide);have e4:us 4=_:=hp 4 (by decide);have e5:us 5=_:=hp 5 (by decide);have p6:(fun W v=>cm W w2.heap.size v bs) W2 (us 6):=hp 6 (by decide);clear hp;have HO:=ae p6;clear p6;have zR:=ae (vF.out.still cH);have gA:=ae (HA2.out.still cH);have Dj:=ae (ut.out.trans (bU.of_below cH));have HB3:=ae (Nat.le_trans (Nat.le_of_lt HS2.out) cH.size);clear cH vF HA2 ut mR HB2;refine aD rfl ?_;intro K ak;have hK:=ae ak;clear ak;simp only[ah];rw[hA,e0,e1,e2,e3,e4,e5];go_frame;go_wp2_with fail;refine(eS.out W2 (us 6) zR.out (HO.out.byB (Nat.lt_of_lt_of_le Fh.out (Nat.le_of_lt HS2.out))) (Nat.le_trans cX.out HB3.out)).mono ?_;rintro r w4 ⟨rfl,hk4,hc4⟩;have o3:=ae hk4;have i5:=ae (gA.out.disk hc4);have CV:=ae (Dj.out.trans (MA.of_disk hc4));clear hk4 hc4 zR gA Dj HO eS;go_wp2_with fail;refine hK.out (.int .i64 r2) _ _ (by rw[hA];simp only[ah];rw[e0,e1,e2,e3,e4,e5];kernel_rfl) ?_;clear hK hA e0 e1 e2 e3 e4 e5;refine aD rfl ?_;intro K ak;have hK:=ae ak;clear ak;go_wp2_with fail;refine hK.out (.int .i64 r2) _ _ (by kernel_rfl) ?_;clear hK;refine bP rfl ?_;by_cases ue:r2≠0
   ·have d2:(r2 != 0)=true:=by simpa using ue
    have HE:=ae ue;clear ue;go_wp2_with fail;refine(dv B g gd a bv sv pv r2 true w4 i5.out HD.out d2).mono ?_;rintro r w9 ⟨rfl,j5,gH⟩;have nc:=ae j5;have ll:=ae gH;clear j5 gH;go_wp2_with fail;go_ret;have hx:=HR2.out E1.out HE.out;subst hx;refine⟨rfl,o3.out.arc ll.out,?_,CV.out.trans (MA.of_arc ll.out)⟩;unfold Ac.done;rw[if_neg HE.out];exact nc.out
   have he2:r2=0:=by simpa using ue
   have E2:=ae he2;have d3:(r2 != 0)=false:=by rw[he2];rfl
   clear ue he2 HR2;have c8:w4.cell? ⟨g,8,none⟩=some (.pointer (some ⟨gd,0,none⟩)):=i5.out.cell 8;go_wp2_with fail;refine(qb.out E1.out w4 o3.out).mono ?_;rintro r w6 ⟨rfl,EW,xM⟩;have FG:=ae EW;have kU:=ae (i5.out.disk xM);have Di:=ae (CV.out.trans (MA.of_disk xM));clear EW xM c8 o3 i5 CV qb;have hx:=HR3.out E1.out E2.out;subst hx;clear HR3;by_cases BJ:r3≠0
   ·have d2:(r3 != 0)=true:=by simpa using BJ
    have HE:=ae BJ;clear BJ;go_wp2_with fail;refine(dv B g gd a bv sv pv r3 true w6 kU.out HD.out d2).mono ?_;rintro r w9 ⟨rfl,j5,gH⟩;have nc:=ae j5;have ll:=ae gH;clear j5 gH;go_wp2_with fail;go_ret;refine⟨rfl,FG.out.arc ll.out,?_,Di.out.trans (MA.of_arc ll.out)⟩;unfold Ac.done;rw[if_neg HE.out];exact nc.out
   have GI:r3=0:=by simpa using BJ
   have d4:(r3 != 0)=false:=by rw[GI];rfl
   have E3:=ae GI;clear BJ GI;have KG:=ae kU.out.hg;go_wp2_with (refine bC rfl 3 (.tmp 52) (.tmp 50) rfl g 10 _ rfl rfl rfl rfl KG.out ml (by show 10+1<=12;omega) ?_);go_ret;obtain⟨h1,h2⟩:=aU.set (a':={a with file:=1}) kU.out rfl rfl rfl (X:=fA (cO a bv sv pv gd) 10 [.int .i64 1]) rfl;refine⟨by show Ending.returned (.int .i64 0)=.returned (.int .i64 r3);rw[E3.out],FG.out.arc h2,?_,Di.out.trans (MA.of_arc h2)⟩;unfold Ac.done;rw[if_pos E3.out];exact h1
end Go.Proofs.YtcclpdfmmdonpaaGreat
