/- Forget (27) from the rewriting of the log on, as pieces. -/
import Derived.Test.YtcclpdfmmdonpaaGreatTArcC
namespace Go.Proofs.YtcclpdfmmdonpaaGreat
set_option maxHeartbeats 3200000
set_option maxRecDepth 100000
open Go.RowKit Go.WideShapes Go.ChangeAt Go.Maps Go.Sort
theorem aB.dropped {W:World} {b sz:Nat} {l:List (List Value)} (h:aB W b 0 sz l) (i:Nat):aB W b (i*sz) sz (l.drop i):=fun j r hj k hk=>by
 rw[List.getElem?_drop] at hj;have:=h (i+j) r hj k hk;rw[Nat.add_mul,Nat.zero_add] at this;exact this
theorem al.slab {W:World} {B t sz i pb n c:Nat} {l:List (List Value)} (h:al W B t sz (.slice (some ⟨pb,0,none⟩) n c) l) (hi:i<=n):n=l.length/\n<=c/\pb<W.heap.size/\(∀m k,m=n-i->kM W (.slice (some ⟨pb,i*sz,none⟩) m k) sz (l.drop i))/\(i=n->∀off m k,m=0->kM W (.slice (some ⟨pb,off,none⟩) m k) sz (l.drop i)):=by
 obtain⟨a9,c9,e9⟩:=al.slice h;injection e9 with _ e9
 have hnc:n<=c:=by
  obtain⟨_,⟨e,_⟩ | ⟨g,cap,cur,e,_,_,h2,_⟩⟩:=h.2
  ·cases e
  ·injection e with _ _ e
   omega
 have hb:pb<W.heap.size:=by
  obtain⟨C9,h9⟩:=bo h (k:=pb) rfl;exact(Array.getElem?_eq_some_iff.1 h9).1
 have hm:∀m,m=n-i->m=(l.drop i).length :=fun m e=>by rw[List.length_drop];omega
 refine⟨e9,hnc,hb,fun m k e=>?_,fun hi off m k e=>?_⟩
 ·refine .inr ⟨_,k,by rw[<-hm m e],?_⟩;by_cases h0:l.length=0
  ·left;rw[List.length_eq_zero_iff.1 h0,List.drop_nil]
  ·obtain⟨g,cap,cur,e1,_,_,hr,_⟩:=h.rows (by omega);injection e1 with e1
   injection e1 with e1
   injection e1 with e1
   subst e1;exact .inr ⟨pb,i*sz,rfl,hb,hr.dropped i⟩
 ·exact .inr ⟨_,k,by rw[<-hm m (by omega)],.inl (List.drop_eq_nil_of_le (by omega))⟩
theorem sX {s1 s2 s3 s4 s5 s6 s8 s10 s11 s12 s13 s14 s15 s16 s17 s18 s19 s20 s21 s22 s23 s24 s25 s26 s27 s28 s29 s30 s31 s32 s33 s34 s35 s36 s37 s38 s39 s40 s41 s42 s43 s44 s45 s46 s47 s48 s49 s50 s51 s52 s53 s54 s55 s56 s57 s58 s59 s60 s61 s62 s63 s64 s65 s66 s67 s68 s69 s70 s71 s72 s73 s74 s75 s76 s77 s78 s79 s80 s81 s82 s83 s84 s85 s86 s87 s88 s89 s90 s91 s92 s93 s94 s95 s96 s97 s98 s99 s100 s101 s102 s103 s104:Value} (B g gd lb i:Nat) (a:Ac) (l:Lg) (ba ta:Option Addr) (bn bc tl tc pb pn pc:Nat) (bv sv:Value) (W:World) (post:Ending->World->Prop) (C D:Code) (hC:Tryz.f27.body.bind (cy 21)=some (.seq C D)) (K:Act->World->Prop)
 (hA:aU W B g gd a bv sv (.slice (some ⟨pb,0,none⟩) pn pc)) (hl:W.heap[lb]? =some (.cells #[.int .i64 l.age,.int .i64 l.cap,.int .i64 l.first,.slice ba bn bc,.slice ta tl tc,.bool l.sealed,.bool false] 71)) (hb:aq W B (.slice ba bn bc) l.base) (hss:cF W B (.slice ta tl tc) l.steps) (hB:B<=W.heap.size) (hi:i<pn) (hn:pn<=100)
 (HP:∀pv' w',aU w' B g gd ⟨l,false,a.pts.drop i,a.c,a.file,a.dead⟩ (.slice ba bn bc) (.slice ta tl tc) pv'->bU (MT [78] B) W w'->post (.returned (.int .i64 0)) w') (Et:∀a' w',Code.wp Tryz.prog D (bodyPost Tryz.prog Tryz.f27 post) a' w'->K a' w'):
 Code.wp Tryz.prog C (Exit.then K (bodyPost Tryz.prog Tryz.f27 post)) ({tmps:=List.toArray ((.pointer (some ⟨g,0,none⟩))::s1::s2::s3::s4::s5::s6::(.int .i64 (i:Int))::s8::(.pointer (some ⟨lb,0,none⟩))::s10::s11::s12::s13::s14::s15::s16::s17::s18::s19::s20::s21::s22::s23::s24::s25::s26::s27::s28::s29::s30::s31::s32::s33::s34::s35::s36::s37::s38::s39::s40::s41::s42::s43::s44::s45::s46::s47::s48::s49::s50::s51::s52::s53::s54::s55::s56::s57::s58::s59::s60::s61::s62::s63::s64::s65::s66::s67::s68::s69::s70::s71::s72::s73::s74::s75::s76::s77::s78::s79::s80::s81::s82::s83::s84::s85::s86::s87::s88::s89::s90::s91::s92::s93::s94::s95::s96::s97::s98::s99::s100::s101::s102::s103::s104::[]),defers:=[]} :Act) W:=by
 have HA:=ae hA;have ni:=ae hb;have sx:=ae hss;have cX:=ae hB;have iU:=ae HP;have y0:W.cell? ⟨lb,0,none⟩=some (.int .i64 l.age):=(af (j:=0) hl).trans rfl;have y1:W.cell? ⟨lb,1,none⟩=some (.int .i64 l.cap):=(af (j:=1) hl).trans rfl;have y2:W.cell? ⟨lb,2,none⟩=some (.int .i64 l.first):=(af (j:=2) hl).trans rfl;have y3:W.cell? ⟨lb,3,none⟩=some (.slice ba bn bc):=(af (j:=3) hl).trans rfl;have y4:W.cell? ⟨lb,4,none⟩=some (.slice ta tl tc):=(af (j:=4) hl).trans rfl;have y5:W.cell? ⟨lb,5,none⟩=some (.bool l.sealed):=(af (j:=5) hl).trans rfl;have y6:W.cell? ⟨lb,6,none⟩=some (.bool false):=(af (j:=6) hl).trans rfl;have Ew:=ae hA.hg;have Fu:=ae hA.hB;clear hA hl hb hss hB HP;simp[cy,eV,Tryz.f27] at hC;obtain⟨rfl,rfl⟩:=hC;go_upto_region 22 with(refine eN rfl 71 (.tmp 92) (.tmp 89) rfl g 0 _ rfl rfl Ew.out dy rfl (by show 0+7<=12;omega) rfl ?_;refine jb (fun W2 hW2=>?_));have Dv:=ae (show W2.heap[g]? =some (.cells (cO ⟨l,false,a.pts,a.c,a.file,a.dead⟩ (.slice ba bn bc) (.slice ta tl tc) (.slice (some ⟨pb,0,none⟩) pn pc) gd) 78) by rw[hW2];exact setRow_heap _ _ _ _ _ _ Ew.out);have eS:=ae (show bU (MT [78] B) W W2 by rw[hW2];exact gr Ew.out Fu.out _);clear hW2 y0 y1 y2 y3 y4 y5 y6 Ew;have C1:iq (MT [78] B):=fun k C t ht=>MT.not (by rcases ht with rfl|rfl|rfl<;>decide)
 have G4:=ae (aq.chg ni.out eS.out C1);have Hm:=ae (sx.out.chg eS.out C1);have DL:=ae (HA.out.pts.chg eS.out C1 (fun k C _=>MT.not (by decide)));clear C1 ni sx;obtain⟨E,hE1,hE2,qN⟩:=DL.out;have xG:=ae hE1;have qj:=ae hE2;have xk:=ae qN;obtain⟨hs1,hs2,hs3,hs4,_⟩:=hE2.slab (i:=i) (by omega);have zH:=ae hs1;have HRW:=ae hs4;rw[Nat.mul_one] at HRW;clear hE1 hE2 qN hs1 hs3 hs4 DL;have d7:W2.cell? ⟨g,7,none⟩=some (.slice (some ⟨pb,0,none⟩) pn pc):=(af (j:=7) Dv.out).trans rfl;go_wp2_with fail;refine(sL _ ((E.map Ve.row).drop i) W2 (HRW.out _ _ rfl) (fun r hr=>qj.out.1 r (List.mem_of_mem_drop hr)) (by rw[List.length_drop];have:=zH.out;omega)).mono ?_;rintro r w7 ⟨⟨v7,rfl,mT⟩,gS⟩;obtain⟨va,vc,hv7⟩:=al.slice mT;obtain⟨vn,hvn⟩:∃z,z=((E.map Ve.row).drop i).length :=⟨_,rfl⟩;rw[<-hvn] at hv7;clear hvn;subst hv7;have lw:=ae mT;have cU:=ae gS;have FW:=ae (aj gS Dv.out);clear mT gS d7;go_wp2_with (refine bC rfl 31 (.tmp 104) (.tmp 101) rfl g 7 _ rfl rfl rfl rfl FW.out (by kernel_rfl) (by show 7+1<=12;omega) ?_;refine jb (fun W8 xu=>?_);have oZ:=ae xu;clear xu);have zI:bU (MT [78] B) w7 W8:=by rw[oZ.out];exact gr FW.out Fu.out _
 have LE:W8.heap[g]? =some (.cells (cO ⟨l,false,a.pts.drop i,a.c,a.file,a.dead⟩ (.slice ba bn bc) (.slice ta tl tc) (.slice va vn vc) gd) 78):=by rw[oZ.out];exact setRow_heap _ _ _ _ _ _ FW.out
 have tW:iq (MT [78] B):=fun k C t ht=>MT.not (by rcases ht with rfl|rfl|rfl<;>decide)
 have Hq:bU (MT [78] B) W2 w7:=bU.of_below cU.out;have hv7:dJ w7 B (.slice va vn vc) (a.pts.drop i):=⟨E.drop i,by rw[List.map_drop,xG.out],by rw[List.map_drop];exact al.mono lw.out (Nat.le_trans cX.out eS.out.size),fun e he=>aq.still (xk.out e (List.mem_of_mem_drop he)) cU.out⟩;refine iU.out _ _ ⟨LE,Fu.out,aq.chg (aq.still G4.out cU.out) zI tW,(Hm.out.still cU.out).chg zI tW,hv7.chg zI tW (fun k C _=>MT.not (by decide))⟩ ((eS.out.trans Hq).trans zI)
def wE (B g gd i:Nat) (a:Ac) (d:Dk) (p:List Pt) (W:World) (r:Ending) (w':World):Prop:=
 bU (MA B) W w'/\cT w' B gd (a.fgtD i p d).2 /\r=.returned (.int .i64 (a.fgtD i p d).1)/\
  (((a.fgtD i p d).1 =0/\∃bv' sv' pv',aU w' B g gd (a.fgt i p) bv' sv' pv')∨((a.fgtD i p d).1 ≠0/\∃a' bv' sv' pv',aU w' B g gd a' bv' sv' pv'/\a'.lg=a.lg/\a'.pts=a.pts/\a'.c=a.c/\a'.dead=true))
theorem oX {s1 s2 s3 s4 s5 s6 s10 s11 s12 s13 s14 s15 s16 s17 s18 s19 s20 s21 s22 s23 s24 s25 s26 s27 s28 s29 s30 s31 s32 s33 s34 s35 s36 s37 s38 s39 s40 s41 s42 s43 s44 s45 s46 s47 s48 s49 s50 s51 s52 s53 s54 s55 s56 s57 s58 s59 s60 s61 s62 s63 s64 s65 s66 s67 s68 s69 s70 s71 s72 s73 s74 s75 s76 s77 s78 s79 s80 s81 s82 s83 s84 s85 s86 s87 s88 s89 s90 s91 s92 s93 s94 s95 s96 s97 s98 s99 s100 s101 s102 s103 s104:Value} (B g gd lb i N:Nat) (a:Ac) (d:Dk) (p:List Pt) (ba ta:Option Addr) (bn bc tl tc:Nat) (bv sv pv:Value) (W:World) (post:Ending->World->Prop) (C D D2:Code) (hC:Tryz.f27.body.bind (cy 15)=some (.seq (.seq C D) D2)) (K K2:Act->World->Prop)
 (hA:aU W B g gd a bv sv pv) (OZ:cT W B gd d) (hH:aS N d a) (hN:N<=38) (hl:W.heap[lb]? =some (.cells #[.int .i64 (a.lg.age+1),.int .i64 a.c,.int .i64 (a.lg.first+(i:Int)),.slice ba bn bc,.slice ta tl tc,.bool false,.bool false] 71)) (hb:aq W B (.slice ba bn bc) p) (hss:cF W B (.slice ta tl tc) (a.lg.steps.drop i)) (hB:B<=W.heap.size) (hi:0<i) (hp:a.pts[i]? =some p)
 (HP:∀r w',wE B g gd i a d p W r w'->post r w') (Et:∀a' w',Code.wp Tryz.prog D (Exit.then K2 (bodyPost Tryz.prog Tryz.f27 post)) a' w'->K a' w') (Iq:∀a' w',Code.wp Tryz.prog D2 (bodyPost Tryz.prog Tryz.f27 post) a' w'->K2 a' w'):
 Code.wp Tryz.prog C (Exit.then K (Exit.then K2 (bodyPost Tryz.prog Tryz.f27 post))) ({tmps:=List.toArray ((.pointer (some ⟨g,0,none⟩))::s1::s2::s3::s4::s5::s6::(.int .i64 (i:Int))::(.int .i64 a.file)::(.pointer (some ⟨lb,0,none⟩))::s10::s11::s12::s13::s14::s15::s16::s17::s18::s19::s20::s21::s22::s23::s24::s25::s26::s27::s28::s29::s30::s31::s32::s33::s34::s35::s36::s37::s38::s39::s40::s41::s42::s43::s44::s45::s46::s47::s48::s49::s50::s51::s52::s53::s54::s55::s56::s57::s58::s59::s60::s61::s62::s63::s64::s65::s66::s67::s68::s69::s70::s71::s72::s73::s74::s75::s76::s77::s78::s79::s80::s81::s82::s83::s84::s85::s86::s87::s88::s89::s90::s91::s92::s93::s94::s95::s96::s97::s98::s99::s100::s101::s102::s103::s104::[]),defers:=[]} :Act) W:=by
 have hln:=hH.runs.len;have hfew:=hH.few;have hlow:=hH.low;have hyg:=hH.young;have hil:=(List.getElem?_eq_some_iff.1 hp).1;have hfi:=hH.file_of (fun e=>by rw[e] at hln;simp at hln;omega);have hpk:dM p:=hH.runs.ok hH.ok.base hH.ok.steps p (List.mem_of_getElem? hp);have hc1:=hH.c1;have hc2:=hH.c2;have hok:gG (a.lgF i p):=by
  refine⟨?_,?_,?_,hpk,fun s hs=>hH.ok.steps s (List.mem_of_mem_drop hs)⟩
  ·show di (a.lg.age+1);unfold di;omega
  ·show di a.c;unfold di;omega
  ·show di (a.lg.first+i);unfold di;omega
 have hlen:(a.lgF i p).steps.length =a.lg.steps.length-i:=by simp[Ac.lgF]
 have hrw:=zZ hH (by omega) hok rfl rfl (hH.runs.drop hp) (by
  show 0<=a.lg.first+i/\a.lg.first+i+(a.lgF i p).steps.length <=(N+1:Nat)
  omega)
 obtain⟨⟨e1,D1⟩,hx1⟩:∃y,y=d.rw (dG a.file) (bG (cE (a.lgF i p))):=⟨_,rfl⟩;rw[<-hx1] at hrw;simp only at hrw;have JN:e1=0->iV D1:=fun he=>by
  rcases hrw with⟨_,h,_⟩ | ⟨h,_⟩
  ·exact h.dk (by omega)
  ·exact absurd (he.symm.trans h) (by decide)
 have hfg:a.fgtD i p d=if e1≠0 then(e1,D1) else D1.op a.file Fi.clr:=by
  unfold Ac.fgtD;rw[<-hx1]
 have HRW:=ae (show ∀W,aU W B g gd a bv sv pv->cT W B gd d->aq W B (.slice ba bn bc) p->cF W B (.slice ta tl tc) (a.lg.steps.drop i)->B<=W.heap.size->Calls Tryz.prog 54 #[.pointer (some ⟨g,0,none⟩),.agg #[.int .i64 (a.lg.age+1),.int .i64 a.c,.int .i64 (a.lg.first+(i:Int)),.slice ba bn bc,.slice ta tl tc,.bool false,.bool false]] W fun r w'=>r=.returned (.int .i64 e1)/\cT w' B gd D1/\aU w' B g gd (a.done e1 (dG a.file)) bv sv pv/\bU (MA B) W w' from fun W h1 h2 h3 h4 h5=>by
  have:=mj B g gd N a d bv sv pv (.slice ba bn bc) (.slice ta tl tc) (a.lgF i p) false false B (dG a.file) W h1 h2 hH (by omega) h3 h4 hok (by omega) h5 rfl (by have:=rC hok;omega) (e1,D1) hx1
  exact this)
 have Ek:=ae hfi;have L1:=ae JN;have MY:=ae hfg;have GG:=ae hH.dead;have HA:=ae hA;have Ro:=ae OZ;have HL:=ae hl;have ni:=ae hb;have sx:=ae hss;have cX:=ae hB;have Lh:=ae hil;have iQ:=ae (show a.pts.length<=100 by omega);have iU:=ae HP;have y0:W.cell? ⟨lb,0,none⟩=some (.int .i64 (a.lg.age+1)):=(af (j:=0) hl).trans rfl;have y1:W.cell? ⟨lb,1,none⟩=some (.int .i64 a.c):=(af (j:=1) hl).trans rfl;have y2:W.cell? ⟨lb,2,none⟩=some (.int .i64 (a.lg.first+(i:Int))):=(af (j:=2) hl).trans rfl;have y3:W.cell? ⟨lb,3,none⟩=some (.slice ba bn bc):=(af (j:=3) hl).trans rfl;have y4:W.cell? ⟨lb,4,none⟩=some (.slice ta tl tc):=(af (j:=4) hl).trans rfl;have y5:W.cell? ⟨lb,5,none⟩=some (.bool false):=(af (j:=5) hl).trans rfl;have y6:W.cell? ⟨lb,6,none⟩=some (.bool false):=(af (j:=6) hl).trans rfl;clear hA OZ hH hl hb hss hB HP hrw hfi hpk hc1 hc2 hok hlen JN hfg hx1 hln hfew hlow hyg hil hp;simp[cy,eV,Tryz.f27] at hC;obtain⟨⟨rfl,rfl⟩,rfl⟩:=hC;go_wp2_with fail;refine(HRW.out W HA.out Ro.out ni.out sx.out cX.out).mono ?_;rintro r w1 ⟨rfl,hk1,ha1,hc1⟩;have lT:=ae hk1;have HA1:=ae ha1;have gj:=ae hc1;clear hk1 ha1 hc1 y0 y1 y2 y3 y4 y5 y6 HRW;by_cases hz:e1≠0
 ·have d2:(e1 != 0)=true:=by simpa using hz
  have HZ:=ae hz;clear hz;go_wp2_with fail;have hx:a.fgtD i p d=(e1,D1):=by rw[MY.out,if_pos HZ.out]
  refine iU.out _ _ ⟨gj.out,by rw[hx];exact lT.out,by rw[hx];rfl,.inr ⟨by rw[hx];exact HZ.out,{a with dead:=true},bv,sv,pv,?_,rfl,rfl,rfl,rfl⟩⟩;have h9:=HA1.out;unfold Ac.done at h9;rw[if_neg HZ.out] at h9;exact h9
 ·have hz0:e1=0:=by simpa using hz
  subst hz0;clear hz
  have HA2:=ae (show aU w1 B g gd {a with file:=dG a.file} bv sv pv by
   have h9:=HA1.out;unfold Ac.done at h9;rw[if_pos rfl] at h9
   exact h9)
  have HX:=ae (show a.fgtD i p d=D1.op a.file Fi.clr by rw[MY.out,if_neg (by simp)]);clear HA1 MY;obtain⟨⟨e2,D2⟩,hx2⟩:∃y,y=D1.op a.file Fi.clr:=⟨_,rfl⟩;rw[<-hx2] at HX;have eS:=ae (show Calls Tryz.prog 55 #[.pointer (some ⟨gd,0,none⟩),.int .i64 a.file] w1 fun r w'=>r=.returned (.int .i64 e2)/\cT w' B gd D2/\bU (MD B) w1 w' by have:=qr gd B D1 a.file w1 lT.out (L1.out rfl) Ek.out;rw[<-hx2] at this;exact this);have c8:w1.cell? ⟨g,8,none⟩=some (.pointer (some ⟨gd,0,none⟩)):=HA2.out.cell 8;have qS:=ae (show w1.heap[lb]? =some (.cells #[.int .i64 (a.lg.age+1),.int .i64 a.c,.int .i64 (a.lg.first+(i:Int)),.slice ba bn bc,.slice ta tl tc,.bool false,.bool false] 71) from gj.out.block lb _ HL.out (MT.not (by decide)));have IN:=ae (aq.chg ni.out gj.out (MA.kept B));have pz:=ae (sx.out.chg gj.out (MA.kept B));have Kw:=ae (Nat.le_trans cX.out gj.out.size);clear hx2 HL ni sx cX;go_wp2_with fail;refine eS.out.mono ?_;rintro r w2 ⟨rfl,hk2,hc2⟩;have vF:=ae hk2;have gA:=ae (HA2.out.disk hc2);have Dy:=ae (hc2.block lb _ qS.out (MT.not (by decide)));have G4:=ae (aq.chg IN.out hc2 (MD.kept B));have Hm:=ae (pz.out.chg hc2 (MD.kept B));have xI:=ae (Nat.le_trans Kw.out hc2.size);have qb:=ae (gj.out.trans (MA.of_disk hc2));clear hk2 hc2 c8 eS HA2 qS IN pz Kw gj lT;by_cases hz:e2≠0
  ·have d2:(e2 != 0)=true:=by simpa using hz
   have HZ:=ae hz;clear hz;go_wp2_with fail;refine(dv B g gd {a with file:=dG a.file} bv sv pv e2 true w2 gA.out GG.out d2).mono ?_;rintro r w9 ⟨rfl,j5,gH⟩;have nc:=ae j5;have ll:=ae gH;clear j5 gH;go_wp2_with fail;refine iU.out _ _ ⟨qb.out.trans (MA.of_arc ll.out),by rw[HX.out];exact vF.out.arc ll.out,by rw[HX.out];rfl,.inr ⟨by rw[HX.out];exact HZ.out,_,bv,sv,pv,nc.out,rfl,rfl,rfl,rfl⟩⟩
  ·have hz0:e2=0:=by simpa using hz
   subst hz0;clear hz;go_upto_region 21 with fail;obtain⟨pa,pc,hpv⟩:=gA.out.pts.slice;have hp2:=gA.out.pts;obtain⟨E9,hE1,hE2,_⟩:=hp2;obtain⟨pb,pc2,cur9,hpv2,_⟩:=hE2.rows (by have:=congrArg List.length hE1;rw[List.length_map] at this⊢;have:=Lh.out;simp only at*;omega);rw[hpv] at hpv2;injection hpv2 with hpa _ _
   subst hpa;subst hpv;refine sX B g gd lb i {a with file:=dG a.file} (a.lgF i p) ba ta bn bc tl tc pb _ pc bv sv w2 post _ _ (by kernel_rfl) _ gA.out Dy.out G4.out Hm.out xI.out Lh.out iQ.out ?_ (by assumption);intro pv' w' j5 gH;refine iU.out _ _ ⟨qb.out.trans (MA.of_arc gH),by rw[HX.out];exact vF.out.arc gH,by rw[HX.out],.inl ⟨by rw[HX.out],.slice ba bn bc,.slice ta tl tc,pv',?_⟩⟩;have h8:a.fgt i p=⟨a.lgF i p,false,a.pts.drop i,a.c,dG a.file,a.dead⟩:=by unfold Ac.fgt;rw[GG.out]
   rw[h8];exact j5
end Go.Proofs.YtcclpdfmmdonpaaGreat
