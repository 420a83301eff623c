/- What stands between the steps of a script: the archive, its disk, and the reference's archive beside it. The end of a step (17), and the kinds of steps that change nothing but the disk: pieces. -/
import Derived.Test.YtcclpdfmmdonpaaGreatTRefA
import Derived.Test.YtcclpdfmmdonpaaGreatTOpe
namespace Go.Proofs.YtcclpdfmmdonpaaGreat
set_option maxHeartbeats 3200000
set_option maxRecDepth 100000
open Go.RowKit Go.WideShapes Go.ChangeAt Go.Maps Go.Sort
theorem iE (va vb:Value) (A B:List Te) (w:World) (ha:cQ w va A) (hb:cQ w vb B) (hla:A.length<=1000000) (hlb:B.length<=1000000) (hpa:∀e∈A,e.pts.length<=maxLen) (hpb:∀e∈B,e.pts.length<=maxLen):
 Calls Tryz.prog 43 #[va,vb] w fun r w'=>(∃v e K,r=.returned (.tuple #[v,.int .i64 e])/\bW w' w.heap.size v K/\jn (A.map Te.tl) (B.map Te.tl) e K)/\Below w.heap.size w w':=by
 obtain⟨ga,hga⟩:∃ga,ga=decide (cd (A.map Te.tl)):=⟨_,rfl⟩;obtain⟨gb,hgb⟩:∃gb,gb=decide (cd (B.map Te.tl)):=⟨_,rfl⟩;have Lb:=ae (fun W (h:cQ W va A)=>show Calls Tryz.prog 73 #[va] W fun r w'=>r=.returned (.bool ga)/\Below W.heap.size W w' from hga▸rU va A W h hla hpa);have Jh:=ae (fun W (h:cQ W vb B)=>show Calls Tryz.prog 73 #[vb] W fun r w'=>r=.returned (.bool gb)/\Below W.heap.size W w' from hgb▸rU vb B W h hlb hpb);have HAT:=ae (fun h:ga=true=>of_decide_eq_true (show decide (cd (A.map Te.tl))=true from hga▸h));have JM:=ae (fun h:ga=false=>of_decide_eq_false (show decide (cd (A.map Te.tl))=false from hga▸h));have ka:=ae (fun h:gb=true=>of_decide_eq_true (show decide (cd (B.map Te.tl))=true from hgb▸h));have pg:=ae (fun h:gb=false=>of_decide_eq_false (show decide (cd (B.map Te.tl))=false from hgb▸h));clear hga hgb;have HA:=ae ha;have HB:=ae hb;clear ha hb;go_enter Tryz.func43,Tryz.ntmps43;go_wp2_with fail;refine(Lb.out w HA.out).mono ?_;rintro r w1 ⟨rfl,hb1⟩;have HB1:=ae hb1;have HA1:=ae (HA.out.still hb1);have mS:=ae (HB.out.still hb1);clear hb1 Lb
 cases ga
 ·have HR:=ae (jn.bad (B:=B.map Te.tl) (fun h=>JM.out rfl h.1));clear Jh HAT JM ka pg;go_wp2_with fail;go_ret2;exact⟨⟨_,_,[],rfl,bW.nil _ _,HR.out⟩,HB1.out⟩
 have NT:=ae (HAT.out rfl);clear HAT JM;go_wp2_with fail;refine(Jh.out w1 mS.out).mono ?_;rintro r w2 ⟨rfl,hb2⟩;have HB2:=ae (HB1.out.trans (hb2.mono HB1.out.size));have HA2:=ae (HA1.out.still hb2);have xR:=ae (mS.out.still hb2);clear hb2 Jh
 cases gb
 ·have HR:=ae (jn.bad (A:=A.map Te.tl) (fun h=>pg.out rfl h.2));clear ka pg;go_wp2_with fail;go_ret2;exact⟨⟨_,_,[],rfl,bW.nil _ _,HR.out⟩,HB2.out⟩
 have gi:=ae (ka.out rfl);clear ka pg;go_wp2_with fail;refine(q9 va vb A B w2 HA2.out xR.out NT.out.order hla hlb hpa hpb).mono ?_;rintro r w3 ⟨⟨v,K,rfl,hk,hc⟩,hb3⟩;have HB3:=ae (HB2.out.trans (hb3.mono HB2.out.size));have HK:=ae (show bW w3 w.heap.size v K from al.mono hk HB2.out.size);have HR:=ae (jn.good NT.out gi.out hc);clear hk hc hb3;go_wp2_with fail;go_ret2;exact⟨⟨_,_,K,rfl,HK.out,HR.out⟩,HB3.out⟩
structure pf (W:World) (B g gd bb N:Nat) (a:Ac) (d:Dk) (bv sv pv vv rv:Value):Prop where
 arc:aU W B g gd a bv sv pv
 dk:cT W B gd d
 hol:aS N d a
 bx:W.heap[bb]? =some (.cells (eI a.c vv rv) 33)
 hb:B<=bb
 vs:aI W B vv (aT a.lg.first a.pts.length)
 ps:dJ W B rv a.pts
 sep:∀k,rv.ownBlock=some k->pv.ownBlock≠some k
 hB:B<=W.heap.size
theorem pf.still {W W':World} {B g gd bb N:Nat} {a:Ac} {d:Dk} {bv sv pv vv rv:Value} (h:pf W B g gd bb N a d bv sv pv vv rv) (hb:Below W.heap.size W W'):pf W' B g gd bb N a d bv sv pv vv rv:=
 ⟨h.arc.still hb,h.dk.still hb,h.hol,aj hb h.bx,h.hb,al.grow h.vs hb,h.ps.still hb,h.sep,Nat.le_trans h.hB hb.size⟩
theorem pf.mono {W:World} {B g gd bb N M:Nat} {a:Ac} {d:Dk} {bv sv pv vv rv:Value} (h:pf W B g gd bb N a d bv sv pv vv rv) (hN:N<=M):pf W B g gd bb M a d bv sv pv vv rv:=
 ⟨h.arc,h.dk,h.hol.mono hN,h.bx,h.hb,h.vs,h.ps,h.sep,h.hB⟩
theorem pf.pos {W:World} {B g gd bb N:Nat} {a:Ac} {d:Dk} {bv sv pv vv rv:Value} (h:pf W B g gd bb N a d bv sv pv vv rv):a.pts.length=a.lg.steps.length+1:=h.hol.runs.len
theorem pf.small {W:World} {B g gd bb N:Nat} {a:Ac} {d:Dk} {bv sv pv vv rv:Value} (h:pf W B g gd bb N a d bv sv pv vv rv) (hN:N<=1000):eW a:=h.hol.small hN
def ro (f:Int) (n:Nat) (v:Int):Bool:=decide (f<=v) && decide (v<f+(n:Int))
def jG (f:Int) (L:List (List Pt)) (v:Int):List Pt:=if ro f L.length v=true then L.getD (v-f).toNat [] else []
theorem jy {f:Int} {L:List (List Pt)} {v:Int} (h:ro f L.length v=true):∃(i:Nat) (p:List Pt),L[i]? =some p/\v=f+(i:Int)/\jG f L v=p/\i=(v-f).toNat :=by
 have h':=h;simp only[ro,Bool.and_eq_true,decide_eq_true_eq] at h';have hi:(v-f).toNat <L.length:=by omega
 refine⟨(v-f).toNat,L[(v-f).toNat],List.getElem?_eq_getElem hi,by omega,?_,rfl⟩;unfold jG;rw[if_pos h,List.getD_eq_getElem?_getD,List.getElem?_eq_getElem hi];rfl
theorem nO {f:Int} {n:Nat} {v:Int} (h:ro f n v=false):v<f∨f+(n:Int)<=v:=by
 simp only[ro,Bool.and_eq_false_iff,decide_eq_false_iff_not] at h;omega
theorem wu {f:Int} {L:List (List Pt)} {v:Int} (h:ro f L.length v=false):jG f L v=[]:=by
 unfold jG;rw[if_neg (by rw[h];decide)]
theorem Em {f:Int} {L:List (List Pt)} {i:Nat} {p:List Pt} (h:L[i]? =some p):ro f L.length (f+(i:Int))=true/\jG f L (f+(i:Int))=p:=by
 have hi:=(List.getElem?_eq_some_iff.1 h).1;have hv:ro f L.length (f+(i:Int))=true:=by
  simp only[ro,Bool.and_eq_true,decide_eq_true_eq];omega
 refine⟨hv,?_⟩;unfold jG;rw[if_pos hv,List.getD_eq_getElem?_getD,show(f+(i:Int)-f).toNat =i by omega,h];rfl
theorem ri {f:Int} {L:List (List Pt)} {v:Int} (h:∀p∈L,dM p):dM (jG f L v):=by
 by_cases hv:ro f L.length v=true
 ·obtain⟨i,p,hp,_,he,_⟩:=jy hv;rw[he];exact h p (List.mem_of_getElem? hp)
 ·rw[wu (by simpa using hv)];exact dM.nil
theorem wP (B:Nat) (c f v:Int) (vv pv:Value) (L:List (List Pt)) (w:World) (hv:aI w B vv (aT f L.length)) (hp:dJ w B pv L) (hn:L.length<=1000000) (hf:0<=f/\f<=1000000):
 Calls Tryz.prog 28 #[.agg #[.int .i64 c,vv,pv],.int .i64 v] w fun r w'=>(∃x,r=.returned (.tuple #[x,.bool (ro f L.length v)])/\aq w' B x (jG f L v))/\Below w.heap.size w w':=by
 refine(yh B c f v vv pv L w hv hp hn hf).mono ?_;rintro r w1 ⟨h,hb⟩;refine⟨?_,hb⟩
 rcases h with⟨i,p,x,h1,rfl,rfl,h3⟩ | ⟨h1,rfl⟩
 ·obtain⟨q1,q2⟩:=Em (f:=f) h1;rw[q1,q2];exact⟨x,rfl,h3⟩
 ·have h2:ro f L.length v=false:=by
   simp only[ro,Bool.and_eq_false_iff,decide_eq_false_iff_not];omega
  rw[h2,wu h2];exact⟨_,rfl,al.nil _ _ _ _⟩
theorem jK {d:Dk} {i:Int} {F:Fi->Fi} (h:d.lf=0):(d.op i F).2.lf =0:=by
 unfold Dk.op
 split
 ·exact h
 ·split
  ·rfl
  ·show mW d.lf=0;rw[h];rfl
theorem BX {d:Dk} {i:Int} {bs:List Nat} (h:d.lf=0):(d.rw i bs).2.lf =0:=by
 unfold Dk.rw
 split
 ·exact jK h
 ·split
  ·exact jK (jK h)
  ·exact jK (jK (jK h))
theorem Hv {d:Dk} {i:Int} {bs:List Nat} (h:d.lf=0):(d.put i bs).2.lf =0:=by
 unfold Dk.put
 split
 ·exact jK h
 ·exact jK (jK h)
theorem Ep {a:Ac} {s:gh} {d:Dk} (h:d.lf=0):(a.cmtD s d).2.lf =0:=by
 unfold Ac.cmtD
 split
 ·exact BX h
 ·exact Hv h
theorem EJ {a:Ac} {n:Nat} {p:List Pt} {d:Dk} (h:d.lf=0):(a.fgtD n p d).2.lf =0:=by
 unfold Ac.fgtD
 split
 ·exact BX h
 ·exact jK (BX h)
open Go.RowKit Go.WideShapes Go.ChangeAt Go.Maps Go.Sort
def iD (B gd bb N:Nat) (c:Int) (W:World) (r:Ending) (w':World):Prop:=
 (∃(g':Nat) (a':Ac) (d':Dk) (bv' sv' pv' vv' rv':Value),r=.returned (.pointer (some ⟨g',0,none⟩))/\pf w' B g' gd bb (N+2) a' d' bv' sv' pv' vv' rv'/\a'.c=c/\d'.lf=0)/\Below B W w'
theorem cZ {s0 s3 s4 s5 s6 s7 s8 s9 s10 s11 s12 s14 s15 s16 s17 s18 s19 s20 s21 s22 s23 s24 s25 s26 s27 s28 s29 s30 s31 s32 s33 s34 s35 s36 s37 s38 s39 s40 s41 s42 s43 s44 s45 s46 s47 s48 s49 s50 s51 s52 s53 s54 s55 s56 s57 s58 s59 s60 s61 s62 s63 s64 s65 s66 s67 s68 s69 s70 s71 s72 s73 s74 s75 s76 s77 s78 s79 s80 s81 s82 s83 s84 s85 s86 s87 s88 s89 s90 s91 s92 s93 s94 s95 s96 s97 s98 s99 s100 s101 s102 s103 s104 s105 s106 s107 s108 s109 s110 s111 s112 s113 s114 s115 s116 s117 s118 s119 s120 s121 s122 s123 s124 s125 s126 s127 s128 s129 s130 s131 s132 s133 s134 s135 s136 s137 s138 s139 s140 s141 s142 s143 s144 s145 s146 s147 s148 s149 s150 s151 s152 s153 s154 s155 s156 s157 s158 s159 s160 s161 s162 s163 s164 s165 s166 s167 s168 s169 s170 s171 s172 s173 s174 s175 s176 s177 s178 s179 s180 s181 s182 s183 s184 s185 s186 s187 s188 s189 s190 s191 s192 s193 s194 s195 s196 s197 s198 s199 s200 s201 s202 s203 s204 s205 s206 s207 s208 s209 s210 s211 s212 s213 s214 s215 s216 s217 s218 s219 s220 s221 s222 s223 s224 s225 s226 s227 s228 s229 s230 s231 s232 s233 s234 s235 s236 s237 s238 s239 s240 s241 s242 s243 s244 s245 s246 s247 s248 s249 s250 s251 s252 s253 s254 s255 s256 s257 s258 s259 s260 s261 s262 s263 s264:Value} (B g gd bb N M:Nat) (a:Ac) (d:Dk) (bv sv pv vv rv:Value) (c:Int) (W0 W:World) (post:Ending->World->Prop) (C D D2:Code) (hC:Tryz.f17.body.bind (cy 35)=some (.seq (.seq C D) D2)) (K K2:Act->World->Prop)
 (hS:pf W B g gd bb N a d bv sv pv vv rv) (hN:N<=100) (hM:N<=M+2) (hc:a.c=c) (hl:d.lf=0) (hb:Below B W0 W) (HP:∀r w',iD B gd bb M c W0 r w'->post r w') (Et:∀a' w',Code.wp Tryz.prog D (Exit.then K2 (bodyPost Tryz.prog Tryz.f17 post)) a' w'->K a' w') (Iq:∀a' w',Code.wp Tryz.prog D2 (bodyPost Tryz.prog Tryz.f17 post) a' w'->K2 a' w'):
 Code.wp Tryz.prog C (Exit.then K (Exit.then K2 (bodyPost Tryz.prog Tryz.f17 post))) ({tmps:=List.toArray (s0::(.pointer (some ⟨g,0,none⟩))::(.pointer (some ⟨bb,0,none⟩))::s3::s4::s5::s6::s7::s8::s9::s10::s11::s12::(.bool true)::s14::s15::s16::s17::s18::s19::s20::s21::s22::s23::s24::s25::s26::s27::s28::s29::s30::s31::s32::s33::s34::s35::s36::s37::s38::s39::s40::s41::s42::s43::s44::s45::s46::s47::s48::s49::s50::s51::s52::s53::s54::s55::s56::s57::s58::s59::s60::s61::s62::s63::s64::s65::s66::s67::s68::s69::s70::s71::s72::s73::s74::s75::s76::s77::s78::s79::s80::s81::s82::s83::s84::s85::s86::s87::s88::s89::s90::s91::s92::s93::s94::s95::s96::s97::s98::s99::s100::s101::s102::s103::s104::s105::s106::s107::s108::s109::s110::s111::s112::s113::s114::s115::s116::s117::s118::s119::s120::s121::s122::s123::s124::s125::s126::s127::s128::s129::s130::s131::s132::s133::s134::s135::s136::s137::s138::s139::s140::s141::s142::s143::s144::s145::s146::s147::s148::s149::s150::s151::s152::s153::s154::s155::s156::s157::s158::s159::s160::s161::s162::s163::s164::s165::s166::s167::s168::s169::s170::s171::s172::s173::s174::s175::s176::s177::s178::s179::s180::s181::s182::s183::s184::s185::s186::s187::s188::s189::s190::s191::s192::s193::s194::s195::s196::s197::s198::s199::s200::s201::s202::s203::s204::s205::s206::s207::s208::s209::s210::s211::s212::s213::s214::s215::s216::s217::s218::s219::s220::s221::s222::s223::s224::s225::s226::s227::s228::s229::s230::s231::s232::s233::s234::s235::s236::s237::s238::s239::s240::s241::s242::s243::s244::s245::s246::s247::s248::s249::s250::s251::s252::s253::s254::s255::s256::s257::s258::s259::s260::s261::s262::s263::s264::[]),defers:=[]} :Act) W:=by
 have hpos:=hS.pos;have QM:=ae (fun W1 (hb:Below W.heap.size W W1)=>pZ B B g gd a bv sv pv vv rv a.c W1 (hS.still hb).arc (hS.small (by omega)) (hS.still hb).vs (hS.still hb).ps (by omega));have HS:=ae hS;have iU:=ae HP;have HC:=ae hc;have HL:=ae hl;have HB:=ae hb;obtain⟨va,vc,hvv⟩:=al.slice hS.vs;obtain⟨vn,hvn⟩:∃z,z=((aT a.lg.first a.pts.length).map bB).length :=⟨_,rfl⟩;rw[<-hvn] at hvv;subst hvv;obtain⟨ra,rc,hrv⟩:=hS.ps.slice;obtain⟨rn,hrn⟩:∃z,z=a.pts.length:=⟨_,rfl⟩;rw[<-hrn] at hrv;subst hrv;have b0:W.cell? ⟨bb,0,none⟩=some (.int .i64 a.c):=(af (j:=0) hS.bx).trans rfl;have b1:W.cell? ⟨bb,1,none⟩=some (.slice va vn vc):=(af (j:=1) hS.bx).trans rfl;have b2:W.cell? ⟨bb,2,none⟩=some (.slice ra rn rc):=(af (j:=2) hS.bx).trans rfl;clear hS hpos hvn hrn HP hc hl hb;simp[cy,eV,Tryz.f17] at hC;obtain⟨⟨rfl,rfl⟩,rfl⟩:=hC;go_wp2_with fail;refine(QM.out W (Below.refl _ _)).mono ?_;rintro r w1 ⟨rfl,hb1⟩;have HB1:=ae hb1;clear hb1 b0 b1 b2;go_wp2_with fail;exact iU.out _ _ ⟨⟨g,a,d,bv,sv,pv,_,_,rfl,(HS.out.still HB1.out).mono hM,HC.out,HL.out⟩,HB.out.trans (HB1.out.mono HS.out.hB)⟩
theorem uW {s3 s4 s5 s6 s8 s14 s15 s16 s17 s18 s19 s20 s21 s22 s23 s24 s25 s26 s27 s28 s29 s30 s31 s32 s33 s34 s35 s36 s37 s38 s39 s40 s41 s42 s43 s44 s45 s46 s47 s48 s49 s50 s51 s52 s53 s54 s55 s56 s57 s58 s59 s60 s61 s62 s63 s64 s65 s66 s67 s68 s69 s70 s71 s72 s73 s74 s75 s76 s77 s78 s79 s80 s81 s82 s83 s84 s85 s86 s87 s88 s89 s90 s91 s92 s93 s94 s95 s96 s97 s98 s99 s100 s101 s102 s103 s104 s105 s106 s107 s108 s109 s110 s111 s112 s113 s114 s115 s116 s117 s118 s119 s120 s121 s122 s123 s124 s125 s126 s127 s128 s129 s130 s131 s132 s133 s134 s135 s136 s137 s138 s139 s140 s141 s142 s143 s144 s145 s146 s147 s148 s149 s150 s151 s152 s153 s154 s155 s156 s157 s158 s159 s160 s161 s162 s163 s164 s165 s166 s167 s168 s169 s170 s171 s172 s173 s174 s175 s176 s177 s178 s179 s180 s181 s182 s183 s184 s185 s186 s187 s188 s189 s190 s191 s192 s193 s194 s195 s196 s197 s198 s199 s200 s201 s202 s203 s204 s205 s206 s207 s208 s209 s210 s211 s212 s213 s214 s215 s216 s217 s218 s219 s220 s221 s222 s223 s224 s225 s226 s227 s228 s229 s230 s231 s232 s233 s234 s235 s236 s237 s238 s239 s240 s241 s242 s243 s244 s245 s246 s247 s248 s249 s250 s251 s252 s253 s254 s255 s256 s257 s258 s259 s260 s261 s262 s263 s264:Value} (B g gd bb qs N:Nat) (a:Ac) (d:Dk) (bv sv pv vv rv xv yv av rw:Value) (b1 b2:Bool) (k v u k0 k1:Int) (W0 W:World) (post:Ending->World->Prop) (C D D2:Code) (hC:Tryz.f17.body.bind (cy 4)=some (.seq (.seq C D) D2)) (K K2:Act->World->Prop)
 (hS:pf W B g gd bb N a d bv sv pv vv rv) (hN:N<=38) (_hl:d.lf=0) (hbx:W.heap[qs]? =some (.cells #[.int .i64 k,.int .i64 v,.int .i64 u,av,rw,.int .i64 k0,.int .i64 k1] 54)) (hk:(IntKind.u64.wrap k).tmod 5=4) (hb:Below B W0 W)
 (HP:∀r w',iD B gd bb N a.c W0 r w'->post r w') (Et:∀a' w',Code.wp Tryz.prog D (Exit.then K2 (bodyPost Tryz.prog Tryz.f17 post)) a' w'->K a' w') (Iq:∀a' w',Code.wp Tryz.prog D2 (bodyPost Tryz.prog Tryz.f17 post) a' w'->K2 a' w'):
 Code.wp Tryz.prog C (Exit.then K (Exit.then K2 (bodyPost Tryz.prog Tryz.f17 post))) ({tmps:=List.toArray ((.pointer (some ⟨gd,0,none⟩))::(.pointer (some ⟨g,0,none⟩))::(.pointer (some ⟨bb,0,none⟩))::s3::s4::s5::s6::(.pointer (some ⟨qs,0,none⟩))::s8::xv::(.bool b1)::yv::(.bool b2)::(.bool true)::s14::s15::s16::s17::s18::s19::s20::s21::s22::s23::s24::s25::s26::s27::s28::s29::s30::s31::s32::s33::s34::s35::s36::s37::s38::s39::s40::s41::s42::s43::s44::s45::s46::s47::s48::s49::s50::s51::s52::s53::s54::s55::s56::s57::s58::s59::s60::s61::s62::s63::s64::s65::s66::s67::s68::s69::s70::s71::s72::s73::s74::s75::s76::s77::s78::s79::s80::s81::s82::s83::s84::s85::s86::s87::s88::s89::s90::s91::s92::s93::s94::s95::s96::s97::s98::s99::s100::s101::s102::s103::s104::s105::s106::s107::s108::s109::s110::s111::s112::s113::s114::s115::s116::s117::s118::s119::s120::s121::s122::s123::s124::s125::s126::s127::s128::s129::s130::s131::s132::s133::s134::s135::s136::s137::s138::s139::s140::s141::s142::s143::s144::s145::s146::s147::s148::s149::s150::s151::s152::s153::s154::s155::s156::s157::s158::s159::s160::s161::s162::s163::s164::s165::s166::s167::s168::s169::s170::s171::s172::s173::s174::s175::s176::s177::s178::s179::s180::s181::s182::s183::s184::s185::s186::s187::s188::s189::s190::s191::s192::s193::s194::s195::s196::s197::s198::s199::s200::s201::s202::s203::s204::s205::s206::s207::s208::s209::s210::s211::s212::s213::s214::s215::s216::s217::s218::s219::s220::s221::s222::s223::s224::s225::s226::s227::s228::s229::s230::s231::s232::s233::s234::s235::s236::s237::s238::s239::s240::s241::s242::s243::s244::s245::s246::s247::s248::s249::s250::s251::s252::s253::s254::s255::s256::s257::s258::s259::s260::s261::s262::s263::s264::[]),defers:=[]} :Act) W:=by
 have hdk:=hS.hol.dk (by omega);obtain⟨Jq,J2⟩:=hS.hol.crash k0 k1;have s0:=hS.hol.safe 0;have s1:=hS.hol.safe 1;simp only[Dk.get,if_pos,if_neg (show ¬(1:Int)=0 by decide)] at s0 s1;have hck:iV (d.crash k0 k1):=by
  unfold Dk.crash;rw[cJ s0,cJ s1];exact⟨Int.le_refl _,(show(0:Int)<=9223372036854775807 by decide),hdk.s0,hdk.s1,hdk.n0,hdk.n1⟩
 have HDK:=ae hdk;have Ih:=ae hck;have HR1:=ae Jq;have HR2:=ae J2;have HS:=ae hS;have iU:=ae HP;have HB:=ae hb;have x0:W.cell? ⟨qs,0,none⟩=some (.int .i64 k):=(af (j:=0) hbx).trans rfl;have x5:W.cell? ⟨qs,5,none⟩=some (.int .i64 k0):=(af (j:=5) hbx).trans rfl;have x6:W.cell? ⟨qs,6,none⟩=some (.int .i64 k1):=(af (j:=6) hbx).trans rfl;clear hS HP hb hbx hdk hck Jq J2 s0 s1;simp[cy,eV,Tryz.f17] at hC;obtain⟨⟨rfl,rfl⟩,rfl⟩:=hC;go_wp2_with fail;refine(ye gd B d k0 k1 W HS.out.dk HDK.out HS.out.hB).mono ?_;rintro r w1 ⟨rfl,hd1,hc1⟩;have HD1:=ae hd1;have gj:=ae hc1;clear hd1 hc1 x0 x5 x6 hk;go_wp2_with fail;refine(yL gd B (d.crash k0 k1) w1 HD1.out Ih.out (Nat.le_trans HS.out.hB gj.out.size)).mono ?_;rintro r w2 ⟨rfl,hd2,hc2⟩;rw[HR1.out] at hd2;have HD2:=ae hd2;have eS:=ae (gj.out.trans hc2);clear hd2 hc2 HD1 gj Ih HDK HR1;have mK:=ae (show w2.heap[bb]? =some (.cells (eI a.c vv rv) 33) from eS.out.block bb _ HS.out.bx (MT.not (by decide)));have Dc:=ae (aI.chg HS.out.vs eS.out (MD.kept B));have DL:=ae (HS.out.ps.chg eS.out (MD.kept B) (fun k C _=>MT.not (by decide)));have HZ2:=ae (Nat.le_trans HS.out.hB eS.out.size);have LL:=ae (show Below B W w2 from eS.out.below (fun k o=>MT.ge k o) HS.out.hB);have b0:w2.cell? ⟨bb,0,none⟩=some (.int .i64 a.c):=(af (j:=0) mK.out).trans rfl;go_wp2_with fail;refine(wZ gd B N ⟨false,0,d.f0,d.f1⟩ a a.c w2 HD2.out HR2.out (by omega) rfl).mono ?_;rintro r w3 ⟨⟨ga,bv',sv',pv',a',rfl,ha,hh,hp,hf,hc⟩,hb3⟩;have gA:=ae ha;have Dj:=ae hh;have xO:=ae hp;have QZ:=ae hf;have FJ:=ae hc;have HB3:=ae hb3;clear ha hh hp hf hc hb3 b0;go_upto_region 35 with fail;refine cZ B ga gd bb N N a' ⟨false,0,d.f0,d.f1⟩ bv' sv' pv' vv rv a.c W0 w3 post _ _ _ (by kernel_rfl) _ _ ⟨gA.out.mono HZ2.out,HD2.out.still HB3.out,Dj.out,?_,HS.out.hb,?_,?_,?_,Nat.le_trans HZ2.out HB3.out.size⟩ (by omega) (by omega) FJ.out rfl (HB.out.trans (LL.out.trans (HB3.out.mono HZ2.out))) iU.out (by assumption) (by assumption)
 ·rw[FJ.out];exact aj HB3.out mK.out
 ·rw[QZ.out,xO.out];exact al.grow Dc.out HB3.out
 ·rw[xO.out];exact DL.out.still HB3.out
 ·intro k hk1 hk2;obtain⟨E9,_,h9,_⟩:=gA.out.pts;have h1:=al.ownBlock h9 k hk2;obtain⟨E8,_,h8,_⟩:=DL.out;obtain⟨C8,h7⟩:=bo h8 hk1;have:=(Array.getElem?_eq_some_iff.1 h7).1;omega
end Go.Proofs.YtcclpdfmmdonpaaGreat
