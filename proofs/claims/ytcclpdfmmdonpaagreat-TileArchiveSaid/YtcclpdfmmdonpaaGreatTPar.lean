/- What a file says: parse (50). (Printed by wip/gen_par.py.) -/
import Derived.Test.YtcclpdfmmdonpaaGreatTTk2
namespace Go.Proofs.YtcclpdfmmdonpaaGreat
set_option maxRecDepth 100000
open Go.RowKit Go.WideShapes Go.ChangeAt Go.Maps Go.Sort
theorem vi (g B:Nat) (dn:Bool) (lf i:Int) (f0 f1:Fl) (w:World) (h:DX w B g dn lf f0 f1) (hn0:f0.b.length<=1000000) (hn1:f1.b.length<=1000000):
 Calls Tryz.prog 49 #[.pointer (some ⟨g,0,none⟩),.int .i64 i] w fun r w'=>(∃v',r=.returned (.tuple #[v',.int .i64 (cW i dn)])/\w'.ownsRow w.heap.size 5 1 v' (if cW i dn=0 then(if i=0 then f0.b else f1.b) else []).length (cg (if cW i dn=0 then(if i=0 then f0.b else f1.b) else [])))/\Below w.heap.size w w':=by
 have HC:=ae (iI g B dn lf i f0 f1 w h);by_cases hr:cW i dn≠0
 ·rw[if_neg hr];generalize cW i dn=e at*;have d1:(e != 0)=true:=by simpa using hr
  clear h;go_enter Tryz.func49,Tryz.ntmps49;go_wp2_with fail;refine HC.out.mono ?_;rintro r w1 ⟨rfl,hb⟩;go_wp2_with fail;go_ret2;exact⟨⟨_,rfl,World.ownsRow_nil _ _ _ _⟩,hb⟩
 replace hr:cW i dn=0:=by simpa using hr
 obtain⟨rfl,hi⟩:=iy hr;rw[if_pos hr,hr];rw[hr] at HC;have H:=ae h;clear h hr
 rcases hi with rfl|rfl
 ·rw[if_pos rfl];obtain⟨v,b,s⟩:=f0;obtain⟨a1,c1,hv⟩:=bt H.out.o0;obtain rfl:v=.slice a1 b.length c1:=hv;go_enter Tryz.func49,Tryz.ntmps49;go_wp2_with fail;refine HC.out.mono ?_;rintro r w1 ⟨rfl,hb⟩;have HD:=ae (H.out.still hb);have c0:w1.cell? ⟨g,3,none⟩=some (.slice a1 b.length c1):=HD.out.c3;go_wp2_with fail;clear c0;refine(eY _ b _ (iN HD.out.o0) hn0).mono ?_;rintro r w2 ⟨⟨v',rfl,hv'⟩,hb2⟩;have HV:=ae hv';obtain⟨a2,c2,e2⟩:=bt hv';subst e2;clear hv';go_wp2_with fail;go_ret2;exact⟨⟨_,rfl,ff HV.out hb.size⟩,hb.trans (hb2.mono hb.size)⟩
 ·rw[if_neg (by decide)];obtain⟨v,b,s⟩:=f1;obtain⟨a1,c1,hv⟩:=bt H.out.o1;obtain rfl:v=.slice a1 b.length c1:=hv;go_enter Tryz.func49,Tryz.ntmps49;go_wp2_with fail;refine HC.out.mono ?_;rintro r w1 ⟨rfl,hb⟩;have HD:=ae (H.out.still hb);have c0:w1.cell? ⟨g,5,none⟩=some (.slice a1 b.length c1):=HD.out.c5;go_wp2_with fail;clear c0;refine(eY _ b _ (iN HD.out.o1) hn1).mono ?_;rintro r w2 ⟨⟨v',rfl,hv'⟩,hb2⟩;have HV:=ae hv';obtain⟨a2,c2,e2⟩:=bt hv';subst e2;clear hv';go_wp2_with fail;go_ret2;exact⟨⟨_,rfl,ff HV.out hb.size⟩,hb.trans (hb2.mono hb.size)⟩
theorem ym (g B:Nat) (d:Dk) (i:Int) (w:World) (h:cT w B g d) (hd:iV d) (hi:i=0∨i=1) (hu:d.dn=false):
 Calls Tryz.prog 49 #[.pointer (some ⟨g,0,none⟩),.int .i64 i] w fun r w'=>(∃v',r=.returned (.tuple #[v',.int .i64 0])/\w'.ownsRow w.heap.size 5 1 v' (d.get i).b.length (cg (d.get i).b))/\Below w.heap.size w w':=by
 obtain⟨v0,v1,h⟩:=h;refine(vi g B d.dn d.lf i _ _ w h hd.n0 hd.n1).mono ?_;rintro r w1 ⟨⟨v',rfl,h1⟩,hb⟩;have hr:cW i d.dn=0:=by
  unfold cW;rw[if_neg (by omega),hu];rfl
 rw[hr] at h1⊢;have e:(if(0:Int)=0 then(if i=0 then d.f0.b else d.f1.b) else [])=(d.get i).b :=by
  rw[if_pos rfl];unfold Dk.get
  split<;>rfl
 refine⟨⟨v',rfl,?_⟩,hb⟩;rw[<-e];exact h1
theorem Er {w:World} {b off:Nat} {xs rest:List Nat} (h:cY w b off (dA xs++rest).length (fun j=>(dA xs++rest).getD j 0)):DJ w b off xs.length:=by
 obtain⟨h0,h1,h2,h3⟩:=wo xs rest;have hl:4<=(dA xs++rest).length :=by rw[List.length_append,gU];omega
 exact⟨by have:=h 0 (by omega);simp only[h0] at this;exact this,by have:=h 1 (by omega);simp only[h1] at this;exact this,by have:=h 2 (by omega);simp only[h2] at this;exact this,by have:=h 3 (by omega);simp only[h3] at this;exact this⟩
theorem vO {w:World} {b off k:Nat} {xs:List Nat} (hk:4<=k) (hk2:k<=(dA xs).length) (h:cY w b off ((dA xs).take k).length (fun j=>((dA xs).take k).getD j 0)):DJ w b off xs.length:=by
 obtain⟨h0,h1,h2,h3⟩:=Ad xs hk;have hl:4<=((dA xs).take k).length :=by rw[List.length_take];omega
 exact⟨by have:=h 0 (by omega);simp only[h0] at this;exact this,by have:=h 1 (by omega);simp only[h1] at this;exact this,by have:=h 2 (by omega);simp only[h2] at this;exact this,by have:=h 3 (by omega);simp only[h3] at this;exact this⟩
def DZ (r:bj):Nat:=match r with
 | .base _ _ _ _=>98
 | .step _=>101
 | .stamp =>102
theorem AJ (B lb rb b:Nat) (l:Lg) (bv sv:Value) (tn:Bool) (r:bj) (w:World) (h:mN w B lb l bv sv tn) (hok:r.Ok) (hr:aZ w rb 146 b (ir r.data)) (hne:lb≠rb) (hnb:b≠lb) (hbb:b<B) (hrb:B<=rb) (hn:l.steps.length<=10000):
 Calls Tryz.prog (DZ r) #[.pointer (some ⟨lb,0,none⟩),.pointer (some ⟨rb,0,none⟩)] w fun e w'=>e=.returned (.tuple #[])/\∃bv' sv',mN w' B lb (l.next r) bv' sv' tn/\aZ w' rb 146 b (ir [])/\Below B w w'/\dN w w':=by
 have hlt:=(Array.getElem?_eq_some_iff.1 h.hg).1;have hB:=h.hB;have hbw:B<=w.heap.size:=by omega
 cases r with
 |base a c f P=>
  refine(yE lb rb b l bv sv tn a c f P w h.hg hok hr hne hnb).mono ?_;rintro r w1 ⟨rfl,bv',h1,h2,h3,h4⟩;obtain⟨C,hC⟩:=hr.heap;refine⟨rfl,bv',sv,⟨h1,hB,al.mono h2 hbw,?_⟩,h3,h4.below (fun k hk=>by omega) hbw,dN.fr h4 (fun k hk=>by rcases hk with rfl|rfl;exact⟨_,_,_,h.hg⟩;exact⟨_,_,_,hC⟩)⟩
  have key:∀{t sz:Nat} {v:Value} {l:List (List Value)},al w B t sz v l->t≠71->t≠146->al w1 B t sz v l:=fun {t sz v l} h9 e1 e2=>al.frame h9 h4 (fun k hk e=>by
   rcases e with e|e
   ·exact bS h9 h.hg e1 (by rw[<-e];exact hk)
   ·exact bS h9 hC e2 (by rw[<-e];exact hk))
  obtain⟨E,e1,e2,e3⟩:=h.steps;exact⟨E,e1,key e2 (by decide) (by decide),fun e he=>⟨key (e3 e he).1 (by decide) (by decide),key (e3 e he).2 (by decide) (by decide)⟩⟩
 |step s=>
  refine(xQ B lb rb b l bv sv tn s w h hok hr hne hnb hbb hrb hn).mono ?_;rintro r w1 ⟨rfl,sv',h1,h2,h3,h4⟩;exact⟨rfl,bv,sv',h1,h2,h3,h4⟩
 |stamp=>
  refine(xY lb l bv sv _ tn w h.hg).mono ?_;rintro r w1 ⟨rfl,h1,h2⟩;refine⟨rfl,bv,sv,⟨h1,hB,al.other h.base h.hg (by decide) h2,h.steps.other h.hg (by decide) (by decide) (by decide) h2⟩,?_,h2.below (fun k hk=>by omega) hbw,dN.fr h2 (fun k hk=>by subst hk;exact⟨_,_,_,h.hg⟩)⟩;exact hr.same (h2.block rb hr.rb_lt (fun e=>hne e.symm)) (h2.block b hr.b_lt hnb) h2.size
theorem dF.same {P:Program} {W W':World} {k:TypeId} {b n s:Nat} {get:Lit->Option Value} (h:dF P W k b n s get) (hm:dN W W'):dF P W' k b n s get:=by
 obtain⟨D,⟨es,cl,h1,h2⟩,h3⟩:=h;exact⟨D,⟨es,cl,hm b es cl h1,h2⟩,h3⟩
theorem rH (W:World):(zeroValue 142).run Tryz.prog W=.ok .nilFunc W:=by kernel_rfl
theorem dy:(Tryz.prog.info? 71).map (·.size)=some 7:=by kernel_rfl
theorem yw (w:World):
 Calls Tryz.prog 50 #[.slice none 0 0] w fun r w'=>r=.returned (.agg (aP Lg.zero (.slice none 0 0) (.slice none 0 0) false))/\Below w.heap.size w w':=by
 go_enter Tryz.func50,Tryz.ntmps50;go_wp2_with fail;refine(mv _).mono ?_;rintro r w1 ⟨⟨mb,rfl,hmb,hm⟩,hb⟩;obtain⟨lg,hlg⟩:∃lg,lg=Lg.zero:=⟨_,rfl⟩;have rO:=ae (show w1.heap[w.heap.size+1]? =some (.cells (aP lg (.slice none 0 0) (.slice none 0 0) false) 71) by rw[hlg];exact aj hb (by repeat' (first| (refine ai _ _ _ ?_;(first|rfl| (simp;done) | (simp;omega))) | (refine am _ _ _ _ ?_))));have zL:=ae (show w1.heap[w.heap.size]? =some (.cells #[.int .i64 0,.int .i64 0,.int .i64 0,.slice none 0 0,.slice none 0 0,.bool false,.bool false] 71) from aj hb (by repeat' (first| (refine ai _ _ _ ?_;(first|rfl| (simp;done) | (simp;omega))) | (refine am _ _ _ _ ?_))));have gY:=ae (show Below w.heap.size w w1 from(show Below w.heap.size w _ by(focus ((repeat' (first| (with_reducible first|exact Below.refl _ _|assumption|refine Below.alloc ?_ ?_ _|refine Below.drew ?_ |refine below_drewN ?_ _|refine Below.setCell ?_ ?_ _|refine below_setRow ?_ ?_ _) |go_size));done))).trans (hb.mono (by simp;omega)));clear hb hm;go_wp2_with fail;refine wp_loop_rounds 1 ?_;rw[rounds_succ];have z6:w1.frozen? ⟨w.heap.size+1,6,none⟩=false:=by have hh:=rO.out;simp[World.frozen?,hh]
 have y6:w1.cell? ⟨w.heap.size+1,6,none⟩=some (.bool false):=(af (j:=6) rO.out).trans rfl;go_upto_region 16 with fail;refine au (fun WZ tO=>?_);have kE:=ae (show WZ.heap[w.heap.size+1]? =some (.cells (aP lg (.slice none 0 0) (.slice none 0 0) false) 71) by rw[tO];exact heap_setCell rO.out _);have zU:=ae (show WZ.heap[w.heap.size]? =some (.cells #[.int .i64 0,.int .i64 0,.int .i64 0,.slice none 0 0,.slice none 0 0,.bool false,.bool false] 71) by rw[tO];exact cK zL.out (by omega) _);have ij:=ae (show Below w.heap.size w WZ by rw[tO];exact gY.out.setCell (Nat.le_succ _) _);have FR8:=ae (show Fr (fun k=>k=w.heap.size+1) w1 WZ by rw[tO];exact Fr.set rfl);clear tO z6 y6;have y0:WZ.cell? ⟨w.heap.size+1,0,none⟩=some (.int .i64 lg.age):=(af (j:=0) kE.out).trans rfl;have y1:WZ.cell? ⟨w.heap.size+1,1,none⟩=some (.int .i64 lg.cap):=(af (j:=1) kE.out).trans rfl;have y2:WZ.cell? ⟨w.heap.size+1,2,none⟩=some (.int .i64 lg.first):=(af (j:=2) kE.out).trans rfl;have y3:WZ.cell? ⟨w.heap.size+1,3,none⟩=some (.slice none 0 0):=(af (j:=3) kE.out).trans rfl;have y4:WZ.cell? ⟨w.heap.size+1,4,none⟩=some (.slice none 0 0):=(af (j:=4) kE.out).trans rfl;have y5:WZ.cell? ⟨w.heap.size+1,5,none⟩=some (.bool lg.sealed):=(af (j:=5) kE.out).trans rfl;have y6:WZ.cell? ⟨w.heap.size+1,6,none⟩=some (.bool false):=(af (j:=6) kE.out).trans rfl;go_wp2_with (refine aC rfl 71 (.tmp 2) (.tmp 70) rfl rfl rfl zU.out dy rfl rfl rfl ?_);refine bodyPost_ret (cV rfl rfl (setRow_heap _ _ _ _ _ _ zU.out) Tryz.underlying71 rfl dy rfl) rfl ?_;rw[<-hlg];exact⟨rfl,below_setRow ij.out (Nat.le_refl _) _⟩
theorem DG (r:bj) (rest:List Nat) (j:Nat) (hj:j<r.data.length):(dA r.body++rest).getD (4+1+j) 0=r.data.getD j 0:=by
 have h:=tE r.body rest (1+j) (by simp[bj.body];omega);rw[<-Nat.add_assoc] at h;rw[h];simp[bj.body,List.getD_eq_getElem?_getD,Nat.add_comm 1 j]
theorem ET (r:bj) (rest:List Nat):(dA r.body++rest).getD (4+0) 0=r.kind:=by
 rw[tE r.body rest 0 (by simp[bj.body])];rfl
def Nl (w:World) (b mb:Nat) (R:List bj) (t:List Nat) (v0 v5:Value) (W:World):Prop:=
 ∃(i off m c:Nat) (bv sv:Value),i<=R.length/\v5=.int .i64 (i:Int)/\v0=.slice (some ⟨b,off,none⟩) m c/\m=(bG (R.drop i)++t).length /\m<=c/\c<=9223372036854775807/\
  cY w b off m (fun j=>(bG (R.drop i)++t).getD j 0)/\mN W (w.heap.size+1) (w.heap.size+1) (bu (R.take i)) bv sv false/\W.heap[w.heap.size]? =some (.cells #[.int .i64 0,.int .i64 0,.int .i64 0,.slice none 0 0,.slice none 0 0,.bool false,.bool false] 71)/\
  dF Tryz.prog W 5 mb 3 3 se/\w.heap.size+2<=mb/\Below w.heap.size w W
theorem vK {R:List bj} (i:Nat):(bu (R.take i)).steps.length <=i:=by
 induction i with
 |zero=>simp[bu,Lg.zero]
 |succ i ih=>
  by_cases h:i<R.length
  ·rw[pO (List.getElem?_eq_getElem h)]
   cases R[i]<;>simp[Lg.next]<;>omega
  ·rw[List.take_of_length_le (by omega)];rw[List.take_of_length_le (by omega)] at ih;omega
theorem Fr.row {g:Nat} {W:World} {C:Array Value} :Fr (fun k=>k=g) W (W.setRow g C):=⟨rfl,rfl,rfl,by simp,fun k _ hn=>setRow_other _ _ _ _ hn⟩
set_option maxHeartbeats 3200000 in
theorem uS (b cap:Nat) (bs:List Nat) (R:List bj) (t:List Nat) (w:World) (hbl:b<w.heap.size) (hcap:bs.length<=cap) (hcm:cap<=9223372036854775807) (hby:cY w b 0 bs.length (fun j=>bs.getD j 0)) (hc:iR bs R t) (hn:R.length<=1000):
 Calls Tryz.prog 50 #[.slice (some ⟨b,0,none⟩) bs.length cap] w fun r w'=>(∃bv sv,r=.returned (.agg (aP (bu R) bv sv (decide (t≠[]))))/\aq w' w.heap.size bv (bu R).base /\cF w' w.heap.size sv (bu R).steps)/\Below w.heap.size w w':=by
 have G8:=ae hc.stm;have rB:=ae hc.torn;obtain⟨m0,hm0⟩:∃m0,m0=bs.length:=⟨_,rfl⟩;rw[<-hm0] at hcap hby⊢;have hbe:bs=bG (R.drop 0)++t:=by rw[List.drop_zero];exact hc.eq
 have Fd:=ae (show m0=(bG (R.drop 0)++t).length by rw[<-hbe];exact hm0);rw[hbe] at hby;have EF:=ae hby;have wg:=ae hbl;clear hbl hby hbe hc hm0;go_enter Tryz.func50,Tryz.ntmps50;go_wp2_with fail;refine(mv _).mono ?_;rintro r w1 ⟨⟨mb,rfl,hmb,hm⟩,hb⟩;have qS:=ae (show w1.heap[w.heap.size+1]? =some (.cells (aP Lg.zero (.slice none 0 0) (.slice none 0 0) false) 71) from aj hb (by repeat' (first| (refine ai _ _ _ ?_;(first|rfl| (simp;done) | (simp;omega))) | (refine am _ _ _ _ ?_))));have Oh:=ae (show w1.heap[w.heap.size]? =some (.cells #[.int .i64 0,.int .i64 0,.int .i64 0,.slice none 0 0,.slice none 0 0,.bool false,.bool false] 71) from aj hb (by repeat' (first| (refine ai _ _ _ ?_;(first|rfl| (simp;done) | (simp;omega))) | (refine am _ _ _ _ ?_))));have HB1:=ae (show Below w.heap.size w w1 from(show Below w.heap.size w _ by(focus ((repeat' (first| (with_reducible first|exact Below.refl _ _|assumption|refine Below.alloc ?_ ?_ _|refine Below.drew ?_ |refine below_drewN ?_ _|refine Below.setCell ?_ ?_ _|refine below_setRow ?_ ?_ _) |go_size));done))).trans (hb.mono (by simp;omega)));have BW:=ae hm;have Ik:=ae (show w.heap.size+2<=mb by simp at hmb;omega);clear hb hm hmb;go_wp2_with fail
 go_loopw [0,5,6,7,8,9,10,11] (fun v0 v5 _ _ _ _ _ _ W=>Nl w b mb R t v0 v5 W) (fun _ v5 _ _ _ _ _ _ _=>R.length-(intOf v5).toNat)
 case atStart=>exact⟨0,0,m0,cap,_,_,Nat.zero_le _,rfl,rfl,Fd.out,hcap,hcm,EF.out,⟨qS.out,Nat.le_refl _,al.nil _ _ _ _,cF.nil _ _⟩,Oh.out,BW.out,Ik.out,HB1.out⟩
 case round=>
  obtain⟨i,off,m,c,bv,sv,hi,rfl,rfl,hm,hmc,hcx,hby,hlv,hkr,hmz,Rd,hbw⟩:=hrel;have HM:=ae hm;have vm:=ae hby;have LV:=ae hlv;have KR:=ae hkr;have MZ:=ae hmz;have aA:=ae hbw;clear hm hby hlv hkr hmz hbw qS Oh HB1 BW Fd EF;by_cases hlt:i<R.length
  ·obtain⟨rc,hrc⟩:∃rc,R[i]? =some rc:=⟨R[i],List.getElem?_eq_getElem hlt⟩;obtain⟨hok,hk1⟩:=G8.out i rc hrc;have hfd:=yD hrc;obtain⟨rest,hrest⟩:∃rest,rest=bG (R.drop (i+1))++t:=⟨_,rfl⟩;have hcur:bG (R.drop i)++t=dA rc.body++rest:=by rw[hfd,hrest,List.append_assoc];rfl
   rw[hcur] at HM vm;obtain⟨n,hn1⟩:∃n,n=rc.body.length:=⟨_,rfl⟩;obtain⟨k,hk⟩:∃k,k=rest.length:=⟨_,rfl⟩;have hbody:=i8 hok;have hmn:m=n+8+k:=by rw[HM.out,List.length_append,gU,hn1,hk]
   have hgb:∀j,(dA rc.body++rest).getD j 0<256:=lX (dj (pT (jq rc)) (by rw[hrest];exact dj (xA _) rB.out.byte));have BP:∀W,Below w.heap.size w W->cY W b off m (fun j=>(dA rc.body++rest).getD j 0):=fun W hW j hj=>by rw[hW.cell wg.out];exact vm.out j hj
   have eC:=ae (fun W hW=>yo b off m c n k (fun j=>(dA rc.body++rest).getD j 0) W (by omega) (by omega) hmn hmc hcx (by rw[hn1];exact Er (by rw[<-HM.out];exact BP W hW)) (fun j hj=>BP W hW j (by omega)) hgb (by rw[hn1];exact Ed rc.body rest))
   have o3:=ae (fun W hW=>show World.cell? W ⟨b,off+4,none⟩=some (.int .u8 (rc.kind:Int)) from by
    have h4:=BP W hW (4+0) (by omega);simp only[ET rc rest] at h4
    exact h4)
   have Fn:=ae hmn;have zY:=ae hn1;have RN:1<=n/\n<=83000:=by omega
   have RR:9<=m:=by omega
   have fz:=ae hok
   have Ol:=ae (fun W hW=>show cY W b (off+4+1) (n-1) (fun j=>rc.data.getD j 0) from fun j hj=>by
    have hdl:rc.data.length=n-1:=by rw[hn1];simp[bj.body]
    have h4:=BP W hW (4+1+j) (by omega);simp only[DG rc rest j (by omega)] at h4;rw[show off+(4+1+j)=off+4+1+j by omega] at h4
    exact h4)
   have iQ:=ae (show(bu (R.take i)).steps.length <=10000 by have:=vK (R:=R) i;omega);have IW:=ae (pO hrc);have lT:=ae hk1;have qo:=ae hrest;have HKK:=ae hk
   have sW:=ae (fun(j:Nat) (hj:j<k)=>show w.cell? ⟨b,off+(n+8)+j,none⟩=some (.int .u8 ((rest.getD j 0:Nat):Int)) from by
    have h4:=vm.out (rc.body.length+8+j) (by omega);simp only[Ag rc.body rest j] at h4;rw[show off+(rc.body.length+8+j)=off+(n+8)+j by omega] at h4
    exact h4)
   clear hok hk1 hfd hrest hcur hn1 hk hbody hmn hgb BP hrc;have d1:decide ((0:Int)<(m:Int))=true:=decide_eq_true (by omega);have d1':0<m:=by omega
   go_wp2_with fail;refine(eC.out wr aA.out).mono ?_;rintro r w2 ⟨⟨o,ho,rfl⟩,hb2⟩;have HO:=ae ho;have HB2:=ae (aA.out.trans (hb2.mono aA.out.size));have LV2:=ae (LV.out.still hb2);have ph:=ae (aj hb2 KR.out);have MZ2:=ae (MZ.out.grow hb2);clear ho hb2 LV KR MZ aA eC
   have CALL:=ae (fun W (h:Below w2.heap.size w2 W) (hh:W.heap[w2.heap.size]? =some (.cells #[.slice (some ⟨b,off+4+1,none⟩) (n-1) (c-4-1),.bool false] 146))=>AJ (w.heap.size+1) (w.heap.size+1) w2.heap.size b (bu (R.take i)) bv sv false rc W (LV2.out.still h) fz.out
    ⟨off+4+1,c-4-1,by rw[show(ir rc.data).m =n-1 by rw[zY.out];simp[ir,bj.body]];exact hh,by rw[show(ir rc.data).m =n-1 by rw[zY.out];simp[ir,bj.body]];have:=Fn.out;omega,by omega,by rw[show(ir rc.data).m =n-1 by rw[zY.out];simp[ir,bj.body]];exact Ol.out W (HB2.out.trans (h.mono HB2.out.size)),by have h1:=HB2.out.size;have h2:=wg.out;omega,lX (pI rc),by have h1:=HB2.out.size;have h2:=h.size;have h3:=wg.out;omega⟩
    (by have h1:=(Array.getElem?_eq_some_iff.1 LV2.out.hg).1;omega) (by have:=wg.out;omega) (by have:=wg.out;omega) (by have h1:=(Array.getElem?_eq_some_iff.1 LV2.out.hg).1;omega) iQ.out)
   have qU:=ae (show(rc.kind=1/\((i:Int) == 0)=true/\DZ rc=98)∨(rc.kind=2/\((i:Int) == 0)=false/\DZ rc=101)∨(rc.kind=3/\((i:Int) == 0)=false/\DZ rc=102) from by
    have h1:=lT.out
    cases rc with
    |base a c f P=>have:=h1.1 rfl;exact .inl ⟨rfl,by simp;omega,rfl⟩
    |step s=>exact .inr (.inl ⟨rfl,by simp only[bj.kind] at h1;simp;omega,rfl⟩)
    |stamp=>exact .inr (.inr ⟨rfl,by simp only[bj.kind] at h1;simp;omega,rfl⟩))
   rw[show(bu (R.take i)).next rc=bu (R.take (i+1)) from IW.out.symm] at CALL;clear IW LV2 fz zY Ol iQ lT
   rcases qU.out with⟨hkd,d3,hfn⟩ | ⟨hkd,d3,hfn⟩ | ⟨hkd,d3,hfn⟩
   ·
    have q4:w2.cell? ⟨b,off+4,none⟩=some (.int .u8 1):=by have:=o3.out w2 HB2.out;rw[hkd] at this;exact this
    rw[hfn] at CALL;clear hfn hkd o3 qU;have hlk:(Instr.lookup 138 (.map (some mb)) (.int .u8 1) true).run Tryz.prog w2=.ok (.tuple #[.func (.func 98) #[] #[],.bool true]) w2:=by
     have:=MZ2.out.look_ok x7 Tryz.underlying138 (rH w2) Bj;rw[nJ.1] at this;exact this
    go_wp2_with fail;refine(CALL.out _ ((Below.refl _ _).alloc (Nat.le_refl _) _) (ai _ _ _ rfl)).mono ?_;rintro r w4 ⟨rfl,bv4,sv4,hlv,hrd,hb4,hmk⟩;have dI:=ae (show Below w2.heap.size w2 (w2.alloc (.cells #[.slice (some ⟨b,off+4+1,none⟩) (n-1) (c-4-1),.bool false] 146)) from(Below.refl _ _).alloc (Nat.le_refl _) _);have LV4:=ae hlv;have MZ4:=ae ((MZ2.out.grow dI.out).same hmk);have EO:=ae (iA hb4 (Nat.lt_succ_self _) (aj dI.out ph.out));have bm:=ae (show Below w.heap.size w w4 from(HB2.out.trans (dI.out.mono HB2.out.size)).trans (hb4.mono (Nat.le_succ _)));obtain⟨o5,c5,yG,_⟩:=hrd;have e0:w4.cell? ⟨w2.heap.size,0,none⟩=some (.slice (some ⟨b,o5,none⟩) 0 c5):=(af (j:=0) yG).trans rfl;have e1:w4.cell? ⟨w2.heap.size,1,none⟩=some (.bool false):=(af (j:=1) yG).trans rfl;clear hlv hb4 hmk yG CALL MZ2 ph q4 hlk dI;go_wp2_with fail;go_roundw
    case rel=>exact⟨i+1,o,k,c-(n+8),bv4,sv4,by omega,by go_num,rfl,by rw[HKK.out,qo.out],by have:=Fn.out;omega,by omega,fun j hj=>by
     have hoo:=HO.out
     rcases hoo with hoo|hoo
     ·rw[hoo,<-qo.out];exact sW.out j hj
     ·omega,LV4.out,EO.out,MZ4.out,by assumption,bm.out⟩
    case measure=>simp[intOf];omega
   ·
    have q4:w2.cell? ⟨b,off+4,none⟩=some (.int .u8 2):=by have:=o3.out w2 HB2.out;rw[hkd] at this;exact this
    rw[hfn] at CALL;clear hfn hkd o3 qU;have hlk:(Instr.lookup 138 (.map (some mb)) (.int .u8 2) true).run Tryz.prog w2=.ok (.tuple #[.func (.func 101) #[] #[],.bool true]) w2:=by
     have:=MZ2.out.look_ok x7 Tryz.underlying138 (rH w2) Cz;rw[nJ.2.1] at this;exact this
    go_wp2_with fail;refine(CALL.out _ ((Below.refl _ _).alloc (Nat.le_refl _) _) (ai _ _ _ rfl)).mono ?_;rintro r w4 ⟨rfl,bv4,sv4,hlv,hrd,hb4,hmk⟩;have dI:=ae (show Below w2.heap.size w2 (w2.alloc (.cells #[.slice (some ⟨b,off+4+1,none⟩) (n-1) (c-4-1),.bool false] 146)) from(Below.refl _ _).alloc (Nat.le_refl _) _);have LV4:=ae hlv;have MZ4:=ae ((MZ2.out.grow dI.out).same hmk);have EO:=ae (iA hb4 (Nat.lt_succ_self _) (aj dI.out ph.out));have bm:=ae (show Below w.heap.size w w4 from(HB2.out.trans (dI.out.mono HB2.out.size)).trans (hb4.mono (Nat.le_succ _)));obtain⟨o5,c5,yG,_⟩:=hrd;have e0:w4.cell? ⟨w2.heap.size,0,none⟩=some (.slice (some ⟨b,o5,none⟩) 0 c5):=(af (j:=0) yG).trans rfl;have e1:w4.cell? ⟨w2.heap.size,1,none⟩=some (.bool false):=(af (j:=1) yG).trans rfl;clear hlv hb4 hmk yG CALL MZ2 ph q4 hlk dI;go_wp2_with fail;go_roundw
    case rel=>exact⟨i+1,o,k,c-(n+8),bv4,sv4,by omega,by go_num,rfl,by rw[HKK.out,qo.out],by have:=Fn.out;omega,by omega,fun j hj=>by
     have hoo:=HO.out
     rcases hoo with hoo|hoo
     ·rw[hoo,<-qo.out];exact sW.out j hj
     ·omega,LV4.out,EO.out,MZ4.out,by assumption,bm.out⟩
    case measure=>simp[intOf];omega
   ·
    have q4:w2.cell? ⟨b,off+4,none⟩=some (.int .u8 3):=by have:=o3.out w2 HB2.out;rw[hkd] at this;exact this
    rw[hfn] at CALL;clear hfn hkd o3 qU;have hlk:(Instr.lookup 138 (.map (some mb)) (.int .u8 3) true).run Tryz.prog w2=.ok (.tuple #[.func (.func 102) #[] #[],.bool true]) w2:=by
     have:=MZ2.out.look_ok x7 Tryz.underlying138 (rH w2) BQ;rw[nJ.2.2] at this;exact this
    go_wp2_with fail;refine(CALL.out _ ((Below.refl _ _).alloc (Nat.le_refl _) _) (ai _ _ _ rfl)).mono ?_;rintro r w4 ⟨rfl,bv4,sv4,hlv,hrd,hb4,hmk⟩;have dI:=ae (show Below w2.heap.size w2 (w2.alloc (.cells #[.slice (some ⟨b,off+4+1,none⟩) (n-1) (c-4-1),.bool false] 146)) from(Below.refl _ _).alloc (Nat.le_refl _) _);have LV4:=ae hlv;have MZ4:=ae ((MZ2.out.grow dI.out).same hmk);have EO:=ae (iA hb4 (Nat.lt_succ_self _) (aj dI.out ph.out));have bm:=ae (show Below w.heap.size w w4 from(HB2.out.trans (dI.out.mono HB2.out.size)).trans (hb4.mono (Nat.le_succ _)));obtain⟨o5,c5,yG,_⟩:=hrd;have e0:w4.cell? ⟨w2.heap.size,0,none⟩=some (.slice (some ⟨b,o5,none⟩) 0 c5):=(af (j:=0) yG).trans rfl;have e1:w4.cell? ⟨w2.heap.size,1,none⟩=some (.bool false):=(af (j:=1) yG).trans rfl;clear hlv hb4 hmk yG CALL MZ2 ph q4 hlk dI;go_wp2_with fail;go_roundw
    case rel=>exact⟨i+1,o,k,c-(n+8),bv4,sv4,by omega,by go_num,rfl,by rw[HKK.out,qo.out],by have:=Fn.out;omega,by omega,fun j hj=>by
     have hoo:=HO.out
     rcases hoo with hoo|hoo
     ·rw[hoo,<-qo.out];exact sW.out j hj
     ·omega,LV4.out,EO.out,MZ4.out,by assumption,bm.out⟩
    case measure=>simp[intOf];omega
  ·obtain rfl:i=R.length:=by omega
   have hdr:bG (R.drop R.length)++t=t:=by rw[List.drop_length];rfl
   rw[hdr] at HM vm;obtain⟨lg,hlg⟩:∃lg,lg=bu R:=⟨_,rfl⟩;rw[List.take_length,<-hlg] at LV;obtain⟨ba,bc,hbv⟩:=aq.slice LV.out.base;obtain⟨sa,sc,hsv⟩:=LV.out.steps.slice;subst hbv hsv;have nC:=ae hlg;generalize hbn:lg.base.length=bn at*;generalize hsn:lg.steps.length=sn at*;clear hbn hsn hlg hdr;by_cases ht:t=[]
   ·have hm0:m=0:=by rw[HM.out,ht];rfl
    have hdt:decide (t≠[])=false:=by simp[ht]
    have Fh:=ae hdt;subst hm0;have rO:=ae LV.out.hg;have zL:=KR;have gY:=aA;have d1:decide ((0:Int)<((0:Nat):Int))=false:=by decide
    clear MZ G8 rB HM vm hdt ht;unfold aP at rO;have z6:wr.frozen? ⟨w.heap.size+1,6,none⟩=false:=by have hh:=rO.out;simp[World.frozen?,hh]
    have y6:wr.cell? ⟨w.heap.size+1,6,none⟩=some (.bool false):=(af (j:=6) rO.out).trans rfl;go_upto_region 16 with fail;refine au (fun WZ tO=>?_);have kE:=ae (show WZ.heap[w.heap.size+1]? =some (.cells (aP lg (.slice ba bn bc) (.slice sa sn sc) false) 71) by rw[tO];exact heap_setCell rO.out _);have zU:=ae (show WZ.heap[w.heap.size]? =some (.cells #[.int .i64 0,.int .i64 0,.int .i64 0,.slice none 0 0,.slice none 0 0,.bool false,.bool false] 71) by rw[tO];exact cK zL.out (by omega) _);have ij:=ae (show Below w.heap.size w WZ by rw[tO];exact gY.out.setCell (Nat.le_succ _) _);have FR8:=ae (show Fr (fun k=>k=w.heap.size+1) wr WZ by rw[tO];exact Fr.set rfl);clear tO z6 y6;have y0:WZ.cell? ⟨w.heap.size+1,0,none⟩=some (.int .i64 lg.age):=(af (j:=0) kE.out).trans rfl;have y1:WZ.cell? ⟨w.heap.size+1,1,none⟩=some (.int .i64 lg.cap):=(af (j:=1) kE.out).trans rfl;have y2:WZ.cell? ⟨w.heap.size+1,2,none⟩=some (.int .i64 lg.first):=(af (j:=2) kE.out).trans rfl;have y3:WZ.cell? ⟨w.heap.size+1,3,none⟩=some (.slice ba bn bc):=(af (j:=3) kE.out).trans rfl;have y4:WZ.cell? ⟨w.heap.size+1,4,none⟩=some (.slice sa sn sc):=(af (j:=4) kE.out).trans rfl;have y5:WZ.cell? ⟨w.heap.size+1,5,none⟩=some (.bool lg.sealed):=(af (j:=5) kE.out).trans rfl;have y6:WZ.cell? ⟨w.heap.size+1,6,none⟩=some (.bool false):=(af (j:=6) kE.out).trans rfl;go_wp2_with (refine aC rfl 71 (.tmp 2) (.tmp 70) rfl rfl rfl zU.out dy rfl rfl rfl ?_);refine bodyPost_ret (cV rfl rfl (setRow_heap _ _ _ _ _ _ zU.out) Tryz.underlying71 rfl dy rfl) rfl ?_;have F9:Fr (fun k=>k=w.heap.size) WZ (WZ.setRow w.heap.size #[.int .i64 lg.age,.int .i64 lg.cap,.int .i64 lg.first,.slice ba bn bc,.slice sa sn sc,.bool lg.sealed,.bool false]):=Fr.row;rw[<-nC.out,Fh.out];refine⟨⟨_,_,rfl,?_,?_⟩,below_setRow ij.out (Nat.le_refl _) _⟩
    ·exact al.other (al.other (al.mono LV.out.base (Nat.le_succ _):aq wr w.heap.size _ _) LV.out.hg (by decide) FR8.out) zU.out (by decide) F9
    ·exact cF.other (cF.other (cF.mono LV.out.steps (Nat.le_succ _)) LV.out.hg (by decide) (by decide) (by decide) FR8.out) zU.out (by decide) (by decide) (by decide) F9
   ·have hdt:decide (t≠[])=true:=by simp[ht]
    have Fh:=ae hdt;have hmp:0<m:=by rw[HM.out];exact List.length_pos_iff.2 ht
    have d1:decide ((0:Int)<(m:Int))=true:=decide_eq_true (by omega)
    have eC:=ae (show Calls Tryz.prog 78 #[.slice (some ⟨b,off,none⟩) m c] wr fun r w'=>r=.returned (.tuple #[.slice none 0 0,.slice none 0 0,.bool false])/\Below wr.heap.size wr w' from by
     obtain⟨r,hro,k0,hk0,hte⟩:=rB.out;have hmk:m=k0:=by rw[HM.out,hte,List.length_take];omega
     by_cases h4:m<4
     ·exact vH _ m c wr h4
     ·have hbo:=i8 hro;have hel:=kJ r;refine Bo b off m c r.body.length wr (by omega) hbo.1 (by omega) (by omega) (vO (k:=k0) (by omega) (by show k0<=r.enc.length;omega) ?_);intro j hj;rw[aA.out.cell wg.out];have h1:=vm.out j (by rw[hmk];rw[List.length_take] at hj;omega);rw[hte] at h1
      exact h1)
    clear MZ G8 rB HM vm hdt ht;go_wp2_with fail;refine eC.out.mono ?_;rintro r w2 ⟨rfl,hb2⟩;have rO:=ae (aj hb2 LV.out.hg);have zL:=ae (aj hb2 KR.out);have gY:=ae (aA.out.trans (hb2.mono aA.out.size));have LV2:=ae (LV.out.still hb2);clear hb2 eC LV KR aA;have LV:=LV2;clear LV2;unfold aP at rO;have z6:w2.frozen? ⟨w.heap.size+1,6,none⟩=false:=by have hh:=rO.out;simp[World.frozen?,hh]
    have y6:w2.cell? ⟨w.heap.size+1,6,none⟩=some (.bool false):=(af (j:=6) rO.out).trans rfl;go_upto_region 16 with fail;refine au (fun WZ tO=>?_);have kE:=ae (show WZ.heap[w.heap.size+1]? =some (.cells (aP lg (.slice ba bn bc) (.slice sa sn sc) true) 71) by rw[tO];exact heap_setCell rO.out _);have zU:=ae (show WZ.heap[w.heap.size]? =some (.cells #[.int .i64 0,.int .i64 0,.int .i64 0,.slice none 0 0,.slice none 0 0,.bool false,.bool false] 71) by rw[tO];exact cK zL.out (by omega) _);have ij:=ae (show Below w.heap.size w WZ by rw[tO];exact gY.out.setCell (Nat.le_succ _) _);have FR8:=ae (show Fr (fun k=>k=w.heap.size+1) w2 WZ by rw[tO];exact Fr.set rfl);clear tO z6 y6;have y0:WZ.cell? ⟨w.heap.size+1,0,none⟩=some (.int .i64 lg.age):=(af (j:=0) kE.out).trans rfl;have y1:WZ.cell? ⟨w.heap.size+1,1,none⟩=some (.int .i64 lg.cap):=(af (j:=1) kE.out).trans rfl;have y2:WZ.cell? ⟨w.heap.size+1,2,none⟩=some (.int .i64 lg.first):=(af (j:=2) kE.out).trans rfl;have y3:WZ.cell? ⟨w.heap.size+1,3,none⟩=some (.slice ba bn bc):=(af (j:=3) kE.out).trans rfl;have y4:WZ.cell? ⟨w.heap.size+1,4,none⟩=some (.slice sa sn sc):=(af (j:=4) kE.out).trans rfl;have y5:WZ.cell? ⟨w.heap.size+1,5,none⟩=some (.bool lg.sealed):=(af (j:=5) kE.out).trans rfl;have y6:WZ.cell? ⟨w.heap.size+1,6,none⟩=some (.bool true):=(af (j:=6) kE.out).trans rfl;go_wp2_with (refine aC rfl 71 (.tmp 2) (.tmp 70) rfl rfl rfl zU.out dy rfl rfl rfl ?_);refine bodyPost_ret (cV rfl rfl (setRow_heap _ _ _ _ _ _ zU.out) Tryz.underlying71 rfl dy rfl) rfl ?_;have F9:Fr (fun k=>k=w.heap.size) WZ (WZ.setRow w.heap.size #[.int .i64 lg.age,.int .i64 lg.cap,.int .i64 lg.first,.slice ba bn bc,.slice sa sn sc,.bool lg.sealed,.bool true]):=Fr.row;rw[<-nC.out,Fh.out];refine⟨⟨_,_,rfl,?_,?_⟩,below_setRow ij.out (Nat.le_refl _) _⟩
    ·exact al.other (al.other (al.mono LV.out.base (Nat.le_succ _):aq w2 w.heap.size _ _) LV.out.hg (by decide) FR8.out) zU.out (by decide) F9
    ·exact cF.other (cF.other (cF.mono LV.out.steps (Nat.le_succ _)) LV.out.hg (by decide) (by decide) (by decide) FR8.out) zU.out (by decide) (by decide) (by decide) F9
theorem xD (v:Value) (B:Nat) (bs:List Nat) (R:List bj) (t:List Nat) (w:World) (h:w.ownsRow B 5 1 v bs.length (cg bs)) (hc:iR bs R t) (hn:R.length<=1000):
 Calls Tryz.prog 50 #[v] w fun r w'=>(∃bv sv,r=.returned (.agg (aP (bu R) bv sv (decide (t≠[]))))/\aq w' w.heap.size bv (bu R).base /\cF w' w.heap.size sv (bu R).steps)/\Below w.heap.size w w':=by
 have hh:=h;obtain⟨_,hv⟩:=h
 rcases hv with⟨rfl,h0⟩ | ⟨g,cap,cur,rfl,_,hg,h1,h2,h3,h4⟩
 ·have hb:bs=[]:=List.length_eq_zero_iff.1 h0;subst hb;have he:=hc.eq;have ht:t=[]:=(List.append_eq_nil_iff.1 he.symm).2;have hR:R=[]:=by
   cases R with
   |nil=>rfl
   |cons r R=>
    have h1:=(List.append_eq_nil_iff.1 he.symm).1;rw[de] at h1;have h2:=congrArg List.length (List.append_eq_nil_iff.1 h1).1;rw[kJ] at h2;simp at h2
  subst ht hR;refine(yw w).mono ?_;rintro r w1 ⟨rfl,hb⟩;exact⟨⟨_,_,rfl,al.nil _ _ _ _,cF.nil _ _⟩,hb⟩
 ·have hcm:cap<=9223372036854775807:=by unfold maxLen at h2;omega
  exact uS g cap bs R t w (Array.getElem?_eq_some_iff.1 hg).1 h1 hcm (lY hh) hc hn
end Go.Proofs.YtcclpdfmmdonpaaGreat
