/- Texts of the seat Yteanlcefdoigcaa, turned to this one by wip/port.py: RLay. -/
import Derived.Test.YtcclpdfmmdonpaaGreatTRst
namespace Go.Proofs.YtcclpdfmmdonpaaGreat
set_option maxHeartbeats 6400000
set_option maxRecDepth 100000
open Go.RowKit Go.Sort
def fX (S:List Pt) (c:Nat):Nat->Pt->Int
 |0,_=> -1
 |l+1,p=>if(dp S c l p && takes S c l p)=true then(l:Int) else fX S c l p
theorem oP (S:List Pt) (c:Nat) (p:Pt):∀l,fX S c l p<0↔dp S c l p=true
 |0=>by simp[fX,dp]
 |l+1=>by
  have ih:=oP S c p l;unfold fX;rw[dR]
  cases h1:dp S c l p<;>cases h2:takes S c l p
  iterate 3 (·simp only[h1] at ih;simpa using ih)
  ·simp
theorem wJ (S:List Pt) (c:Nat) (p:Pt):∀l,l<=13->dp S c l p=false->∃m:Nat,fX S c l p=(m:Int)/\m<=12/\fZ S c p (aK m p)
 |0,_,h=>by simp[dp] at h
 |l+1,hl,h=>by
  unfold fX
  cases h1:dp S c l p
  ·obtain⟨m,h2,h3⟩:=wJ S c p l (by omega) h1;exact⟨m,by simpa using h2,h3⟩
  ·rw[dR,h1] at h;have h2:takes S c l p=true:=by simpa using h
   exact⟨l,by simp[h2],by omega,l,by omega,h1,h2,rfl⟩
theorem Dw (S:List Pt) (c:Nat) (p:Pt):∃m:Nat,fX S c 13 p=(m:Int)/\m<=12/\fZ S c p (aK m p):=wJ S c p 13 (Nat.le_refl _) (qP S c p)
def bB (z:Int):List Value:=[.int .i64 z]
def aI (W:World) (base:Nat) (v:Value) (zs:List Int):Prop:=al W base 3 1 v (zs.map bB)
theorem gX (z:Int):∀u∈bB z,u.oneCell'=true:=fun u hu=>by
 simp[bB] at hu;subst hu;rfl
theorem aI.cells {W:World} {base g n cap:Nat} {zs:List Int} (h:aI W base (.slice (some ⟨g,0,none⟩) n cap) zs):base<=g/\g<W.heap.size/\n=zs.length/\∀(i:Nat) (z:Int),zs[i]? =some z->W.cell? ⟨g,i,none⟩=some (.int .i64 z):=by
 obtain⟨hn,cur,hB,hc,hle,hm,hcs,htk⟩:=eX h;rw[List.length_map] at hn hle htk;refine⟨hB,(Array.getElem?_eq_some_iff.1 hc).1,hn,fun i z hi=>?_⟩;have hil:i<zs.length:=(List.getElem?_eq_some_iff.1 hi).1;have h1:=h.1.at (i:=i) (r:=bB z) (by rw[List.getElem?_map,hi];rfl) 0 (by decide);rw[af hc,<-Array.getElem?_toList];rw[<-htk,List.getElem?_take_of_lt (by omega)] at h1;simpa[bB] using h1
theorem aI.set {W:World} {base g n cap i:Nat} {zs:List Int} {cur:Array Value} {z:Int} (h:aI W base (.slice (some ⟨g,0,none⟩) n cap) zs) (hc:W.heap[g]? =some (.cells cur 3)) (hi:i<zs.length):
 aI (W.setRow g (fA cur i [.int .i64 z])) base (.slice (some ⟨g,0,none⟩) n cap) (zs.set i z):=by
 have h1:=nf h hc (i:=i) (r:=bB z) (by simpa using hi) rfl (gX z);rw[Nat.mul_one] at h1;unfold aI;rw[List.map_set];exact h1
theorem f9 (W:World) (g:Nat) (X:Array Value):bT W (W.setRow g X) (fun k=>k=g):=by
 have h:=below_setRow (B:=g) (Below.refl g W) (Nat.le_refl _) X;refine⟨h.os,h.tape,h.output,h.size,fun k _ hk=>?_⟩;unfold World.setRow;rw[Array.getElem?_modify];simp[Ne.symm hk]
theorem yV (zs:List Int):bF 1 (zs.map bB):=jo (enc:=bB) (k:=1) (fun _=>rfl) gX zs
theorem Gd:(Tryz.prog.info? 3).map (fun i=>(i.zero,i.size,i.bytes))=some (some (.int .i64 0),1,8):=by kernel_rfl
theorem ml:(Tryz.prog.info? 3).map (·.size)=some 1:=by kernel_rfl
def yz (S:List Pt) (c l:Nat) (p:Pt):Bool:=dp S c l p && takes S c l p
def ft (S:List Pt) (c l i:Nat):List Nat:=(List.range i).filter (fun j=>yz S c l (S[j]!))
theorem sj {S:List Pt} {c l i:Nat} {p:Pt} (hp:S[i]? =some p) (h:yz S c l p=true):ft S c l (i+1)=ft S c l i++[i]:=by
 simp[ft,List.range_succ,List.filter_append,hp,h]
theorem wU {S:List Pt} {c l i:Nat} {p:Pt} (hp:S[i]? =some p) (h:yz S c l p=false):ft S c l (i+1)=ft S c l i:=by
 simp[ft,List.range_succ,List.filter_append,hp,h]
theorem BD (S:List Pt) (c l i:Nat):(ft S c l i).length <=i:=by
 refine Nat.le_trans (List.length_filter_le _ _) ?_;simp
theorem AC {S:List Pt} {c l n j:Nat} {p:Pt} (hn:n=S.length) (hp:S[j]? =some p):j∈ft S c l n↔yz S c l p=true:=by
 have hj:j<S.length:=(List.getElem?_eq_some_iff.1 hp).1;simp[ft,List.mem_filter,hp];omega
def rG (S:List Pt) (c l t:Nat) (zs:List Int):Prop:=zs.length=S.length/\∀j p,S[j]? =some p->zs[j]? =some (if j∈(ft S c l S.length).take t then(l:Int) else fX S c l p)
theorem rG.start {S:List Pt} {c l:Nat} {zs:List Int} (h:zs=S.map (fX S c l)):rG S c l 0 zs:=by
 subst h;exact⟨by simp,fun j p hp=>by simp[List.getElem?_map,hp]⟩
theorem rG.step {S:List Pt} {c l t j:Nat} {zs:List Int} (h:rG S c l t zs) (hj:(ft S c l S.length)[t]? =some j):rG S c l (t+1) (zs.set j l):=by
 refine⟨by rw[List.length_set];exact h.1,fun i p hp=>?_⟩;have e:(ft S c l S.length).take (t+1)=(ft S c l S.length).take t++[j]:=by rw[List.take_add_one,hj];rfl
 have hil:i<zs.length:=by rw[h.1];exact(List.getElem?_eq_some_iff.1 hp).1
 rw[e];by_cases hij:i=j
 ·subst hij;rw[List.getElem?_set_self hil];simp
 ·rw[List.getElem?_set_ne (Ne.symm hij),h.2 i p hp];simp[hij]
theorem rG.done {S:List Pt} {c l t:Nat} {zs:List Int} (h:rG S c l t zs) (ht:(ft S c l S.length).length <=t):zs=S.map (fX S c (l+1)):=by
 refine List.ext_getElem? fun j=>?_
 by_cases hj:j<S.length
 ·rw[List.getElem?_map,List.getElem?_eq_getElem hj,h.2 j _ (List.getElem?_eq_getElem hj),List.take_of_length_le ht];have:=AC (c:=c) (l:=l) (n:=S.length) rfl (List.getElem?_eq_getElem hj);simp only[Option.map_some,fX];by_cases hs:yz S c l S[j]=true
  ·rw[if_pos (this.2 hs),if_pos (show(dp S c l S[j] && takes S c l S[j])=true from hs)]
  ·rw[if_neg (fun e=>hs (this.1 e)),if_neg (show ¬(dp S c l S[j] && takes S c l S[j])=true from hs)]
 ·rw[List.getElem?_eq_none (by rw[h.1];omega),List.getElem?_eq_none (by rw[List.length_map];omega)]
open Go.RowKit Go.Sort
theorem ER:cA Tryz.prog 10 99=some [some .i64,some .i64,some .i64,some .i64]:=by kernel_rfl
theorem vD (a b c d e f g h:Int):cD [.int .i64 a,.int .i64 b,.int .i64 c,.int .i64 d] [.int .i64 e,.int .i64 f,.int .i64 g,.int .i64 h]=(decide (a=e) && (decide (b=f) && (decide (c=g) && decide (d=h)))):=by
 simp only[cD,oq,Bool.and_true];congr 1
theorem GM (l:Nat) (p q:Pt) (b:Bool) (hb:b=decide (aK l p=aK l q)) (W:World):(Op.equalIn 10000 99 (.agg (fx l p.x p.y p.zl)) (.agg (fx l q.x q.y q.zl))).run Tryz.prog W=.ok b W:=by
 have h:=dU Tryz.underlying99 ER [.int .i64 (l:Int),.int .i64 (bN p.x l),.int .i64 (bN p.y l),.int .i64 (bN p.zl l)] [.int .i64 (l:Int),.int .i64 (bN q.x l),.int .i64 (bN q.y l),.int .i64 (bN q.zl l)] rfl rfl W;refine h.trans ?_;rw[vD,hb];congr 1;rw[Bool.eq_iff_iff];simp only[Bool.and_eq_true,decide_eq_true_eq];constructor
 ·rintro⟨_,h1,h2,h3⟩;exact Ky.ext' rfl h1 h2 h3
 ·intro h;exact⟨trivial,congrArg Ky.x h,congrArg Ky.y h,congrArg Ky.z h⟩
theorem dV (id:Int) (w:World):Calls Tryz.prog 130 #[.int .i64 id] w fun e w'=>e=.returned (.int .u64 (aY id))/\Below w.heap.size w w':=
 (yT id w).mono (by rintro r w' ⟨h,rfl⟩;exact⟨h,Below.refl _ _⟩)
theorem uK (n:Nat):(madeCells (Value.int .i64 0).cells (n*1)).toList =((List.replicate n (0:Int)).map bB).flatten :=by
 rw[Nat.mul_one,show(Value.int .i64 0).cells = #[.int .i64 0] from rfl,toList_madeCells_one]
 induction n with
 |zero=>rfl
 |succ n ih=>rw[List.replicate_succ,List.replicate_succ,List.map_cons,List.flatten_cons,<-ih];rfl
def Dq (w:World) (n:Nat) (v iv:Value) (W:World):Prop:=∃(k:Nat) (zs:List Int),k<=n/\iv=.int .i64 (k:Int)/\zs.length=n/\(∀j,j<k->zs[j]? =some (-1))/\aI W w.heap.size v zs/\Below w.heap.size w W
def Ib (w:World) (S:List Pt) (c:Nat) (v lv:Value) (W:World):Prop:=∃l:Nat,l<=13/\lv=.int .i64 (l:Int)/\aI W w.heap.size v (S.map (fX S c l))/\Below w.heap.size w W
def Jp (w:World) (S:List Pt) (c l n g:Nat) (v now iv:Value) (W:World):Prop:=
 ∃i:Nat,i<=n/\iv=.int .i64 (i:Int)/\aI W w.heap.size v (S.map (fX S c l))/\aI W w.heap.size now ((ft S c l i).map Int.ofNat)/\(∀b,now.ownBlock=some b->b≠g)/\Below w.heap.size w W
def Hw (W0:World) (S:List Pt) (c l n:Nat) (p:Pt) (cv kv:Value) (W:World):Prop:=
 ∃k:Nat,k<=n/\kv=.int .i64 (k:Int)/\cv=.int .i64 (((S.take k).countP (fun q=>dp S c l q && hD l p q):Nat):Int)/\Below W0.heap.size W0 W
def DW (w:World) (S:List Pt) (c l m:Nat) (v now tv:Value) (W:World):Prop:=
 ∃(t:Nat) (zs:List Int),t<=m/\tv=.int .i64 (t:Int)/\rG S c l t zs/\aI W w.heap.size v zs/\aI W w.heap.size now ((ft S c l S.length).map Int.ofNat)/\Below w.heap.size w W
theorem wn {S:List Pt} {k:Nat} {q:Pt} (f:Pt->Bool) (hq:S[k]? =some q):(S.take (k+1)).countP f=(S.take k).countP f+if f q=true then 1 else 0:=by
 rw[eA hq,List.countP_append,List.countP_singleton]
theorem uY (pv:Value) (S:List Pt) (c:Nat) (w:World) (hp:cj w pv S) (hf:∀p∈S,p.fine) (hn:S.length<=4096):
 Calls Tryz.prog 92 #[pv,.int .i64 c] w fun r w'=>(∃v,r=.returned v/\aI w' w.heap.size v (S.map (fX S c 13)))/\Below w.heap.size w w':=by
 obtain⟨pa,pc,rfl,hpd⟩:=hp;obtain⟨n,hnl⟩:∃n,n=S.length:=⟨_,rfl⟩;rw[<-hnl] at hn⊢;have HN:=ae hnl;have vG:=ae hpd;have HF:=ae hf;clear hnl hpd hf;obtain⟨i0,hi,hz0,hz1,hz2⟩:=aF Gd;have HI:=ae hi;have HZ0:=ae hz0;have HZ1:=ae hz1;have HZ2:=ae hz2;clear hi hz0 hz1 hz2;go_enter Tryz.func92,Tryz.ntmps92
 go_wp2_with (first
  | (refine wpList_make_full _ rfl (.tmp 15) (.tmp 15) 30 rfl w.heap.size 3 i0 (.int .i64 0) 1 Tryz.underlying30 HI.out HZ0.out HZ1.out .i64 .i64 (n:Int) (n:Int) n rfl rfl rfl rfl (by rw[HZ2.out];omega) (by unfold maxLen;omega) (Nat.le_refl _) ?_
     intro W1 hown hg;have jD:=ae (show aI W1 w.heap.size (.slice (some ⟨w.heap.size,0,none⟩) n n) (List.replicate n 0) from⟨yV _,by rw[List.length_map,List.length_replicate,<-uK];exact hown⟩);have HB1:=ae (show Below w.heap.size w W1 from(Below.refl _ _).grown hg (Nat.le_refl _) (fun k hk=>by cases hk))
     clear hown hg))
 go_loopw [19] (fun iv W=>Dq w n (.slice (some ⟨w.heap.size,0,none⟩) n n) iv W) (fun iv _=>n-(intOf iv).toNat)
 case atStart=>exact⟨0,_,by omega,rfl,by simp,fun j h=>by omega,jD.out,HB1.out⟩
 case round=>
  obtain⟨k,zs,hk,rfl,hzl,hzz,hown,hB⟩:=hrel;have HOW:=ae hown;have aA:=ae hB;have Of:=ae hzz;have LD:=ae hzl;clear hown hB hzz hzl;by_cases hlt:k<n
  ·have d1:decide ((k:Int)<(n:Int))=true:=decide_eq_true (by omega);obtain⟨z1,C,z2,hC,hle,z3,Au,z4⟩:=eX HOW.out;have HC:=ae hC;have Lm:C.size=n:=by rw[Au,Nat.mul_one]
   clear z1 z2 z3 z4 hC hle Au
   go_wp2_with (first
    | (refine bC rfl 3 (.tmp 24) _ rfl w.heap.size k _ rfl rfl rfl rfl HC.out ml (by omega) ?_))
   exact⟨⟨k+1,_,by omega,by go_num,by rw[List.length_set];exact LD.out,fun j hj=>by
    by_cases hjk:j=k
    ·subst hjk;exact List.getElem?_set_self (by rw[LD.out];exact hlt)
    ·rw[List.getElem?_set_ne (Ne.symm hjk)]
     exact Of.out j (by omega),aI.set HOW.out HC.out (by rw[LD.out];exact hlt),dT aA.out (Nat.le_refl _)⟩,by simp[intOf];omega⟩
  ·obtain rfl:k=n:=by omega
   have d1:decide ((k:Int)<(k:Int))=false:=by simp
   have eu:=ae (show aI wr w.heap.size (.slice (some ⟨w.heap.size,0,none⟩) k k) (S.map (fX S c 0)) by
    have e:zs=S.map (fX S c 0):=by
     refine List.ext_getElem? fun j=>?_
     have Mi:=HN.out;by_cases hj:j<k
     ·rw[Of.out j hj,List.getElem?_map,List.getElem?_eq_getElem (by omega)];rfl
     ·rw[List.getElem?_eq_none (by rw[LD.out];omega),List.getElem?_eq_none (by rw[List.length_map];omega)]
    rw[<-e]
    exact HOW.out)
   go_wp2_with fail
   go_loopw [7] (fun lv W=>Ib w S c (.slice (some ⟨w.heap.size,0,none⟩) k k) lv W) (fun lv _=>13-(intOf lv).toNat)
   case atStart=>exact⟨0,by omega,rfl,eu.out,aA.out⟩
   case round=>
    obtain⟨l,hl,rfl,hown,hB⟩:=hrel;have Ch:=ae hown;have wg:=ae hB;clear hown hB;by_cases hl12:l<=12
    ·have d2:decide ((l:Int)<=12)=true:=decide_eq_true (by omega);go_wp2_with fail
     go_loopw [8,32] (fun now iv W=>Jp w S c l k w.heap.size (.slice (some ⟨w.heap.size,0,none⟩) k k) now iv W) (fun _ iv _=>k-(intOf iv).toNat)
     case atStart=>exact⟨0,by omega,rfl,Ch.out,al.nil _ _ _ _,fun b h=>(by cases h),wg.out⟩
     case round=>
      obtain⟨i,hi,rfl,hown,hnow,hap,hB⟩:=hrel;have DO:=ae hown;have sS:=ae hap;have ID:=ae hB;have hzi:=hB.size;obtain⟨na,ncap,hns⟩:=al.slice hnow;have hnl:(ft S c l i).length <=4096:=Nat.le_trans (BD S c l i) (by omega);rw[List.length_map,List.length_map] at hns;obtain⟨nn,hnn⟩:∃nn,nn=(ft S c l i).length :=⟨_,rfl⟩;rw[<-hnn] at hns hnl;have zY:=ae hnn;subst hns;have Af:=ae hnow;clear hown hap hB hnow hnn;by_cases hlt2:i<k
      ·have d3:decide ((i:Int)<(k:Int))=true:=decide_eq_true (by omega);have OT:i<S.length:=by rw[<-HN.out];exact hlt2
       obtain⟨p,hp⟩:∃p,S[i]? =some p:=⟨_,List.getElem?_eq_getElem OT⟩;have HP:=ae hp;have KE:S≠[]:=fun e=>by rw[e] at hp;simp at hp
       obtain⟨pb,po,rfl,hpb,hpr⟩:=vG.out.resolve_left KE;have Iv:=ae hpr;have xN:=ae hpb;have c5:wr.cell? ⟨w.heap.size,i,none⟩=some (.int .i64 (fX S c l p)):=(aI.cells DO.out).2.2.2 i _ (by rw[List.getElem?_map,hp];rfl);have hneg:=oP S c p l;clear hp KE hpr hpb OT
       cases hh:dp S c l p
       ·have wj:=ae (show yz S c l p=false by unfold yz;rw[hh];rfl);rw[hh] at hneg;generalize fX S c l p=z at c5 hneg;have d4:decide (0<=z)=true:=decide_eq_true (by simp at hneg;omega);clear hneg hh;go_wp2_with fail;exact⟨⟨i+1,by omega,by go_num,DO.out,by rw[wU HP.out wj.out];exact Af.out,sS.out,ID.out⟩,by simp[intOf];omega⟩
       ·have HH:=ae hh;rw[hh] at hneg;generalize fX S c l p=z at c5 hneg;have d4:decide (0<=z)=false:=decide_eq_false (by simp at hneg;omega);clear hneg hh;go_wp2_with fail;refine au (fun W4 xz=>?_);subst xz
        go_loopw [10,42] (fun cv kv W=>Hw W4 S c l k p cv kv W) (fun _ kv _=>k-(intOf kv).toNat)
        case atStart=>exact⟨0,by omega,rfl,by simp,Below.refl _ _⟩
        case round=>
         obtain⟨j,hj,rfl,hcv,hB⟩:=hrel;obtain⟨m,hm⟩:∃m,m=(S.take j).countP (fun q=>dp S c l q && hD l p q):=⟨_,rfl⟩;rw[<-hm] at hcv;subst hcv;have HM:=ae hm;have bm:=ae hB;have hmk:m<=4096:=by
          rw[hm];refine Nat.le_trans List.countP_le_length ?_;rw[List.length_take];omega
         have fT:=hB.size;clear hm hB;by_cases hjk:j<k
         ·have d5:decide ((j:Int)<(k:Int))=true:=decide_eq_true (by omega);have Pe:j<S.length:=by rw[<-HN.out];exact hjk
          obtain⟨q,hq⟩:∃q,S[j]? =some q:=⟨_,List.getElem?_eq_getElem Pe⟩;have HQ:=ae hq;have uv:=ae (wn (fun q=>dp S c l q && hD l p q) hq);have c6:=fun d os=>cell_regrown (show wr.cell? ⟨w.heap.size,j,none⟩=some (.int .i64 (fX S c l q)) from(aI.cells (al.grow' DO.out bm.out)).2.2.2 j _ (by rw[List.getElem?_map,hq];rfl)) d os
          have hneg:=oP S c q l;have Je:=ae (ID.out.trans (bm.out.mono hzi));clear hq Pe
          cases hh:dp S c l q
          ·rw[hh] at hneg;generalize fX S c l q=y at c6 hneg;have d6:decide (y<0)=false:=decide_eq_false (by simp at hneg;omega);have ut:=ae hh;clear hneg hh;go_wp2_with fail;refine wp_region_quiet_below (by kernel_rfl) (by kernel_rfl) ?_
           repeat(first|go_big_quiet_step (fail) |quiet_step (fail))
           refine wpQuiet_nil ?_;intro _ hw';obtain⟨⟨dqV,osV⟩,hw2⟩:=hw';subst hw2;have aO:=ae (below_regrown wr dqV osV);generalize Sort.grow (redrawn wr dqV) osV=V at aO⊢;have gf:=aO.out.size;have dQ:=ae (bm.out.trans (aO.out.mono fT));clear c6;go_wp2_with fail;exact⟨⟨j+1,by omega,by go_num,by rw[uv.out,<-HM.out];simp[ut.out],dQ.out⟩,by simp[intOf];omega⟩
          ·rw[hh] at hneg;generalize fX S c l q=y at c6 hneg;have d6:decide (y<0)=true:=decide_eq_true (by simp at hneg;omega);have ut:=ae hh;clear hneg hh;have FI:=ae (fun W=>jr q.id q.x q.y q.zl q.zh q.wd q.nm q.of q.cl l hl12 (HF.out q (List.mem_of_getElem? HQ.out)).2.1 (HF.out q (List.mem_of_getElem? HQ.out)).2.2.1 (HF.out q (List.mem_of_getElem? HQ.out)).2.2.2 W);have GD:=ae (fun W=>jr p.id p.x p.y p.zl p.zh p.wd p.nm p.of p.cl l hl12 (HF.out p (List.mem_of_getElem? HP.out)).2.1 (HF.out p (List.mem_of_getElem? HP.out)).2.2.1 (HF.out p (List.mem_of_getElem? HP.out)).2.2.2 W);have heq:=fun b hb W=>GM l q p b hb W
           have hcq:∀e,e<9->wr.cell? ⟨pb,po+j*9+e,none⟩=some (.int .i64 (q.f e)):=fun e he=>by
            rw[Je.out.cell xN.out,Iv.out j q.row (by rw[List.getElem?_map,HQ.out];rfl) e he,Pt.row_at q e he]
           have hcp:∀e,e<9->wr.cell? ⟨pb,po+i*9+e,none⟩=some (.int .i64 (p.f e)):=fun e he=>by
            rw[Je.out.cell xN.out,Iv.out i p.row (by rw[List.getElem?_map,HP.out];rfl) e he,Pt.row_at p e he]
           have sJ:=ae (show hD l p q=(decide (aK l q=aK l p) && decide (aY q.id<aY p.id)) from rfl);generalize hsb:decide (aK l q=aK l p)=sb at sJ;have zi:=heq sb hsb.symm;clear heq hsb;obtain⟨q0,q1,q2,q3,q4,q5,q6,q7,q8⟩:=q;obtain⟨p0,p1,p2,p3,p4,p5,p6,p7,p8⟩:=p;have ea:=FI;simp only at zi FI GD sJ;have a0:=fun d os=>cell_regrown (show wr.cell? ⟨pb,po+j*9,none⟩=some (.int .i64 q0) from hcq 0 (by decide)) d os
           have a1:=fun d os=>cell_regrown (show wr.cell? ⟨pb,po+j*9+1,none⟩=some (.int .i64 q1) from hcq 1 (by decide)) d os
           have a2:=fun d os=>cell_regrown (show wr.cell? ⟨pb,po+j*9+2,none⟩=some (.int .i64 q2) from hcq 2 (by decide)) d os
           have a3:=fun d os=>cell_regrown (show wr.cell? ⟨pb,po+j*9+3,none⟩=some (.int .i64 q3) from hcq 3 (by decide)) d os
           have a4:=fun d os=>cell_regrown (show wr.cell? ⟨pb,po+j*9+4,none⟩=some (.int .i64 q4) from hcq 4 (by decide)) d os
           have a5:=fun d os=>cell_regrown (show wr.cell? ⟨pb,po+j*9+5,none⟩=some (.int .i64 q5) from hcq 5 (by decide)) d os
           have a6:=fun d os=>cell_regrown (show wr.cell? ⟨pb,po+j*9+6,none⟩=some (.int .i64 q6) from hcq 6 (by decide)) d os
           have a7:=fun d os=>cell_regrown (show wr.cell? ⟨pb,po+j*9+7,none⟩=some (.int .i64 q7) from hcq 7 (by decide)) d os
           have a8:=fun d os=>cell_regrown (show wr.cell? ⟨pb,po+j*9+8,none⟩=some (.int .i64 q8) from hcq 8 (by decide)) d os
           have b0:=fun d os=>cell_regrown (show wr.cell? ⟨pb,po+i*9,none⟩=some (.int .i64 p0) from hcp 0 (by decide)) d os
           have b1:=fun d os=>cell_regrown (show wr.cell? ⟨pb,po+i*9+1,none⟩=some (.int .i64 p1) from hcp 1 (by decide)) d os
           have b2:=fun d os=>cell_regrown (show wr.cell? ⟨pb,po+i*9+2,none⟩=some (.int .i64 p2) from hcp 2 (by decide)) d os
           have b3:=fun d os=>cell_regrown (show wr.cell? ⟨pb,po+i*9+3,none⟩=some (.int .i64 p3) from hcp 3 (by decide)) d os
           have b4:=fun d os=>cell_regrown (show wr.cell? ⟨pb,po+i*9+4,none⟩=some (.int .i64 p4) from hcp 4 (by decide)) d os
           have b5:=fun d os=>cell_regrown (show wr.cell? ⟨pb,po+i*9+5,none⟩=some (.int .i64 p5) from hcp 5 (by decide)) d os
           have b6:=fun d os=>cell_regrown (show wr.cell? ⟨pb,po+i*9+6,none⟩=some (.int .i64 p6) from hcp 6 (by decide)) d os
           have b7:=fun d os=>cell_regrown (show wr.cell? ⟨pb,po+i*9+7,none⟩=some (.int .i64 p7) from hcp 7 (by decide)) d os
           have b8:=fun d os=>cell_regrown (show wr.cell? ⟨pb,po+i*9+8,none⟩=some (.int .i64 p8) from hcp 8 (by decide)) d os
           clear hcq hcp ea
           cases sb
           ·go_wp2_with fail;refine wp_region_quiet_below (by kernel_rfl) (by kernel_rfl) ?_
            repeat(first|go_big_quiet_step ((first| (go_at_call 93;with_reducible exact Calls.regrown_of (FI.out _)) | (go_at_call 93;with_reducible exact Calls.regrown_of (GD.out _)) | (go_at_call 130;exact Calls.regrown_of (dV _ _)))) |quiet_step ((first| (go_at_call 93;with_reducible exact Calls.regrown_of (FI.out _)) | (go_at_call 93;with_reducible exact Calls.regrown_of (GD.out _)) | (go_at_call 130;exact Calls.regrown_of (dV _ _)))))
            refine wpQuiet_nil ?_;intro _ hw';obtain⟨⟨dqV,osV⟩,hw2⟩:=hw';subst hw2;have aO:=ae (below_regrown wr dqV osV);generalize Sort.grow (redrawn wr dqV) osV=V at aO⊢;have gf:=aO.out.size;have dQ:=ae (bm.out.trans (aO.out.mono fT));clear c6 a0 b0 a1 b1 a2 b2 a3 b3 a4 b4 a5 b5 a6 b6 a7 b7 a8 b8 zi;go_wp2_with fail;exact⟨⟨j+1,by omega,by go_num,by rw[uv.out,<-HM.out];simp[sJ.out],dQ.out⟩,by simp[intOf];omega⟩
           ·by_cases hrk:aY q0<aY p0
            ·have d7:decide (aY q0<aY p0)=true:=decide_eq_true hrk;go_wp2_with fail;refine wp_region_quiet_below (by kernel_rfl) (by kernel_rfl) ?_
             repeat(first|go_big_quiet_step ((first| (go_at_call 93;with_reducible exact Calls.regrown_of (FI.out _)) | (go_at_call 93;with_reducible exact Calls.regrown_of (GD.out _)) | (go_at_call 130;exact Calls.regrown_of (dV _ _)))) |quiet_step ((first| (go_at_call 93;with_reducible exact Calls.regrown_of (FI.out _)) | (go_at_call 93;with_reducible exact Calls.regrown_of (GD.out _)) | (go_at_call 130;exact Calls.regrown_of (dV _ _)))))
             refine wpQuiet_nil ?_;intro _ hw';obtain⟨⟨dqV,osV⟩,hw2⟩:=hw';subst hw2;have aO:=ae (below_regrown wr dqV osV);generalize Sort.grow (redrawn wr dqV) osV=V at aO⊢;have gf:=aO.out.size;have dQ:=ae (bm.out.trans (aO.out.mono fT));clear c6 a0 b0 a1 b1 a2 b2 a3 b3 a4 b4 a5 b5 a6 b6 a7 b7 a8 b8 zi;go_wp2_with fail;exact⟨⟨j+1,by omega,by go_num,by rw[uv.out,<-HM.out];simp[sJ.out,ut.out,hrk],dQ.out⟩,by simp[intOf];omega⟩
            ·have d7:decide (aY q0<aY p0)=false:=decide_eq_false hrk;go_wp2_with fail;refine wp_region_quiet_below (by kernel_rfl) (by kernel_rfl) ?_
             repeat(first|go_big_quiet_step ((first| (go_at_call 93;with_reducible exact Calls.regrown_of (FI.out _)) | (go_at_call 93;with_reducible exact Calls.regrown_of (GD.out _)) | (go_at_call 130;exact Calls.regrown_of (dV _ _)))) |quiet_step ((first| (go_at_call 93;with_reducible exact Calls.regrown_of (FI.out _)) | (go_at_call 93;with_reducible exact Calls.regrown_of (GD.out _)) | (go_at_call 130;exact Calls.regrown_of (dV _ _)))))
             refine wpQuiet_nil ?_;intro _ hw';obtain⟨⟨dqV,osV⟩,hw2⟩:=hw';subst hw2;have aO:=ae (below_regrown wr dqV osV);generalize Sort.grow (redrawn wr dqV) osV=V at aO⊢;have gf:=aO.out.size;have dQ:=ae (bm.out.trans (aO.out.mono fT));clear c6 a0 b0 a1 b1 a2 b2 a3 b3 a4 b4 a5 b5 a6 b6 a7 b7 a8 b8 zi;go_wp2_with fail;exact⟨⟨j+1,by omega,by go_num,by rw[uv.out,<-HM.out,if_neg (fun e=>by simp[sJ.out] at e;omega)];simp,dQ.out⟩,by simp[intOf];omega⟩
         ·obtain rfl:j=k:=by omega
          have d5:decide ((j:Int)<(j:Int))=false:=by simp
          have Mi:=HN.out
          have o9:=ae (show takes S c l p=(decide (l=12) || decide (m<c)) by
           rw[HM.out,Mi,List.take_length]
           rfl)
          clear Mi;by_cases hmc:m<c
          ·have d6:decide ((m:Int)<(c:Int))=true:=decide_eq_true (by omega);have wj:=ae (show yz S c l p=true by unfold yz;rw[o9.out,HH.out];simp[hmc]);go_upto_region 23 with fail;have oI:=ae (show Below W4.heap.size W4 (wr.alloc (.cells #[.int .i64 (i:Int)] 3)) from bm.out.alloc bm.out.size _);have Ce:=ae (al.grow' Af.out oI.out);have Gr:=ae (al.grow' DO.out oI.out);have CC:=ae (show aB (wr.alloc (.cells #[.int .i64 (i:Int)] 3)) wr.heap.size 0 1 [bB (i:Int)] from aB.one (ai _ _ _ rfl));have EI:=ae (show(((ft S c l i).map Int.ofNat).map bB).length +1<=maxLen by rw[List.length_map,List.length_map,<-zY.out];unfold maxLen;omega);have I4:=ae (show((((ft S c l i).map Int.ofNat).map bB).length +1)*8<=140737488355328 by rw[List.length_map,List.length_map,<-zY.out];omega);have xr:=ae (show w.heap.size<=(wr.alloc (.cells #[.int .i64 (i:Int)] 3)).heap.size by simp;omega)
           go_wp2_with (first
            | (at_builtin
               refine ar rfl (.tmp 90) (.tmp 92) 30 rfl w.heap.size 3 i0 _ 1 8 Tryz.underlying30 HI.out HZ0.out HZ1.out HZ2.out rfl (by decide) (.slice na nn ncap) _ [bB (i:Int)] rfl Ce.out wr.heap.size 0 1 1 rfl rfl CC.out (bF.one rfl (gX _)) EI.out I4.out xr.out ?_;intro v6 W6 aV da mt;have fD:=ae aV;have yN:=ae da;have kU:=ae mt
               clear aV da mt))
           exact⟨⟨i+1,by omega,by go_num,al.turned Gr.out (aN yN.out) (fun b hb e=>sS.out b e.symm (by injection hb with hb;exact hb.symm)),(by
            rw[sj HP.out wj.out,List.map_append];unfold aI;rw[List.map_append]
            exact fD.out),(fun b hb e=>by
            rcases kU.out with h|h
            ·rw[h] at hb;exact sS.out b hb e
            ·rw[h] at hb;injection hb with hb
             simp at hb;have:=(aI.cells DO.out).2.1
             omega),(ID.out.trans (oI.out.mono hzi)).grown yN.out xr.out (fun q hq=>al.ownBlock Ce.out q hq)⟩,by simp[intOf];omega⟩
          ·have d6:decide ((m:Int)<(c:Int))=false:=decide_eq_false (by omega);by_cases hl2:l=12
           ·have d7:((l:Int) == 12)=true:=by simp;omega
            have wj:=ae (show yz S c l p=true by unfold yz;rw[o9.out,HH.out];simp[hl2]);clear hl2;go_upto_region 23 with fail;have oI:=ae (show Below W4.heap.size W4 (wr.alloc (.cells #[.int .i64 (i:Int)] 3)) from bm.out.alloc bm.out.size _);have Ce:=ae (al.grow' Af.out oI.out);have Gr:=ae (al.grow' DO.out oI.out);have CC:=ae (show aB (wr.alloc (.cells #[.int .i64 (i:Int)] 3)) wr.heap.size 0 1 [bB (i:Int)] from aB.one (ai _ _ _ rfl));have EI:=ae (show(((ft S c l i).map Int.ofNat).map bB).length +1<=maxLen by rw[List.length_map,List.length_map,<-zY.out];unfold maxLen;omega);have I4:=ae (show((((ft S c l i).map Int.ofNat).map bB).length +1)*8<=140737488355328 by rw[List.length_map,List.length_map,<-zY.out];omega);have xr:=ae (show w.heap.size<=(wr.alloc (.cells #[.int .i64 (i:Int)] 3)).heap.size by simp;omega)
            go_wp2_with (first
             | (at_builtin
                refine ar rfl (.tmp 90) (.tmp 92) 30 rfl w.heap.size 3 i0 _ 1 8 Tryz.underlying30 HI.out HZ0.out HZ1.out HZ2.out rfl (by decide) (.slice na nn ncap) _ [bB (i:Int)] rfl Ce.out wr.heap.size 0 1 1 rfl rfl CC.out (bF.one rfl (gX _)) EI.out I4.out xr.out ?_;intro v6 W6 aV da mt;have fD:=ae aV;have yN:=ae da;have kU:=ae mt
                clear aV da mt))
            exact⟨⟨i+1,by omega,by go_num,al.turned Gr.out (aN yN.out) (fun b hb e=>sS.out b e.symm (by injection hb with hb;exact hb.symm)),(by
             rw[sj HP.out wj.out,List.map_append];unfold aI;rw[List.map_append]
             exact fD.out),(fun b hb e=>by
             rcases kU.out with h|h
             ·rw[h] at hb;exact sS.out b hb e
             ·rw[h] at hb;injection hb with hb
              simp at hb;have:=(aI.cells DO.out).2.1
              omega),(ID.out.trans (oI.out.mono hzi)).grown yN.out xr.out (fun q hq=>al.ownBlock Ce.out q hq)⟩,by simp[intOf];omega⟩
           ·have d7:((l:Int) == 12)=false:=by simp;omega
            have wj:=ae (show yz S c l p=false by unfold yz;rw[o9.out,HH.out];simp[hmc,hl2]);go_wp2_with fail;exact⟨⟨i+1,by omega,by go_num,al.grow' DO.out bm.out,by rw[wU HP.out wj.out];exact al.grow' Af.out bm.out,sS.out,ID.out.trans (bm.out.mono hzi)⟩,by simp[intOf];omega⟩
      ·obtain rfl:i=k:=by omega
       have d3:decide ((i:Int)<(i:Int))=false:=by simp
       go_wp2_with fail;have LB:=ae (show ft S c l i=ft S c l S.length by rw[<-HN.out])
       go_loopw [97] (fun tv W=>DW w S c l nn (.slice (some ⟨w.heap.size,0,none⟩) i i) (.slice na nn ncap) tv W) (fun tv _=>nn-(intOf tv).toNat)
       case atStart=>exact⟨0,_,by omega,rfl,rG.start rfl,DO.out,LB.out▸Af.out,ID.out⟩
       case round=>
        obtain⟨s,zs,hs,rfl,hlv,hown,hnow,hB⟩:=hrel;have Ka:=ae hlv;have MG:=ae hown;have rT:=ae hnow;have N5:=ae hB;clear hlv hown hnow hB;by_cases hlt3:s<nn
        ·have d4:decide ((s:Int)<(nn:Int))=true:=decide_eq_true (by omega);obtain⟨j,hj⟩:∃j,(ft S c l S.length)[s]? =some j:=⟨_,List.getElem?_eq_getElem (by rw[<-LB.out,<-zY.out];exact hlt3)⟩;have HJ:=ae hj;have hjn:j<i:=by
          have:=List.mem_of_getElem? hj;simp[ft] at this;have hq:=HN.out;omega
         obtain⟨nb,ncap',ncur,hns,QC,hnc,hnr,_⟩:=al.rows rT.out (by rw[List.length_map,List.length_map,<-LB.out,<-zY.out];omega);obtain⟨rfl,rfl⟩:na=some ⟨nb,0,none⟩/\ncap=ncap':=by injection hns with e1 e2 e3;exact⟨e1,e3⟩
         have c7:wr.cell? ⟨nb,s,none⟩=some (.int .i64 (j:Int)):=by
          have:=hnr s (bB (j:Int)) (by rw[List.getElem?_map,List.getElem?_map,hj];rfl) 0 (by decide);rw[Nat.mul_one,Nat.zero_add,Nat.add_zero] at this;exact this
         obtain⟨z1,C,z2,hC,hle,z3,Au,z4⟩:=eX MG.out;have HC:=ae hC;have Lm:C.size=i:=by rw[Au,Nat.mul_one]
         clear z1 z2 z3 z4 hC hle Au hns QC hnc hnr hj
         go_wp2_with (first
          | (refine bC rfl 3 (.tmp 104) (.tmp 103) rfl w.heap.size j _ rfl rfl rfl rfl HC.out ml (by omega) ?_))
         exact⟨⟨s+1,_,by omega,by go_num,Ka.out.step HJ.out,aI.set MG.out HC.out (by rw[Ka.out.1,<-HN.out];exact hjn),al.turned rT.out (f9 _ _ _) (fun b hb e=>sS.out b hb e),dT N5.out (Nat.le_refl _)⟩,by simp[intOf];omega⟩
        ·obtain rfl:s=nn:=by omega
         have d4:decide ((s:Int)<(s:Int))=false:=by simp
         go_wp2_with fail;exact⟨⟨l+1,by omega,by go_num,Ka.out.done (by rw[<-LB.out,<-zY.out];exact Nat.le_refl _)▸MG.out,N5.out⟩,by simp[intOf];omega⟩
    ·obtain rfl:l=13:=by omega
     go_wp2_with fail;go_ret;exact⟨⟨_,rfl,Ch.out⟩,wg.out⟩
open Go.RowKit Go.Sort
theorem BU {C:Array Value} {o j:Nat} {r:List Value} {u:Value} (hC:∀i,i<r.length->C[o+i]? =r[i]?) (hj:j<r.length):fA C (o+j) [u]=fA C o (r.set j u):=by
 have hsz:o+r.length<=C.size:=by
  have h:=hC (r.length-1) (by omega);rw[List.getElem?_eq_getElem (by omega)] at h;have:=(Array.getElem?_eq_some_iff.1 h).1;omega
 refine Array.ext_getElem? fun x=>?_
 by_cases hx:o<=x/\x<o+r.length
 ·obtain⟨i,rfl⟩:∃i,x=o+i:=⟨x-o,by omega⟩;rw[qR (r.set j u) C o i (by rw[List.length_set];exact hsz) (by rw[List.length_set];omega)];by_cases hij:i=j
  ·subst hij;have h:=qR [u] C (o+i) 0 (by simp;omega) (by simp);rw[Nat.add_zero] at h;rw[h,List.getElem?_set_self hj];rfl
  ·rw[jF [u] C (o+j) (o+i) (by simp;omega),List.getElem?_set_ne (Ne.symm hij)];exact hC i (by omega)
 ·rw[jF [u] C (o+j) x (by simp;omega),jF (r.set j u) C o x (by rw[List.length_set];omega)]
theorem EQ {W:World} {base t sz g n cap i:Nat} {l:List (List Value)} {cur:Array Value} {r:List Value} (h:al W base t sz (.slice (some ⟨g,0,none⟩) n cap) l) (hc:W.heap[g]? =some (.cells cur t)) (hi:l[i]? =some r):
 ∀j,j<sz->cur[i*sz+j]? =r[j]? :=fun j hj=>by
 obtain⟨hn,cur',hB,hc',hle,hm,hcs,htk⟩:=eX h;rw[hc] at hc';injection hc' with hc'
 injection hc' with hc' _
 subst hc';have hil:i<l.length:=(List.getElem?_eq_some_iff.1 hi).1;have hk:i*sz+j<l.length*sz:=by
  have:(i+1)*sz<=l.length*sz:=Nat.mul_le_mul_right sz hil;rw[Nat.add_mul] at this;omega
 rw[<-h.1.at hi j hj,<-htk,List.getElem?_take_of_lt hk,Array.getElem?_toList]
theorem Bv {W:World} {base t sz g n cap i j:Nat} {l:List (List Value)} {cur:Array Value} {r:List Value} {u:Value} (h:al W base t sz (.slice (some ⟨g,0,none⟩) n cap) l) (hc:W.heap[g]? =some (.cells cur t)) (hi:l[i]? =some r) (hj:j<sz) (hu:u.oneCell'=true):
 al (W.setRow g (fA cur (i*sz+j) [u])) base t sz (.slice (some ⟨g,0,none⟩) n cap) (l.set i (r.set j u)):=by
 have hil:i<l.length:=(List.getElem?_eq_some_iff.1 hi).1;obtain⟨hrl,hr1⟩:=h.1 r (List.mem_of_getElem? hi);rw[BU (r:=r) (fun k hk=>EQ h hc hi k (by omega)) (by omega)];refine nf h hc hil (by rw[List.length_set];exact hrl) (fun v hv=>?_)
 rcases List.mem_or_eq_of_mem_set hv with g|g
 ·exact hr1 v g
 ·subst g;exact hu
theorem yi {W W':World} {base g n cap i:Nat} {E:List Te} {e:Te} {cur:Array Value} {v:Value} {pts:List Pt} (h:bw W base (.slice (some ⟨g,0,none⟩) n cap) E) (hb:Below W.heap.size W W') (hi:E[i]? =some e) (hc:W'.heap[g]? =some (.cells cur 101)) (hv:aq W' base v pts):
 bw (W'.setRow g (fA cur (i*5+4) [v])) base (.slice (some ⟨g,0,none⟩) n cap) (E.set i ⟨e.key,v,pts⟩):=by
 have hv1:v.oneCell'=true:=by
  obtain⟨a,c,rfl⟩:=hv.slice;rfl
 have h1:=al.grow' h.1 hb;have h2:=Bv h1 hc (i:=i) (j:=4) (r:=e.row) (u:=v) (by rw[List.getElem?_map,hi];rfl) (by decide) hv1;have er:e.row.set 4 v=Te.row ⟨e.key,v,pts⟩:=rfl;rw[er,<-List.map_set] at h2;have ht:=f9 W' g (fA cur (i*5+4) [v]);have hne:∀(u:Value) (l:List Pt),aq W' base u l->∀b,u.ownBlock=some b->¬b=g:=fun u l hu b hb2 e=>by
  subst e;obtain⟨c1,q1⟩:=al.typed hu hb2;rw[hc] at q1;injection q1 with q1
  injection q1 with _ q1
  exact absurd q1 (by decide)
 refine⟨h2,fun f hf=>?_⟩
 rcases List.mem_or_eq_of_mem_set hf with q|q
 ·exact al.turned (al.grow' (h.2 f q) hb) ht (hne _ _ (al.grow' (h.2 f q) hb))
 ·subst q;exact al.turned hv ht (hne _ _ hv)
theorem bw.grow {W W':World} {base:Nat} {v:Value} {E:List Te} (h:bw W base v E) (hb:Below W.heap.size W W'):bw W' base v E:=⟨al.grow' h.1 hb,fun e he=>al.grow' (h.2 e he) hb⟩
theorem bw.slice {W:World} {base:Nat} {v:Value} {E:List Te} (h:bw W base v E):∃a cap,v=.slice a E.length cap:=by
 have:=al.slice h.1;rwa[List.length_map] at this
theorem rY {P:Program} {ops:Array Oper} {Q:Exit->Act->World->Prop} {l rest:List Oper} {o:Oper} {a:Act} {w:World} (hl:l=o::rest)
 (h:∀K:Act->World->Prop,(∀v A' W',A'=a.put o.dst v->iu P ops Q rest A' W'->K A' W')->wpList P ops (Exit.then K Q) [o] a w):iu P ops Q l a w:=by
 subst hl;exact h
theorem ES {P:Program} {ops:Array Oper} {Q:Exit->Act->World->Prop} {l:List Oper} {a:Act} {w:World} (hl:l=[]) (h:Q .normal a w):iu P ops Q l a w:=by
 subst hl;exact h
def nB (B:Nat) (W:World) (v:Value):Prop:=∃g,v=.pointer (some ⟨g,0,none⟩)/\B<=g/\W.heap[g]? =some (.cells #[.int .i64 0,.int .i64 0,.int .i64 0,.int .i64 0] 99)
theorem nB.stb (B:Nat):yA (nB B):=fun _ _ _ hB ⟨g,h1,h2,h3⟩=>⟨g,h1,h2,aj hB h3⟩
theorem Ey:cA Tryz.prog 10 99=some [some .i64,some .i64,some .i64,some .i64]:=by kernel_rfl
theorem vo (a b c d e f g h:Int):cD [.int .i64 a,.int .i64 b,.int .i64 c,.int .i64 d] [.int .i64 e,.int .i64 f,.int .i64 g,.int .i64 h]=(decide (a=e) && (decide (b=f) && (decide (c=g) && decide (d=h)))):=by
 simp only[cD,oq,Bool.and_true];congr 1
theorem nu (a b:Ky) (r:Bool) (hr:r=decide (a=b)) (W:World):(Op.equalIn 10000 99 (.agg #[.int .i64 a.L,.int .i64 a.x,.int .i64 a.y,.int .i64 a.z]) (.agg #[.int .i64 b.L,.int .i64 b.x,.int .i64 b.y,.int .i64 b.z])).run Tryz.prog W=.ok r W:=by
 have h:=dU Tryz.underlying99 (Ey) [.int .i64 a.L,.int .i64 a.x,.int .i64 a.y,.int .i64 a.z] [.int .i64 b.L,.int .i64 b.x,.int .i64 b.y,.int .i64 b.z] rfl rfl W;refine h.trans ?_;rw[vo,hr];congr 1;rw[Bool.eq_iff_iff];simp only[Bool.and_eq_true,decide_eq_true_eq];constructor
 ·rintro⟨h0,h1,h2,h3⟩;exact Ky.ext' h0 h1 h2 h3
 ·intro h;subst h;exact⟨rfl,rfl,rfl,rfl⟩
open Go.RowKit Go.Sort
instance (a b:Ky):Decidable (a.lt b):=by unfold Ky.lt;infer_instance
theorem wT:(Tryz.prog.info? 197).map (·.size)=some 4:=by kernel_rfl
theorem fR (a b:Ky) (w:World):Calls Tryz.prog 94 #[.agg a.row.toArray,.agg b.row.toArray] w fun r w'=>r=.returned (.bool (decide (a.lt b)))/\Below w.heap.size w w':=by
 obtain⟨aL,ax,ay,az⟩:=a;obtain⟨bL,bx,b_y,bz⟩:=b;have HV:=ae (show Ky.lt ⟨aL,ax,ay,az⟩ ⟨bL,bx,b_y,bz⟩↔(aL<bL∨(aL=bL/\(ax<bx∨(ax=bx/\(ay<b_y∨(ay=b_y/\az<bz)))))) from Iff.rfl);simp only[Ky.row];generalize hr:decide (Ky.lt ⟨aL,ax,ay,az⟩ ⟨bL,bx,b_y,bz⟩)=r;have HR:=ae hr;clear hr;go_enter Tryz.func94,Tryz.ntmps94;go_upto_region 1 with fail;refine au (fun W0 hW=>?_);have HB0:=ae (show Below w.heap.size w W0 by rw[hW];(repeat' (first| (with_reducible first|exact Below.refl _ _|assumption|refine Below.alloc ?_ ?_ _|refine Below.drew ?_ |refine below_drewN ?_ _|refine Below.setCell ?_ ?_ _|refine below_setRow ?_ ?_ _) |go_size)));have AK:=ae (show W0.heap[w.heap.size]? =some (.cells #[.int .i64 aL,.int .i64 ax,.int .i64 ay,.int .i64 az] 99) by rw[hW];exact(by repeat' (first| (refine ai _ _ _ ?_;(first|rfl| (simp;done) | (simp;omega))) | (refine am _ _ _ _ ?_))));have BK:=ae (show W0.heap[w.heap.size+1]? =some (.cells #[.int .i64 bL,.int .i64 bx,.int .i64 b_y,.int .i64 bz] 99) by rw[hW];exact(by repeat' (first| (refine ai _ _ _ ?_;(first|rfl| (simp;done) | (simp;omega))) | (refine am _ _ _ _ ?_))));clear hW;refine bf (fun A0 hA=>?_);refine bD (by kernel_rfl) (by kernel_rfl) [some 8,some 9,some 10,some 11,some 12,some 13,some 14,some 15,some 16,some 17,some 18,some 19,some 20,some 21,some 22,some 23,some 24,some 25,some 5,some 6,none,none] rfl (by decide) (lF W0 18 2 (fun j=>[.pointer (some ⟨w.heap.size,0,none⟩),.int .i64 aL,.pointer (some ⟨w.heap.size,1,none⟩),.int .i64 ax,.pointer (some ⟨w.heap.size,2,none⟩),.int .i64 ay,.pointer (some ⟨w.heap.size,3,none⟩),.int .i64 az,.agg #[.int .i64 aL,.int .i64 ax,.int .i64 ay,.int .i64 az],.pointer (some ⟨w.heap.size+1,0,none⟩),.int .i64 bL,.pointer (some ⟨w.heap.size+1,1,none⟩),.int .i64 bx,.pointer (some ⟨w.heap.size+1,2,none⟩),.int .i64 b_y,.pointer (some ⟨w.heap.size+1,3,none⟩),.int .i64 bz,.agg #[.int .i64 bL,.int .i64 bx,.int .i64 b_y,.int .i64 bz]].getD j undef) (fun i=>[#[.int .i64 0,.int .i64 0,.int .i64 0,.int .i64 0],#[.int .i64 0,.int .i64 0,.int .i64 0,.int .i64 0]].getD i #[]) (fun i=>[#[.int .i64 aL,.int .i64 ax,.int .i64 ay,.int .i64 az],#[.int .i64 bL,.int .i64 bx,.int .i64 b_y,.int .i64 bz]].getD i #[]) (fun i=>([197,197]:List Nat).getD i 0)) (fy A0 _) (ci A0 _) lF.start ?hs1_1_W1 ?hend_1_W1
 case hs1_1_W1=>
  refine⟨?_,?_,?_,?_,?_,?_,?_,?_,?_,?_,?_,?_,?_,?_,?_,?_,?_,?_,?_,?_,?_,?_,trivial⟩
  ·intro K L us W ak hL hd hR;have hK:=ae (fun v A' W' h1 h2 h3=>ak v A' W' h1 (hR.pure (k:=0) (by decide) h2 h3));clear ak
   (try simp[Region.binds] at hd)
   have hB:=hR.grow;have GB:=ae hB;clear hd hR hB;simp only[ah];rw[hA];go_frame;go_wp2_with fail;exact hK.out _ _ _ (by rw[hA];simp only[ah];kernel_rfl) (Below.refl _ _) rfl
  ·intro K L us W ak hL hd hR;have hK:=ae (fun v A' W' h1 h2 h3=>ak v A' W' h1 (hR.pure (k:=1) (by decide) h2 h3));clear ak
   (try simp[Region.binds] at hd)
   have hB:=hR.grow;have GB:=ae hB;have e0:us 0=.pointer (some ⟨w.heap.size,0,none⟩):=hR.vals 0 (by decide) (by first|exact hd|exact hd.1|exact hd.2.1|simp_all);have G0:=ae (aj hB AK.out);have c0:W.cell? ⟨w.heap.size,0,none⟩=some (.int .i64 aL):=(af (j:=0) G0.out).trans rfl;clear hd hR hB;simp only[ah];rw[hA,e0];go_frame;go_wp2_with fail;exact hK.out _ _ _ (by rw[hA];simp only[ah];rw[e0];kernel_rfl) (Below.refl _ _) rfl
  ·intro K L us W ak hL hd hR;have hK:=ae (fun v A' W' h1 h2 h3=>ak v A' W' h1 (hR.pure (k:=2) (by decide) h2 h3));clear ak
   (try simp[Region.binds] at hd)
   have hB:=hR.grow;have GB:=ae hB;clear hd hR hB;simp only[ah];rw[hA];go_frame;go_wp2_with fail;exact hK.out _ _ _ (by rw[hA];simp only[ah];kernel_rfl) (Below.refl _ _) rfl
  ·intro K L us W ak hL hd hR;have hK:=ae (fun v A' W' h1 h2 h3=>ak v A' W' h1 (hR.pure (k:=3) (by decide) h2 h3));clear ak
   (try simp[Region.binds] at hd)
   have hB:=hR.grow;have GB:=ae hB;have e2:us 2=.pointer (some ⟨w.heap.size,1,none⟩):=hR.vals 2 (by decide) (by first|exact hd|exact hd.1|exact hd.2.1|simp_all);have G0:=ae (aj hB AK.out);have c0:W.cell? ⟨w.heap.size,1,none⟩=some (.int .i64 ax):=(af (j:=1) G0.out).trans rfl;clear hd hR hB;simp only[ah];rw[hA,e2];go_frame;go_wp2_with fail;exact hK.out _ _ _ (by rw[hA];simp only[ah];rw[e2];kernel_rfl) (Below.refl _ _) rfl
  ·intro K L us W ak hL hd hR;have hK:=ae (fun v A' W' h1 h2 h3=>ak v A' W' h1 (hR.pure (k:=4) (by decide) h2 h3));clear ak
   (try simp[Region.binds] at hd)
   have hB:=hR.grow;have GB:=ae hB;clear hd hR hB;simp only[ah];rw[hA];go_frame;go_wp2_with fail;exact hK.out _ _ _ (by rw[hA];simp only[ah];kernel_rfl) (Below.refl _ _) rfl
  ·intro K L us W ak hL hd hR;have hK:=ae (fun v A' W' h1 h2 h3=>ak v A' W' h1 (hR.pure (k:=5) (by decide) h2 h3));clear ak
   (try simp[Region.binds] at hd)
   have hB:=hR.grow;have GB:=ae hB;have e4:us 4=.pointer (some ⟨w.heap.size,2,none⟩):=hR.vals 4 (by decide) (by first|exact hd|exact hd.1|exact hd.2.1|simp_all);have G0:=ae (aj hB AK.out);have c0:W.cell? ⟨w.heap.size,2,none⟩=some (.int .i64 ay):=(af (j:=2) G0.out).trans rfl;clear hd hR hB;simp only[ah];rw[hA,e4];go_frame;go_wp2_with fail;exact hK.out _ _ _ (by rw[hA];simp only[ah];rw[e4];kernel_rfl) (Below.refl _ _) rfl
  ·intro K L us W ak hL hd hR;have hK:=ae (fun v A' W' h1 h2 h3=>ak v A' W' h1 (hR.pure (k:=6) (by decide) h2 h3));clear ak
   (try simp[Region.binds] at hd)
   have hB:=hR.grow;have GB:=ae hB;clear hd hR hB;simp only[ah];rw[hA];go_frame;go_wp2_with fail;exact hK.out _ _ _ (by rw[hA];simp only[ah];kernel_rfl) (Below.refl _ _) rfl
  ·intro K L us W ak hL hd hR;have hK:=ae (fun v A' W' h1 h2 h3=>ak v A' W' h1 (hR.pure (k:=7) (by decide) h2 h3));clear ak
   (try simp[Region.binds] at hd)
   have hB:=hR.grow;have GB:=ae hB;have e6:us 6=.pointer (some ⟨w.heap.size,3,none⟩):=hR.vals 6 (by decide) (by first|exact hd|exact hd.1|exact hd.2.1|simp_all);have G0:=ae (aj hB AK.out);have c0:W.cell? ⟨w.heap.size,3,none⟩=some (.int .i64 az):=(af (j:=3) G0.out).trans rfl;clear hd hR hB;simp only[ah];rw[hA,e6];go_frame;go_wp2_with fail;exact hK.out _ _ _ (by rw[hA];simp only[ah];rw[e6];kernel_rfl) (Below.refl _ _) rfl
  ·intro K L us W ak hL hd hR;have hK:=ae (fun v A' W' h1 h2 h3=>ak v A' W' h1 (hR.pure (k:=8) (by decide) h2 h3));clear ak
   (try simp[Region.binds] at hd)
   have hB:=hR.grow;have GB:=ae hB;have e1:us 1=.int .i64 aL:=hR.vals 1 (by decide) (by first|exact hd|exact hd.1|exact hd.2.1|simp_all);have e3:us 3=.int .i64 ax:=hR.vals 3 (by decide) (by first|exact hd|exact hd.1|exact hd.2.1|simp_all);have e5:us 5=.int .i64 ay:=hR.vals 5 (by decide) (by first|exact hd|exact hd.1|exact hd.2.1|simp_all);have e7:us 7=.int .i64 az:=hR.vals 7 (by decide) (by first|exact hd|exact hd.1|exact hd.2.1|simp_all);clear hd hR hB;simp only[ah];rw[hA,e1,e3,e5,e7];go_frame;go_wp2_with fail;exact hK.out _ _ _ (by rw[hA];simp only[ah];rw[e1,e3,e5,e7];kernel_rfl) (Below.refl _ _) rfl
  ·intro K L us W ak hL hd hR;have hK:=ae (fun v A' W' h1 h2 h3=>ak v A' W' h1 (hR.pure (k:=9) (by decide) h2 h3));clear ak
   (try simp[Region.binds] at hd)
   have hB:=hR.grow;have GB:=ae hB;clear hd hR hB;simp only[ah];rw[hA];go_frame;go_wp2_with fail;exact hK.out _ _ _ (by rw[hA];simp only[ah];kernel_rfl) (Below.refl _ _) rfl
  ·intro K L us W ak hL hd hR;have hK:=ae (fun v A' W' h1 h2 h3=>ak v A' W' h1 (hR.pure (k:=10) (by decide) h2 h3));clear ak
   (try simp[Region.binds] at hd)
   have hB:=hR.grow;have GB:=ae hB;have e9:us 9=.pointer (some ⟨w.heap.size+1,0,none⟩):=hR.vals 9 (by decide) (by first|exact hd|exact hd.1|exact hd.2.1|simp_all);have G0:=ae (aj hB BK.out);have c0:W.cell? ⟨w.heap.size+1,0,none⟩=some (.int .i64 bL):=(af (j:=0) G0.out).trans rfl;clear hd hR hB;simp only[ah];rw[hA,e9];go_frame;go_wp2_with fail;exact hK.out _ _ _ (by rw[hA];simp only[ah];rw[e9];kernel_rfl) (Below.refl _ _) rfl
  ·intro K L us W ak hL hd hR;have hK:=ae (fun v A' W' h1 h2 h3=>ak v A' W' h1 (hR.pure (k:=11) (by decide) h2 h3));clear ak
   (try simp[Region.binds] at hd)
   have hB:=hR.grow;have GB:=ae hB;clear hd hR hB;simp only[ah];rw[hA];go_frame;go_wp2_with fail;exact hK.out _ _ _ (by rw[hA];simp only[ah];kernel_rfl) (Below.refl _ _) rfl
  ·intro K L us W ak hL hd hR;have hK:=ae (fun v A' W' h1 h2 h3=>ak v A' W' h1 (hR.pure (k:=12) (by decide) h2 h3));clear ak
   (try simp[Region.binds] at hd)
   have hB:=hR.grow;have GB:=ae hB;have e11:us 11=.pointer (some ⟨w.heap.size+1,1,none⟩):=hR.vals 11 (by decide) (by first|exact hd|exact hd.1|exact hd.2.1|simp_all);have G0:=ae (aj hB BK.out);have c0:W.cell? ⟨w.heap.size+1,1,none⟩=some (.int .i64 bx):=(af (j:=1) G0.out).trans rfl;clear hd hR hB;simp only[ah];rw[hA,e11];go_frame;go_wp2_with fail;exact hK.out _ _ _ (by rw[hA];simp only[ah];rw[e11];kernel_rfl) (Below.refl _ _) rfl
  ·intro K L us W ak hL hd hR;have hK:=ae (fun v A' W' h1 h2 h3=>ak v A' W' h1 (hR.pure (k:=13) (by decide) h2 h3));clear ak
   (try simp[Region.binds] at hd)
   have hB:=hR.grow;have GB:=ae hB;clear hd hR hB;simp only[ah];rw[hA];go_frame;go_wp2_with fail;exact hK.out _ _ _ (by rw[hA];simp only[ah];kernel_rfl) (Below.refl _ _) rfl
  ·intro K L us W ak hL hd hR;have hK:=ae (fun v A' W' h1 h2 h3=>ak v A' W' h1 (hR.pure (k:=14) (by decide) h2 h3));clear ak
   (try simp[Region.binds] at hd)
   have hB:=hR.grow;have GB:=ae hB;have e13:us 13=.pointer (some ⟨w.heap.size+1,2,none⟩):=hR.vals 13 (by decide) (by first|exact hd|exact hd.1|exact hd.2.1|simp_all);have G0:=ae (aj hB BK.out);have c0:W.cell? ⟨w.heap.size+1,2,none⟩=some (.int .i64 b_y):=(af (j:=2) G0.out).trans rfl;clear hd hR hB;simp only[ah];rw[hA,e13];go_frame;go_wp2_with fail;exact hK.out _ _ _ (by rw[hA];simp only[ah];rw[e13];kernel_rfl) (Below.refl _ _) rfl
  ·intro K L us W ak hL hd hR;have hK:=ae (fun v A' W' h1 h2 h3=>ak v A' W' h1 (hR.pure (k:=15) (by decide) h2 h3));clear ak
   (try simp[Region.binds] at hd)
   have hB:=hR.grow;have GB:=ae hB;clear hd hR hB;simp only[ah];rw[hA];go_frame;go_wp2_with fail;exact hK.out _ _ _ (by rw[hA];simp only[ah];kernel_rfl) (Below.refl _ _) rfl
  ·intro K L us W ak hL hd hR;have hK:=ae (fun v A' W' h1 h2 h3=>ak v A' W' h1 (hR.pure (k:=16) (by decide) h2 h3));clear ak
   (try simp[Region.binds] at hd)
   have hB:=hR.grow;have GB:=ae hB;have e15:us 15=.pointer (some ⟨w.heap.size+1,3,none⟩):=hR.vals 15 (by decide) (by first|exact hd|exact hd.1|exact hd.2.1|simp_all);have G0:=ae (aj hB BK.out);have c0:W.cell? ⟨w.heap.size+1,3,none⟩=some (.int .i64 bz):=(af (j:=3) G0.out).trans rfl;clear hd hR hB;simp only[ah];rw[hA,e15];go_frame;go_wp2_with fail;exact hK.out _ _ _ (by rw[hA];simp only[ah];rw[e15];kernel_rfl) (Below.refl _ _) rfl
  ·intro K L us W ak hL hd hR;have hK:=ae (fun v A' W' h1 h2 h3=>ak v A' W' h1 (hR.pure (k:=17) (by decide) h2 h3));clear ak
   (try simp[Region.binds] at hd)
   have hB:=hR.grow;have GB:=ae hB;have e10:us 10=.int .i64 bL:=hR.vals 10 (by decide) (by first|exact hd|exact hd.1|exact hd.2.1|simp_all);have e12:us 12=.int .i64 bx:=hR.vals 12 (by decide) (by first|exact hd|exact hd.1|exact hd.2.1|simp_all);have e14:us 14=.int .i64 b_y:=hR.vals 14 (by decide) (by first|exact hd|exact hd.1|exact hd.2.1|simp_all);have e16:us 16=.int .i64 bz:=hR.vals 16 (by decide) (by first|exact hd|exact hd.1|exact hd.2.1|simp_all);clear hd hR hB;simp only[ah];rw[hA,e10,e12,e14,e16];go_frame;go_wp2_with fail;exact hK.out _ _ _ (by rw[hA];simp only[ah];rw[e10,e12,e14,e16];kernel_rfl) (Below.refl _ _) rfl
  ·intro K L us W ak hL hd hR;have hK:=ae ak;clear ak;have EK:=ae (hR.alloc (i:=0) (by decide) hL);clear hd hR;simp only[ah];rw[hA];go_frame;go_wp2_with fail;exact hK.out (.pointer (some ⟨W.heap.size,0,none⟩)) _ _ (by rw[hA];kernel_rfl) EK.out
  ·intro K L us W ak hL hd hR;have hK:=ae ak;clear ak;have EK:=ae (hR.alloc (i:=1) (by decide) hL);clear hd hR;simp only[ah];rw[hA];go_frame;go_wp2_with fail;exact hK.out (.pointer (some ⟨W.heap.size,0,none⟩)) _ _ (by rw[hA];kernel_rfl) EK.out
  ·intro K L us W ak hL hd hR;have hK:=ae ak;clear ak
   (try simp[Region.binds] at hd)
   have hla:L 18=true:=by first|exact hd.1|exact hd|exact hd.2.1|simp_all
   have hls:L 8=true:=by first|exact hd.2.1|exact hd.2|exact hd.1|simp_all
   obtain⟨gbx,e0,hg,hh⟩:=hR.box 0 (by decide) hla;have hL2:L (18+2+0)=false:=hL;rw[hL2,if_neg (by decide)] at hh;have e1:us 8=.agg #[.int .i64 aL,.int .i64 ax,.int .i64 ay,.int .i64 az]:=hR.vals 8 (by decide) hls;have EK:=ae (hR.store (i:=0) (v:=undef) (by decide) hla e0 hg hh);have It:W.heap[gbx]? =some (.cells #[.int .i64 0,.int .i64 0,.int .i64 0,.int .i64 0] 197):=hh;have e2:us 18=.pointer (some ⟨gbx,0,none⟩):=e0;have HH:=ae It;clear hd hR hh e0 hL2;simp only[ah];rw[hA,e2,e1];go_frame;go_wp2_with (refine aC rfl 197 (.tmp 5) (.tmp 16) rfl rfl rfl HH.out wT rfl rfl rfl ?_);exact hK.out undef _ _ (by rw[hA];simp only[ah];rw[e2,e1];kernel_rfl) EK.out
  ·intro K L us W ak hL hd hR;have hK:=ae ak;clear ak
   (try simp[Region.binds] at hd)
   have hla:L 19=true:=by first|exact hd.1|exact hd|exact hd.2.1|simp_all
   have hls:L 17=true:=by first|exact hd.2.1|exact hd.2|exact hd.1|simp_all
   obtain⟨gbx,e0,hg,hh⟩:=hR.box 1 (by decide) hla;have hL2:L (18+2+1)=false:=hL;rw[hL2,if_neg (by decide)] at hh;have e1:us 17=.agg #[.int .i64 bL,.int .i64 bx,.int .i64 b_y,.int .i64 bz]:=hR.vals 17 (by decide) hls;have EK:=ae (hR.store (i:=1) (v:=undef) (by decide) hla e0 hg hh);have It:W.heap[gbx]? =some (.cells #[.int .i64 0,.int .i64 0,.int .i64 0,.int .i64 0] 197):=hh;have e2:us 19=.pointer (some ⟨gbx,0,none⟩):=e0;have HH:=ae It;clear hd hR hh e0 hL2;simp only[ah];rw[hA,e2,e1];go_frame;go_wp2_with (refine aC rfl 197 (.tmp 6) (.tmp 25) rfl rfl rfl HH.out wT rfl rfl rfl ?_);exact hK.out undef _ _ (by rw[hA];simp only[ah];rw[e2,e1];kernel_rfl) EK.out
 intro L us W1 hL hR;obtain⟨g5,e5,hg5,NI⟩:=hR.box 0 (by decide) (hL _ (by decide));rw[if_pos (hL _ (by decide))] at NI;have Lj:=ae (show W1.heap[g5]? =some (.cells #[.int .i64 aL,.int .i64 ax,.int .i64 ay,.int .i64 az] 197) from NI);have e5:us 18=.pointer (some ⟨g5,0,none⟩):=e5;obtain⟨g6,e6,da,J6⟩:=hR.box 1 (by decide) (hL _ (by decide));rw[if_pos (hL _ (by decide))] at J6;have Di:=ae (show W1.heap[g6]? =some (.cells #[.int .i64 bL,.int .i64 bx,.int .i64 b_y,.int .i64 bz] 197) from J6);have e6:us 19=.pointer (some ⟨g6,0,none⟩):=e6;have hne5_6:g5≠g6:=fun h=>hR.ne 0 1 (by decide) (by decide) (by decide) (hL _ (by decide)) (hL _ (by decide)) (by rw[show us (18+0)=_ from e5,show us (18+1)=_ from e6,h])
 have HB1:=ae (HB0.out.trans (hR.grow.mono HB0.out.size));have Rp:=ae (fun n x=>@aj _ _ n x hR.grow);have PT:=hR.grow.size;simp only[ah];rw[hA,e5,e6];clear hA hR hL NI e5 J6 e6;go_frame;go_wp2_with fail;refine wp_loop_rounds 5 ?_;rw[rounds_succ];by_cases hne:aL≠bL
 ·have d1:(aL == bL)=false:=by simpa using hne
  have a0:=fun d os=>cell_regrown (show W1.cell? ⟨g5,0,none⟩=some (.int .i64 aL) from(af (j:=0) Lj.out).trans rfl) d os
  have b0:=fun d os=>cell_regrown (show W1.cell? ⟨g6,0,none⟩=some (.int .i64 bL) from(af (j:=0) Di.out).trans rfl) d os
  go_wp2_with fail;refine wp_region_quiet_below (by kernel_rfl) (by kernel_rfl) ?_
  repeat(first|go_big_quiet_step (fail) |quiet_step (fail))
  refine wpQuiet_nil ?_;intro _ hw';obtain⟨⟨dqV,osV⟩,hw2⟩:=hw';subst hw2;have aO:=ae (below_regrown W1 dqV osV);generalize Sort.grow (redrawn W1 dqV) osV=V at aO⊢;have gf:=aO.out.size;clear a0 b0;have AV:=ae (aj aO.out Lj.out);have BV:=ae (aj aO.out Di.out);have cr:=ae (HB1.out.trans (aO.out.mono HB1.out.size));have a0:=fun d os=>cell_regrown (show V.cell? ⟨g5,0,none⟩=some (.int .i64 aL) from(af (j:=0) AV.out).trans rfl) d os
  have b0:=fun d os=>cell_regrown (show V.cell? ⟨g6,0,none⟩=some (.int .i64 bL) from(af (j:=0) BV.out).trans rfl) d os
  go_wp2_with fail;refine wp_region_quiet_below (by kernel_rfl) (by kernel_rfl) ?_
  repeat(first|go_big_quiet_step (fail) |quiet_step (fail))
  refine wpQuiet_nil ?_;intro _ hw';obtain⟨⟨dqU,osU⟩,hw2⟩:=hw';subst hw2;have ed:=ae (below_regrown V dqU osU);generalize Sort.grow (redrawn V dqU) osU=U at ed⊢;have wC:=ed.out.size;have CK:=ae (cr.out.trans (ed.out.mono cr.out.size));clear a0 b0;go_wp2_with fail;go_ret;exact⟨by rw[show r=decide (aL<bL) from HR.out.symm.trans (decide_eq_decide.2 (HV.out.trans (by omega)))];rfl,CK.out⟩
 have M7:aL=bL:=Decidable.not_not.1 hne;clear hne;have d1:(aL == bL)=true:=by simp[M7]
 have a0:=fun d os=>cell_regrown (show W1.cell? ⟨g5,0,none⟩=some (.int .i64 aL) from(af (j:=0) Lj.out).trans rfl) d os
 have b0:=fun d os=>cell_regrown (show W1.cell? ⟨g6,0,none⟩=some (.int .i64 bL) from(af (j:=0) Di.out).trans rfl) d os
 go_wp2_with fail;refine wp_region_quiet_below (by kernel_rfl) (by kernel_rfl) ?_
 repeat(first|go_big_quiet_step (fail) |quiet_step (fail))
 refine wpQuiet_nil ?_;intro _ hw';obtain⟨⟨dqV0,osV0⟩,hw2⟩:=hw';subst hw2;have Cl:=ae (below_regrown W1 dqV0 osV0);generalize Sort.grow (redrawn W1 dqV0) osV0=V0 at Cl⊢;have Ps:=Cl.out.size;clear a0 b0 d1;have AV0:=ae (aj Cl.out Lj.out);have La:=ae (aj Cl.out Di.out);have EG:=ae (HB1.out.trans (Cl.out.mono HB1.out.size));go_wp2_with fail;rw[rounds_succ];by_cases hne:ax≠bx
 ·have d1:(ax == bx)=false:=by simpa using hne
  have a1:=fun d os=>cell_regrown (show V0.cell? ⟨g5,1,none⟩=some (.int .i64 ax) from(af (j:=1) AV0.out).trans rfl) d os
  have b1:=fun d os=>cell_regrown (show V0.cell? ⟨g6,1,none⟩=some (.int .i64 bx) from(af (j:=1) La.out).trans rfl) d os
  go_wp2_with fail;refine wp_region_quiet_below (by kernel_rfl) (by kernel_rfl) ?_
  repeat(first|go_big_quiet_step (fail) |quiet_step (fail))
  refine wpQuiet_nil ?_;intro _ hw';obtain⟨⟨dqV,osV⟩,hw2⟩:=hw';subst hw2;have aO:=ae (below_regrown V0 dqV osV);generalize Sort.grow (redrawn V0 dqV) osV=V at aO⊢;have gf:=aO.out.size;clear a1 b1;have AV:=ae (aj aO.out AV0.out);have BV:=ae (aj aO.out La.out);have cr:=ae (EG.out.trans (aO.out.mono EG.out.size));have a1:=fun d os=>cell_regrown (show V.cell? ⟨g5,1,none⟩=some (.int .i64 ax) from(af (j:=1) AV.out).trans rfl) d os
  have b1:=fun d os=>cell_regrown (show V.cell? ⟨g6,1,none⟩=some (.int .i64 bx) from(af (j:=1) BV.out).trans rfl) d os
  go_wp2_with fail;refine wp_region_quiet_below (by kernel_rfl) (by kernel_rfl) ?_
  repeat(first|go_big_quiet_step (fail) |quiet_step (fail))
  refine wpQuiet_nil ?_;intro _ hw';obtain⟨⟨dqU,osU⟩,hw2⟩:=hw';subst hw2;have ed:=ae (below_regrown V dqU osU);generalize Sort.grow (redrawn V dqU) osU=U at ed⊢;have wC:=ed.out.size;have CK:=ae (cr.out.trans (ed.out.mono cr.out.size));clear a1 b1;go_wp2_with fail;go_ret;exact⟨by rw[show r=decide (ax<bx) from HR.out.symm.trans (decide_eq_decide.2 (HV.out.trans (by omega)))];rfl,CK.out⟩
 have Mh:ax=bx:=Decidable.not_not.1 hne;clear hne;have d1:(ax == bx)=true:=by simp[Mh]
 have a1:=fun d os=>cell_regrown (show V0.cell? ⟨g5,1,none⟩=some (.int .i64 ax) from(af (j:=1) AV0.out).trans rfl) d os
 have b1:=fun d os=>cell_regrown (show V0.cell? ⟨g6,1,none⟩=some (.int .i64 bx) from(af (j:=1) La.out).trans rfl) d os
 go_wp2_with fail;refine wp_region_quiet_below (by kernel_rfl) (by kernel_rfl) ?_
 repeat(first|go_big_quiet_step (fail) |quiet_step (fail))
 refine wpQuiet_nil ?_;intro _ hw';obtain⟨⟨dqV1,osV1⟩,hw2⟩:=hw';subst hw2;have Cu:=ae (below_regrown V0 dqV1 osV1);generalize Sort.grow (redrawn V0 dqV1) osV1=V1 at Cu⊢;have QK:=Cu.out.size;clear a1 b1 d1;have AV1:=ae (aj Cu.out AV0.out);have Ll:=ae (aj Cu.out La.out);have mS:=ae (EG.out.trans (Cu.out.mono EG.out.size));go_wp2_with fail;rw[rounds_succ];by_cases hne:ay≠b_y
 ·have d1:(ay == b_y)=false:=by simpa using hne
  have a2:=fun d os=>cell_regrown (show V1.cell? ⟨g5,2,none⟩=some (.int .i64 ay) from(af (j:=2) AV1.out).trans rfl) d os
  have b2:=fun d os=>cell_regrown (show V1.cell? ⟨g6,2,none⟩=some (.int .i64 b_y) from(af (j:=2) Ll.out).trans rfl) d os
  go_wp2_with fail;refine wp_region_quiet_below (by kernel_rfl) (by kernel_rfl) ?_
  repeat(first|go_big_quiet_step (fail) |quiet_step (fail))
  refine wpQuiet_nil ?_;intro _ hw';obtain⟨⟨dqV,osV⟩,hw2⟩:=hw';subst hw2;have aO:=ae (below_regrown V1 dqV osV);generalize Sort.grow (redrawn V1 dqV) osV=V at aO⊢;have gf:=aO.out.size;clear a2 b2;have AV:=ae (aj aO.out AV1.out);have BV:=ae (aj aO.out Ll.out);have cr:=ae (mS.out.trans (aO.out.mono mS.out.size));have a2:=fun d os=>cell_regrown (show V.cell? ⟨g5,2,none⟩=some (.int .i64 ay) from(af (j:=2) AV.out).trans rfl) d os
  have b2:=fun d os=>cell_regrown (show V.cell? ⟨g6,2,none⟩=some (.int .i64 b_y) from(af (j:=2) BV.out).trans rfl) d os
  go_wp2_with fail;refine wp_region_quiet_below (by kernel_rfl) (by kernel_rfl) ?_
  repeat(first|go_big_quiet_step (fail) |quiet_step (fail))
  refine wpQuiet_nil ?_;intro _ hw';obtain⟨⟨dqU,osU⟩,hw2⟩:=hw';subst hw2;have ed:=ae (below_regrown V dqU osU);generalize Sort.grow (redrawn V dqU) osU=U at ed⊢;have wC:=ed.out.size;have CK:=ae (cr.out.trans (ed.out.mono cr.out.size));clear a2 b2;go_wp2_with fail;go_ret;exact⟨by rw[show r=decide (ay<b_y) from HR.out.symm.trans (decide_eq_decide.2 (HV.out.trans (by omega)))];rfl,CK.out⟩
 have zi:ay=b_y:=Decidable.not_not.1 hne;clear hne;have d1:(ay == b_y)=true:=by simp[zi]
 have a2:=fun d os=>cell_regrown (show V1.cell? ⟨g5,2,none⟩=some (.int .i64 ay) from(af (j:=2) AV1.out).trans rfl) d os
 have b2:=fun d os=>cell_regrown (show V1.cell? ⟨g6,2,none⟩=some (.int .i64 b_y) from(af (j:=2) Ll.out).trans rfl) d os
 go_wp2_with fail;refine wp_region_quiet_below (by kernel_rfl) (by kernel_rfl) ?_
 repeat(first|go_big_quiet_step (fail) |quiet_step (fail))
 refine wpQuiet_nil ?_;intro _ hw';obtain⟨⟨dqV2,osV2⟩,hw2⟩:=hw';subst hw2;have Cm:=ae (below_regrown V1 dqV2 osV2);generalize Sort.grow (redrawn V1 dqV2) osV2=V2 at Cm⊢;have Pz:=Cm.out.size;clear a2 b2 d1;have AV2:=ae (aj Cm.out AV1.out);have Lc:=ae (aj Cm.out Ll.out);have xR:=ae (mS.out.trans (Cm.out.mono mS.out.size));go_wp2_with fail;rw[rounds_succ];by_cases hne:az≠bz
 ·have d1:(az == bz)=false:=by simpa using hne
  have a3:=fun d os=>cell_regrown (show V2.cell? ⟨g5,3,none⟩=some (.int .i64 az) from(af (j:=3) AV2.out).trans rfl) d os
  have b3:=fun d os=>cell_regrown (show V2.cell? ⟨g6,3,none⟩=some (.int .i64 bz) from(af (j:=3) Lc.out).trans rfl) d os
  go_wp2_with fail;refine wp_region_quiet_below (by kernel_rfl) (by kernel_rfl) ?_
  repeat(first|go_big_quiet_step (fail) |quiet_step (fail))
  refine wpQuiet_nil ?_;intro _ hw';obtain⟨⟨dqV,osV⟩,hw2⟩:=hw';subst hw2;have aO:=ae (below_regrown V2 dqV osV);generalize Sort.grow (redrawn V2 dqV) osV=V at aO⊢;have gf:=aO.out.size;clear a3 b3;have AV:=ae (aj aO.out AV2.out);have BV:=ae (aj aO.out Lc.out);have cr:=ae (xR.out.trans (aO.out.mono xR.out.size));have a3:=fun d os=>cell_regrown (show V.cell? ⟨g5,3,none⟩=some (.int .i64 az) from(af (j:=3) AV.out).trans rfl) d os
  have b3:=fun d os=>cell_regrown (show V.cell? ⟨g6,3,none⟩=some (.int .i64 bz) from(af (j:=3) BV.out).trans rfl) d os
  go_wp2_with fail;refine wp_region_quiet_below (by kernel_rfl) (by kernel_rfl) ?_
  repeat(first|go_big_quiet_step (fail) |quiet_step (fail))
  refine wpQuiet_nil ?_;intro _ hw';obtain⟨⟨dqU,osU⟩,hw2⟩:=hw';subst hw2;have ed:=ae (below_regrown V dqU osU);generalize Sort.grow (redrawn V dqU) osU=U at ed⊢;have wC:=ed.out.size;have CK:=ae (cr.out.trans (ed.out.mono cr.out.size));clear a3 b3;go_wp2_with fail;go_ret;exact⟨by rw[show r=decide (az<bz) from HR.out.symm.trans (decide_eq_decide.2 (HV.out.trans (by omega)))];rfl,CK.out⟩
 have LO:az=bz:=Decidable.not_not.1 hne;clear hne;have d1:(az == bz)=true:=by simp[LO]
 have a3:=fun d os=>cell_regrown (show V2.cell? ⟨g5,3,none⟩=some (.int .i64 az) from(af (j:=3) AV2.out).trans rfl) d os
 have b3:=fun d os=>cell_regrown (show V2.cell? ⟨g6,3,none⟩=some (.int .i64 bz) from(af (j:=3) Lc.out).trans rfl) d os
 go_wp2_with fail;refine wp_region_quiet_below (by kernel_rfl) (by kernel_rfl) ?_
 repeat(first|go_big_quiet_step (fail) |quiet_step (fail))
 refine wpQuiet_nil ?_;intro _ hw';obtain⟨⟨dqV3,osV3⟩,hw2⟩:=hw';subst hw2;have Aj:=ae (below_regrown V2 dqV3 osV3);generalize Sort.grow (redrawn V2 dqV3) osV3=V3 at Aj⊢;have Ri:=Aj.out.size;clear a3 b3 d1;have AV3:=ae (aj Aj.out AV2.out);have RQ:=ae (aj Aj.out Lc.out);have My:=ae (xR.out.trans (Aj.out.mono xR.out.size));go_wp2_with fail;rw[rounds_succ];go_wp2_with fail;go_ret;exact⟨by rw[show r=false from HR.out.symm.trans (decide_eq_false (fun h=>by have:=HV.out.1 h;omega))];rfl,My.out⟩
open Go.RowKit Go.Sort
def QL (L:List Pt) (c i:Nat):Pt->Ky->Prop:=fun p k=>p∈L.take i/\fZ L c p k
theorem wQ {L:List Pt} {c i:Nat} {p:Pt} {k:Ky} (hi:L[i]? =some p) (hat:fZ L c p k) (q:Pt) (x:Ky):(QL L c i q x∨(x=k/\q=p))↔QL L c (i+1) q x:=by
 unfold QL;rw[eA hi,List.mem_append,List.mem_singleton];constructor
 ·rintro (⟨h1,h2⟩ | ⟨rfl,rfl⟩)
  ·exact⟨Or.inl h1,h2⟩
  ·exact⟨Or.inr rfl,hat⟩
 ·rintro⟨h1|rfl,h2⟩
  ·exact Or.inl ⟨h1,h2⟩
  ·exact Or.inr ⟨rp h2 hat,rfl⟩
theorem Cw {L:List Pt} {c i a:Nat} {p:Pt} {k:Ky} {E:List Te} {e:Te} {v:Value} (hT:cC (QL L c i) (E.map Te.tl)) (hi:L[i]? =some p) (hat:fZ L c p k) (hasc:L.Pairwise (fun p q=>p.id<q.id)) (ha:E[a]? =some e) (hk:e.key=k):
 cC (QL L c (i+1)) ((E.set a ⟨e.key,v,e.pts++[p]⟩).map Te.tl):=by
 have h1:(E.map Te.tl)[a]? =some e.tl:=by rw[List.getElem?_map,ha];rfl
 have h2:=hT.more (p:=p) h1 (fun q hq=>by
  have h3:=((hT.mem e.tl (List.mem_of_getElem? h1) q).1 hq).1;obtain⟨j,hj,rfl⟩:=List.mem_take_iff_getElem.1 h3;have hil:i<L.length:=(List.getElem?_eq_some_iff.1 hi).1;have h4:=List.pairwise_iff_getElem.1 hasc j i (by omega) hil (by omega);rw[List.getElem?_eq_getElem hil] at hi;injection hi with hi
  rw[hi] at h4
  exact h4)
 rw[List.map_set]
 exact h2.congr (fun q x=>by
  have:e.tl.key=k:=hk;rw[this]
  exact wQ hi hat q x)
theorem EN {L:List Pt} {c i:Nat} {p:Pt} {k:Ky} {E:List Te} {v:Value} (hT:cC (QL L c i) (E.map Te.tl)) (hi:L[i]? =some p) (hat:fZ L c p k) (hno:∀e∈E,e.key≠k):cC (QL L c (i+1)) ((E++[(⟨k,v,[p]⟩:Te)]).map Te.tl):=by
 rw[List.map_append]
 have h2:=hT.add (k:=k) (pts:=[p]) (fun q hq=>by
  obtain⟨t,ht,he⟩:=hT.all q k hq;obtain⟨e,he2,rfl⟩:=List.mem_map.1 ht
  exact hno e he2 he) (by simp) (List.pairwise_singleton _ _)
 exact h2.congr (fun q x=>by
  rw[List.mem_singleton]
  exact wQ hi hat q x)
def iB (k:Ky) (p:Pt) (E E':List Te) (q:Nat) (f:Bool):Prop:=
 (f=false/\E'=E/\∀a e,a<q->E[a]? =some e->e.key≠k)∨(f=true/\∃(a:Nat) (e:Te) (v:Value),a<q/\E[a]? =some e/\e.key=k/\E'=E.set a ⟨e.key,v,e.pts++[p]⟩)
theorem sG (k:Ky) (p:Pt) (E:List Te):iB k p E E 0 false:=by
 refine Or.inl ⟨rfl,rfl,?_⟩;intro a e h;omega
theorem nY {k:Ky} {p:Pt} {E E':List Te} {q:Nat} {f:Bool} (h:iB k p E E' q f):E'[q]? =E[q]? /\E'.length=E.length:=by
 rcases h with⟨_,rfl,_⟩ | ⟨_,a,e,v,ha,_,_,rfl⟩
 ·exact⟨rfl,rfl⟩
 ·exact⟨List.getElem?_set_ne (by omega),by simp⟩
theorem uQ {k:Ky} {p:Pt} {E E':List Te} {q:Nat} {f:Bool} {e:Te} (h:iB k p E E' q f) (he:E[q]? =some e) (hk:e.key≠k):iB k p E E' (q+1) f:=by
 rcases h with⟨h1,h2,h3⟩ | ⟨h1,a,e',v,ha,h2⟩
 ·refine Or.inl ⟨h1,h2,fun a e' ha he'=>?_⟩;by_cases haq:a=q
  ·subst haq;rw[he] at he';injection he' with he'
   subst he';exact hk
  ·exact h3 a e' (by omega) he'
 ·exact Or.inr ⟨h1,a,e',v,by omega,h2⟩
theorem xF {k:Ky} {p:Pt} {E E':List Te} {q:Nat} {f:Bool} {e:Te} (h:iB k p E E' q f) (hd:(E.map Te.tl).Pairwise (fun t u=>t.key≠u.key)) (he:E[q]? =some e) (hk:e.key=k):
 f=false/\E'=E/\∀v,iB k p E (E.set q ⟨e.key,v,e.pts++[p]⟩) (q+1) true:=by
 rcases h with⟨h1,h2,h3⟩ | ⟨h1,a,e',v,ha,he',hk',_⟩
 ·exact⟨h1,h2,fun v=>Or.inr ⟨rfl,q,e,v,by omega,he,hk,rfl⟩⟩
 ·exfalso;rw[List.pairwise_map] at hd;have hq:q<E.length:=(List.getElem?_eq_some_iff.1 he).1;have h4:=List.pairwise_iff_getElem.1 hd a q (by omega) hq ha;rw[List.getElem?_eq_getElem hq] at he;rw[List.getElem?_eq_getElem (by omega)] at he';injection he with he
  injection he' with he'
  rw[he,he'] at h4;exact h4 (hk'.trans hk.symm)
open Go.RowKit Go.Sort
theorem GS:(Tryz.prog.info? 35).map (·.size)=some 1:=by kernel_rfl
theorem yH {W:World} {base t sz n c:Nat} {a:Option Addr} {l:List (List Value)} (h:al W base t sz (.slice a n c) l):(l=[]/\(a=none->c=0))∨∃b off,a=some ⟨b,off,none⟩/\aB W b off sz l:=by
 by_cases hl:l=[]
 ·refine Or.inl ⟨hl,fun e=>?_⟩
  rcases h.2.2 with⟨h1,_⟩ | ⟨g,cap,cur,h1,_⟩
  ·injection h1
  ·injection h1 with h1
   rw[e] at h1
   cases h1
 ·obtain⟨g,cap,cur,h1,_,_,h2,_⟩:=al.rows h (List.length_pos_iff.2 hl);injection h1 with h1
  exact Or.inr ⟨g,0,h1,h2⟩
def k7 (B:Nat) (C:Array Value) (W:World) (v:Value):Prop:=∃g,v=.slice (some ⟨g,0,none⟩) 1 1/\B<=g/\W.heap[g]? =some (.cells C 106)
theorem k7.stb (B:Nat) (C:Array Value):yA (k7 B C):=fun _ _ _ hB ⟨g,h1,h2,h3⟩=>⟨g,h1,h2,aj hB h3⟩
def oD (B:Nat) (C:Array Value) (k:Ky) (W:World) (v:Value):Prop:=∃g,v=.agg #[.int .i64 k.L,.int .i64 k.x,.int .i64 k.y,.int .i64 k.z,.slice (some ⟨g,0,none⟩) 1 1]/\B<=g/\W.heap[g]? =some (.cells C 106)
theorem oD.stb (B:Nat) (C:Array Value) (k:Ky):yA (oD B C k):=fun _ _ _ hB ⟨g,h1,h2,h3⟩=>⟨g,h1,h2,aj hB h3⟩
def nE (B:Nat) (C:Array Value) (k:Ky) (W:World) (v:Value):Prop:=∃g,v=.slice (some ⟨g,0,none⟩) 1 1/\B<=g/\∃g',B<=g'/\W.heap[g]? =some (.cells #[.int .i64 k.L,.int .i64 k.x,.int .i64 k.y,.int .i64 k.z,.slice (some ⟨g',0,none⟩) 1 1] 101)/\W.heap[g']? =some (.cells C 106)
theorem nE.stb (B:Nat) (C:Array Value) (k:Ky):yA (nE B C k):=fun _ _ _ hB ⟨g,h1,h2,g',h3,h4,h5⟩=>⟨g,h1,h2,g',h3,aj hB h4,aj hB h5⟩
theorem EC {W:World} {base g:Nat} {p:Pt} (h:W.heap[g]? =some (.cells p.row.toArray 106)) (hB:base<=g):aq W base (.slice (some ⟨g,0,none⟩) 1 1) [p]:=
 ⟨bF.one rfl (Pt.row_one p),rfl,Or.inr ⟨g,1,p.row.toArray,rfl,hB,h,Nat.le_refl _,by unfold maxLen;omega,rfl,by simp[Pt.row]⟩⟩
theorem yS {W W':World} {base gp:Nat} {v v':Value} {E:List Te} {k:Ky} {p:Pt} (h:bw W base v E) (hp:W.heap[gp]? =some (.cells p.row.toArray 106)) (hB:base<=gp) (hown:al W' base 101 5 v' (E.map Te.row++[Te.row ⟨k,.slice (some ⟨gp,0,none⟩) 1 1,[p]⟩])) (hg:W.grownBy W' v.ownBlock):
 bw W' base v' (E++[(⟨k,.slice (some ⟨gp,0,none⟩) 1 1,[p]⟩:Te)]):=by
 refine⟨by rw[List.map_append];exact hown,fun e he=>?_⟩
 rcases List.mem_append.1 he with q|q
 ·exact al.turned (h.2 e q) (aN hg) (fun b hb e2=>fG (h.2 e q) h.1 (by decide) hb e2.symm)
 ·obtain rfl:=List.mem_singleton.1 q;refine EC ((hg.block gp (Array.getElem?_eq_some_iff.1 hp).1 (fun e2=>?_)).trans hp) hB;obtain⟨cur,hc⟩:=al.typed h.1 e2.symm;rw[hp] at hc;injection hc with hc
  injection hc with _ hc
  exact absurd hc (by decide)
def Kf (W2:World) (L:List Pt) (c n:Nat) (ov iv:Value) (W:World):Prop:=
 ∃(i:Nat) (E:List Te),i<=n/\iv=.int .i64 (i:Int)/\bw W W2.heap.size ov E/\cC (QL L c i) (E.map Te.tl)/\(∀e∈E,e.ok/\e.pts.length<=i)/\E.length<=i/\Below W2.heap.size W2 W
def Qc (W2:World) (gk:Nat) (k:Ky) (p:Pt) (E:List Te) (m:Nat) (ov fv qv:Value) (W:World):Prop:=
 ∃(q:Nat) (f:Bool) (E':List Te),q<=m/\qv=.int .i64 (q:Int)/\fv=.bool f/\bw W W2.heap.size ov E'/\W.heap[gk]? =some (.cells #[.int .i64 k.L,.int .i64 k.x,.int .i64 k.y,.int .i64 k.z] 99)/\iB k p E E' q f/\Below W2.heap.size W2 W
theorem wH:(Tryz.prog.info? 101).map (·.size)=some 5:=by kernel_rfl
def Iw (a b:Te):Prop:=a.key.lt b.key
def LW (W2:World) (E:List Te) (m:Nat) (ov iv:Value) (W:World):Prop:=
 ∃(i:Nat) (F:List Te),i<=m/\iv=.int .i64 (i:Int)/\F.Perm E/\fM Iw F i/\bw W W2.heap.size ov F/\Below W2.heap.size W2 W
def Ni (W2:World) (E:List Te) (i:Nat) (ov kv:Value) (W:World):Prop:=
 ∃(k:Nat) (F:List Te),k<=i/\kv=.int .i64 (k:Int)/\F.Perm E/\jL Iw F i k/\bw W W2.heap.size ov F/\Below W2.heap.size W2 W
theorem uJ {W:World} {base g n cap x y:Nat} {C:Array Value} {F:List Te} {p q:Te} (h:bw W base (.slice (some ⟨g,0,none⟩) n cap) F) (hC:W.heap[g]? =some (.cells C 101)) (hp:p.ok) (hq:q.ok) (hx:F[x]? =some p) (hy:F[y]? =some q):
 bw ((W.setRow g (fA C (x*5) q.row)).setRow g (fA (fA C (x*5) q.row) (y*5) p.row)) base (.slice (some ⟨g,0,none⟩) n cap) ((F.set x q).set y p):=by
 refine⟨lG (enc:=Te.row) h.1 hC rfl rfl (Te.row_one p hp) (Te.row_one q hq) hx hy,fun e he=>?_⟩;have hm:e∈F:=by
  rcases List.mem_or_eq_of_mem_set he with q1|q1
  ·rcases List.mem_or_eq_of_mem_set q1 with q2|q2
   ·exact q2
   ·rw[q2];exact List.mem_of_getElem? hy
  ·rw[q1];exact List.mem_of_getElem? hx
 have hne:∀b,e.v.ownBlock=some b->¬b=g:=fun b hb e2=>by
  subst e2;obtain⟨c1,q1⟩:=al.typed (h.2 e hm) hb;rw[hC] at q1;injection q1 with q1
  injection q1 with _ q1
  exact absurd q1 (by decide)
 exact al.turned (al.turned (h.2 e hm) (f9 _ _ _) hne) (f9 _ _ _) hne
theorem BA (pv:Value) (S:List Pt) (c:Nat) (w:World) (hp:cj w pv S) (hp0:ip pv) (hS:kZ S) (hf:∀p∈S,p.fine) (hn:S.length<=4096):
 Calls Tryz.prog 71 #[pv,.int .i64 c] w fun r w'=>(∃v E,r=.returned v/\cQ w' v E/\bE S c (E.map Te.tl))/\Below w.heap.size w w':=by
 have HP:=ae hp;have Fv:=ae hp0;have HS:=ae hS;have HF:=ae hf;obtain⟨pa,pc,rfl,hpd⟩:=hp;obtain⟨n,hnl⟩:∃n,n=S.length:=⟨_,rfl⟩;rw[<-hnl] at hn HP Fv⊢;have HN:=ae hnl;clear hnl hpd hf hp0 hS;obtain⟨i0,hi,hz0,hz1,hz2⟩:=aF ix;have HI:=ae hi;have HZ0:=ae hz0;have HZ1:=ae hz1;have HZ2:=ae hz2;clear hi hz0 hz1 hz2;obtain⟨i1,hi,hz0,hz1,hz2⟩:=aF uD;have JI:=ae hi;have JZ0:=ae hz0;have JZ1:=ae hz1;have JZ2:=ae hz2;clear hi hz0 hz1 hz2;go_enter Tryz.func71,Tryz.ntmps71;go_wp2_with fail;refine(mq _ S w HP.out Fv.out (by rw[<-HN.out];omega)).mono ?_;rintro r w1 ⟨⟨v1,rfl,L,hol,hperm,hasc⟩,hb1⟩;have HB1:=ae hb1;have AF:=ae hol;have rJ:=ae hperm;have iQ:=ae (show L.length=n from hperm.length_eq.trans HN.out.symm);have HAS:=ae (show L.Pairwise (fun p q=>p.id<q.id) from wI hperm HS.out.1 hasc);have FU:=ae (show ∀p∈L,p.fine from fun p hp=>HF.out p (hperm.mem_iff.1 hp));obtain⟨la,lc,hlv⟩:=hol.slice;rw[iQ.out] at hlv;subst hlv;clear hb1 hol hperm hasc;go_wp2_with fail;refine(uY _ L c w1 AF.out.ptsV FU.out (by rw[iQ.out];exact hn)).mono ?_;rintro r w2 ⟨⟨v2,rfl,hlv⟩,hb2⟩;have HB2:=ae (HB1.out.trans (hb2.mono HB1.out.size));have Gj:=ae (al.grow' AF.out hb2);have Ka:=ae hlv;obtain⟨xa,xc,hxv⟩:=al.slice hlv;rw[List.length_map,List.length_map,iQ.out] at hxv;subst hxv;clear hb2 hlv;go_wp2_with fail;refine au (fun W2 hW2=>?_);subst hW2
 go_loopw [7,22] (fun ov iv W=>Kf W2 L c n ov iv W) (fun _ iv _=>n-(intOf iv).toNat)
 case atStart=>exact⟨0,[],by omega,rfl,⟨al.nil _ _ _ _,fun e he=>by simp at he⟩,cC.nil (fun p k h=>by simp[QL] at h),fun e he=>by simp at he,by simp,Below.refl _ _⟩
 case round=>
  obtain⟨i,E,hi,rfl,hte,htl,hks,hel,hB⟩:=hrel;obtain⟨oa,oc,hov⟩:=hte.slice;obtain⟨m,hm⟩:∃m,m=E.length:=⟨_,rfl⟩;rw[<-hm] at hov hel;subst hov;have wl:=ae hte;have GY:=ae htl;have yt:=ae hks;have fq:=ae hB;have HM:=ae hm;have hzw:=hB.size;clear hte htl hks hB hm;by_cases hlt:i<n
  ·have d1:decide ((i:Int)<(n:Int))=true:=decide_eq_true (by omega);obtain⟨p,hp⟩:∃p,L[i]? =some p:=⟨_,List.getElem?_eq_getElem (by rw[iQ.out];exact hlt)⟩;have pu:=ae hp;obtain⟨g,gc,hsl,hgb,hgs,hcells⟩:=aq.cells Gj.out (by rw[iQ.out];omega);obtain⟨rfl,rfl⟩:la=some ⟨g,0,none⟩/\lc=gc:=by
    injection hsl with e1 e2 e3
    exact⟨e1,e3⟩
   have YP:=ae (fun j hj=>hcells i p hp j hj);obtain⟨lev,hlev,hl12,hat⟩:=Dw L c p;obtain⟨gl,xc',lcur,hxs,Rn,hxc,hxr,_⟩:=al.rows Ka.out (by rw[List.length_map,List.length_map,iQ.out];omega);obtain⟨rfl,rfl⟩:xa=some ⟨gl,0,none⟩/\xc=xc':=by
    injection hxs with e1 e2 e3
    exact⟨e1,e3⟩
   have hgl:gl<W2.heap.size:=(Array.getElem?_eq_some_iff.1 hxc).1
   have YL:=ae (show W2.cell? ⟨gl,i,none⟩=some (.int .i64 (lev:Int)) by
    have:=hxr i (bB (fX L c 13 p)) (by rw[List.getElem?_map,List.getElem?_map,hp];rfl) 0 (by decide);rw[Nat.mul_one,Nat.zero_add,Nat.add_zero,hlev] at this
    exact this)
   have HAT:=ae hat;have hpf:=FU.out p (List.mem_of_getElem? hp);obtain⟨k,hk⟩:∃k,k=aK lev p:=⟨_,rfl⟩;have mX:=ae (show k.small by rw[hk];exact dL hpf hl12);rw[<-hk] at HAT;have FJ:=ae (show fx lev p.x p.y p.zl= #[.int .i64 k.L,.int .i64 k.x,.int .i64 k.y,.int .i64 k.z] by rw[hk];rfl);have rR:=ae (fun W=>jr p.id p.x p.y p.zl p.zh p.wd p.nm p.of p.cl lev hl12 hpf.2.1 hpf.2.2.1 hpf.2.2.2 W);clear hcells hp hsl hlev hat hxs Rn hxc hxr hpf hk;obtain⟨p0,p1,p2,p3,p4,p5,p6,p7,p8⟩:=p;have Eg:=ae (fun j hj=>(fq.out.cell hgs).trans (YP.out j hj));have RF:=ae ((fq.out.cell hgl).trans YL.out);have DM:=ae (Nat.lt_of_lt_of_le hgs hzw);have Ch:=ae (Nat.lt_of_lt_of_le hgl hzw);go_wp2_with fail;refine bf (fun A0 hA=>?_);refine fN (by kernel_rfl) (by kernel_rfl) [some 25,some 26,some 27,some 28,some 29,some 30,some 31,some 32,some 33,some 9,none] rfl (by decide) 10 rfl (by kernel_rfl) (by kernel_rfl)
    [aw (.slice (some ⟨g,0,none⟩) n lc),aw (.int .i64 (i:Int)),aw (.pointer (some ⟨g,i*9,none⟩)),aw (.agg #[.int .i64 p0,.int .i64 p1,.int .i64 p2,.int .i64 p3,.int .i64 p4,.int .i64 p5,.int .i64 p6,.int .i64 p7,.int .i64 p8]),aw (.slice (some ⟨gl,0,none⟩) n xc),aw (.int .i64 (i:Int)),aw (.pointer (some ⟨gl,i,none⟩)),aw (.int .i64 (lev:Int)),aw (.agg (fx lev p1 p2 p3)),nB wr.heap.size]
    ⟨aw.stb _,aw.stb _,aw.stb _,aw.stb _,aw.stb _,aw.stb _,aw.stb _,aw.stb _,aw.stb _,nB.stb _,trivial⟩ ?hs1_7_W5 ?hlast_7_W5
   case hs1_7_W5=>
    refine⟨?_,?_,?_,?_,?_,?_,?_,?_,?_,?_,trivial⟩
    iterate 2 (·intro K us W ak hB hd;have hK:=ae ak;clear ak;have aA:=ae hB;have fg:=hB.size;have GB:=ae (fq.out.trans (hB.mono fq.out.size));clear hd;simp only[ah];rw[hA];go_frame;go_wp2_with fail;exact hK.out _ _ _ (by rw[hA];simp only[ah];kernel_rfl) (Below.refl _ _) rfl)
    ·intro K us W ak hB hd;have hK:=ae ak;clear ak;have aA:=ae hB;have fg:=hB.size;have GB:=ae (fq.out.trans (hB.mono fq.out.size));have e0:us 0=_:=hd ⟨0,Ground.data⟩ (by simp) rfl;have e1:us 1=_:=hd ⟨1,Ground.data⟩ (by simp) rfl;clear hd;simp only[ah];rw[hA,e0,e1];go_frame;go_wp2_with fail;exact hK.out _ _ _ (by rw[hA];simp only[ah];rw[e0,e1];kernel_rfl) (Below.refl _ _) rfl
    ·intro K us W ak hB hd;have hK:=ae ak;clear ak;have aA:=ae hB;have fg:=hB.size;have GB:=ae (fq.out.trans (hB.mono fq.out.size));have e2:us 2=_:=hd ⟨2,Ground.data⟩ (by simp) rfl;clear hd;have c0:W.cell? ⟨g,i*9,none⟩=some (.int .i64 p0):=by rw[hB.cell DM.out];exact Eg.out 0 (by decide)
     have c1:W.cell? ⟨g,i*9+1,none⟩=some (.int .i64 p1):=by rw[hB.cell DM.out];exact Eg.out 1 (by decide)
     have c2:W.cell? ⟨g,i*9+2,none⟩=some (.int .i64 p2):=by rw[hB.cell DM.out];exact Eg.out 2 (by decide)
     have c3:W.cell? ⟨g,i*9+3,none⟩=some (.int .i64 p3):=by rw[hB.cell DM.out];exact Eg.out 3 (by decide)
     have c4:W.cell? ⟨g,i*9+4,none⟩=some (.int .i64 p4):=by rw[hB.cell DM.out];exact Eg.out 4 (by decide)
     have c5:W.cell? ⟨g,i*9+5,none⟩=some (.int .i64 p5):=by rw[hB.cell DM.out];exact Eg.out 5 (by decide)
     have c6:W.cell? ⟨g,i*9+6,none⟩=some (.int .i64 p6):=by rw[hB.cell DM.out];exact Eg.out 6 (by decide)
     have c7:W.cell? ⟨g,i*9+7,none⟩=some (.int .i64 p7):=by rw[hB.cell DM.out];exact Eg.out 7 (by decide)
     have c8:W.cell? ⟨g,i*9+8,none⟩=some (.int .i64 p8):=by rw[hB.cell DM.out];exact Eg.out 8 (by decide)
     simp only[ah];rw[hA,e2];go_frame;go_wp2_with fail;exact hK.out _ _ _ (by rw[hA];simp only[ah];rw[e2];kernel_rfl) (Below.refl _ _) rfl
    iterate 2 (·intro K us W ak hB hd;have hK:=ae ak;clear ak;have aA:=ae hB;have fg:=hB.size;have GB:=ae (fq.out.trans (hB.mono fq.out.size));clear hd;simp only[ah];rw[hA];go_frame;go_wp2_with fail;exact hK.out _ _ _ (by rw[hA];simp only[ah];kernel_rfl) (Below.refl _ _) rfl)
    ·intro K us W ak hB hd;have hK:=ae ak;clear ak;have aA:=ae hB;have fg:=hB.size;have GB:=ae (fq.out.trans (hB.mono fq.out.size));have e4:us 4=_:=hd ⟨4,Ground.data⟩ (by simp) rfl;have e5:us 5=_:=hd ⟨5,Ground.data⟩ (by simp) rfl;clear hd;simp only[ah];rw[hA,e4,e5];go_frame;go_wp2_with fail;exact hK.out _ _ _ (by rw[hA];simp only[ah];rw[e4,e5];kernel_rfl) (Below.refl _ _) rfl
    ·intro K us W ak hB hd;have hK:=ae ak;clear ak;have aA:=ae hB;have fg:=hB.size;have GB:=ae (fq.out.trans (hB.mono fq.out.size));have e6:us 6=_:=hd ⟨6,Ground.data⟩ (by simp) rfl;clear hd;have c0:W.cell? ⟨gl,i,none⟩=some (.int .i64 (lev:Int)):=by rw[hB.cell Ch.out];exact RF.out
     simp only[ah];rw[hA,e6];go_frame;go_wp2_with fail;exact hK.out _ _ _ (by rw[hA];simp only[ah];rw[e6];kernel_rfl) (Below.refl _ _) rfl
    ·intro K us W ak hB hd;have hK:=ae ak;clear ak;have aA:=ae hB;have fg:=hB.size;have GB:=ae (fq.out.trans (hB.mono fq.out.size));have e3:us 3=_:=hd ⟨3,Ground.data⟩ (by simp) rfl;have e7:us 7=_:=hd ⟨7,Ground.data⟩ (by simp) rfl;clear hd;simp only[ah];rw[hA,e3,e7];go_frame;go_wp2_with fail;refine(rR.out W).mono ?_;rintro r W' ⟨rfl,hb⟩;go_wp2_with fail;exact hK.out _ _ _ (by rw[hA];simp only[ah];rw[e3,e7];kernel_rfl) hb rfl
    ·intro K us W ak hB hd;have hK:=ae ak;clear ak;have aA:=ae hB;have fg:=hB.size;have GB:=ae (fq.out.trans (hB.mono fq.out.size));clear hd;simp only[ah];rw[hA];go_frame;go_wp2_with fail;exact hK.out _ _ _ (by rw[hA];simp only[ah];kernel_rfl) ((Below.refl _ _).alloc (Nat.le_refl _) _) (⟨_,rfl,fg,ai _ _ _ rfl⟩)
   intro K us W5 ak hB hp;have hK:=ae ak;clear ak;have PS:(nB wr.heap.size) W5 (us 9):=hp 9 (by decide);obtain⟨g9,e9,kF,LY⟩:=PS;have e8:us 8=_:=hp 8 (by decide);have dQ:=ae (fq.out.trans (hB.mono fq.out.size));have MJ:=ae (fun n x=>@aj _ _ n x hB);have MU:=hB.size;have JO:=ae hB;clear hp;simp only[ah];rw[hA,e9,e8]
   skip
   go_frame;go_wp2_with (refine aC rfl 99 (.tmp 9) (.tmp 33) rfl rfl rfl LY ku rfl rfl rfl ?_);refine hK.out undef _ _ (by rw[hA];simp only[ah];rw[e9,e8];kernel_rfl) ?_;clear hK hB hA e9 e8;have FG:=ae (show(W5.setRow g9 (fx lev p1 p2 p3)).heap[g9]? =some (.cells #[.int .i64 k.L,.int .i64 k.x,.int .i64 k.y,.int .i64 k.z] 99) from(setRow_heap _ _ _ _ _ _ LY).trans (by rw[show fx lev p1 p2 p3= #[.int .i64 k.L,.int .i64 k.x,.int .i64 k.y,.int .i64 k.z] from FJ.out]));have dD:=ae (below_setRow JO.out kF (fx lev p1 p2 p3));go_wp2_with fail;generalize W5.setRow g9 (fx lev p1 p2 p3)=W6 at FG dD⊢;clear LY MJ MU JO dQ FJ rR;have Kq:=dD.out.size
   go_loopw [10,36] (fun fv qv W=>Qc W2 g9 k ⟨p0,p1,p2,p3,p4,p5,p6,p7,p8⟩ E m (.slice oa m oc) fv qv W) (fun _ qv _=>m-(intOf qv).toNat)
   case atStart=>exact⟨0,false,E,by omega,rfl,rfl,wl.out.grow dD.out,FG.out,sG _ _ _,fq.out.trans (dD.out.mono hzw)⟩
   case round=>
    obtain⟨q,f,E',hq,rfl,rfl,hte,hkb,hfo,hB⟩:=hrel;have GJ:=ae hte;have yr:=ae hkb;have Hp:=ae hfo;have uz:=ae hB;have hzq:=hB.size;clear hte hkb hfo hB;by_cases hlt2:q<m
    ·have d2:decide ((q:Int)<(m:Int))=true:=decide_eq_true (by omega);obtain⟨e,he⟩:∃e,E[q]? =some e:=⟨_,List.getElem?_eq_getElem (by rw[<-HM.out];exact hlt2)⟩;have HE:=ae he;have qj:=ae (show E'[q]? =some e from(nY Hp.out).1.trans he);obtain⟨go,oc',ocur,hos,Qp,hoc,hor,hocap,_,hocs⟩:=al.rows GJ.out.1 (by rw[List.length_map,(nY Hp.out).2,<-HM.out];omega);obtain⟨rfl,rfl⟩:oa=some ⟨go,0,none⟩/\oc=oc':=by
      injection hos with e1 e2 e3
      exact⟨e1,e3⟩
     rw[List.length_map,(nY Hp.out).2,<-HM.out] at hocap;have hcell:∀j,j<5->wr.cell? ⟨go,q*5+j,none⟩=e.row[j]? :=fun j hj=>by
      have:=hor q e.row (by rw[List.getElem?_map,qj.out];rfl) j hj;rw[Nat.zero_add] at this;exact this
     have hpe:=GJ.out.2 e (List.mem_of_getElem? qj.out);obtain⟨ea,ec,hev⟩:=hpe.slice;have yq:=ae hpe;have Dt:=ae (show e.pts.length<=i from(yt.out e (List.mem_of_getElem? he)).2);have pB:=ae hoc;have Rt:=ae (show ocur.size=oc*5 from hocs);have hkq:g9<wr.heap.size:=(Array.getElem?_eq_some_iff.1 yr.out).1;have hgo:go<wr.heap.size:=(Array.getElem?_eq_some_iff.1 hoc).1;have hgk:g9≠go:=fun e=>by
      have h1:=yr.out;rw[e,hoc] at h1;injection h1 with h1
      injection h1 with _ h1
      exact absurd h1 (by decide)
     have heq:=nu e.key k;have Ra:=ae hev;have Ld:Hid (∀b,b=decide (e.key=k)->∀W,_):=ae heq;clear hos hoc hor hocs hpe he heq;obtain⟨⟨k0,k1,k2,k3⟩,ev,ep⟩:=e;obtain rfl:ev=.slice ea ep.length ec:=Ra.out;obtain⟨en,hen⟩:∃en,en=ep.length:=⟨_,rfl⟩;simp only[Te.row,Ky.row] at hcell;simp only[<-hen] at hcell yq Dt;have zr:=ae hen;have a0:=fun d os=>cell_regrown (show wr.cell? ⟨go,q*5,none⟩=some (.int .i64 k0) from hcell 0 (by decide)) d os
     have a1:=fun d os=>cell_regrown (show wr.cell? ⟨go,q*5+1,none⟩=some (.int .i64 k1) from hcell 1 (by decide)) d os
     have a2:=fun d os=>cell_regrown (show wr.cell? ⟨go,q*5+2,none⟩=some (.int .i64 k2) from hcell 2 (by decide)) d os
     have a3:=fun d os=>cell_regrown (show wr.cell? ⟨go,q*5+3,none⟩=some (.int .i64 k3) from hcell 3 (by decide)) d os
     have b0:=fun d os=>cell_regrown (show wr.cell? ⟨g9,0,none⟩=some (.int .i64 k.L) from(af (j:=0) yr.out).trans rfl) d os
     have b1:=fun d os=>cell_regrown (show wr.cell? ⟨g9,1,none⟩=some (.int .i64 k.x) from(af (j:=1) yr.out).trans rfl) d os
     have b2:=fun d os=>cell_regrown (show wr.cell? ⟨g9,2,none⟩=some (.int .i64 k.y) from(af (j:=2) yr.out).trans rfl) d os
     have b3:=fun d os=>cell_regrown (show wr.cell? ⟨g9,3,none⟩=some (.int .i64 k.z) from(af (j:=3) yr.out).trans rfl) d os
     have Rl:=ae (show wr.cell? ⟨go,q*5+4,none⟩=some (.slice ea en ec) from hcell 4 (by decide));clear hcell hen;by_cases hke:(⟨k0,k1,k2,k3⟩:Ky)=k
     ·have heq:=Ld.out true (decide_eq_true hke).symm;have LP:=ae hke;clear hke;go_wp2_with fail;refine wp_region_quiet_below (by kernel_rfl) (by kernel_rfl) ?_
      repeat(first|go_big_quiet_step (fail) |quiet_step (fail))
      refine wpQuiet_nil ?_;intro _ hw';obtain⟨⟨dqV,osV⟩,hw2⟩:=hw';subst hw2;have aO:=ae (below_regrown wr dqV osV);generalize Sort.grow (redrawn wr dqV) osV=V at aO⊢;have gf:=aO.out.size;clear a0 a1 a2 a3 b0 b1 b2 b3 heq;obtain⟨rfl,rfl,hfin⟩:=xF Hp.out GY.out.keys HE.out LP.out;have LS:=ae hfin;clear hfin;go_upto_region 14 with fail;have J8:Below wr.heap.size wr (V.alloc (.cells #[] 106)):=aO.out.alloc aO.out.size _;have c9:(V.alloc (.cells #[] 106)).cell? ⟨go,q*5+4,none⟩=some (.slice ea en ec):=(J8.cell hgo).trans Rl.out;have nI:=ae (Nat.lt_of_lt_of_le hgs hzq);have Ft:=ae (show al (V.alloc (.cells #[] 106)) wr.heap.size 106 9 (.slice (some ⟨V.heap.size,0,none⟩) 0 0) [] from⟨bF.nil 9,rfl,Or.inr ⟨_,0,#[],rfl,gf,(by repeat' (first| (refine ai _ _ _ ?_;(first|rfl| (simp;done) | (simp;omega))) | (refine am _ _ _ _ ?_))),Nat.le_refl _,by unfold maxLen;omega,rfl,rfl⟩⟩);have LC:=ae (yH (al.grow' yq.out J8));have IG:=ae (show en=(ep.map Pt.row).length by rw[List.length_map];exact zr.out);have QH:=ae (show([]:List (List Value)).length +(ep.map Pt.row).length <=maxLen by rw[<-IG.out];have:=Dt.out;show 0+en<=maxLen;unfold maxLen;omega);have Kk:=ae (show(([]:List (List Value)).length +(ep.map Pt.row).length)*72<=140737488355328 by rw[<-IG.out];have:=Dt.out;show(0+en)*72<=_;omega);have In:=ae (jo (enc:=Pt.row) (k:=9) (fun _=>rfl) Pt.row_one ep);have Ju:=ae (show wr.heap.size<=(V.alloc (.cells #[] 106)).heap.size from J8.size);have wD:=ae J8;clear J8
      go_wp2_with (first
       | (at_builtin
          refine bH rfl (.tmp 46) (.tmp 51) 35 rfl wr.heap.size 106 i0 _ 9 72 Tryz.underlying35 HI.out HZ0.out HZ1.out HZ2.out rfl (by decide) _ [] (ep.map Pt.row) rfl Ft.out ea en ec IG.out rfl LC.out In.out QH.out Kk.out Ju.out ?_;intro v7 W7 i4 jV z5;clear z5;have lw:=ae (show aq W7 wr.heap.size v7 ep from i4);have cU:=ae (show Below wr.heap.size wr W7 from wD.out.grown jV Ju.out (fun j hj=>al.ownBlock Ft.out j hj));clear i4 jV;obtain⟨va,vc,hvs⟩:=aq.slice lw.out;rw[<-zr.out] at hvs;subst hvs;have c0:W7.cell? ⟨g,i*9,none⟩=some (.int .i64 p0):=(cU.out.cell nI.out).trans ((uz.out.cell hgs).trans (YP.out 0 (by decide)));have c1:W7.cell? ⟨g,i*9+1,none⟩=some (.int .i64 p1):=(cU.out.cell nI.out).trans ((uz.out.cell hgs).trans (YP.out 1 (by decide)));have c2:W7.cell? ⟨g,i*9+2,none⟩=some (.int .i64 p2):=(cU.out.cell nI.out).trans ((uz.out.cell hgs).trans (YP.out 2 (by decide)));have c3:W7.cell? ⟨g,i*9+3,none⟩=some (.int .i64 p3):=(cU.out.cell nI.out).trans ((uz.out.cell hgs).trans (YP.out 3 (by decide)));have c4:W7.cell? ⟨g,i*9+4,none⟩=some (.int .i64 p4):=(cU.out.cell nI.out).trans ((uz.out.cell hgs).trans (YP.out 4 (by decide)));have c5:W7.cell? ⟨g,i*9+5,none⟩=some (.int .i64 p5):=(cU.out.cell nI.out).trans ((uz.out.cell hgs).trans (YP.out 5 (by decide)));have c6:W7.cell? ⟨g,i*9+6,none⟩=some (.int .i64 p6):=(cU.out.cell nI.out).trans ((uz.out.cell hgs).trans (YP.out 6 (by decide)));have c7:W7.cell? ⟨g,i*9+7,none⟩=some (.int .i64 p7):=(cU.out.cell nI.out).trans ((uz.out.cell hgs).trans (YP.out 7 (by decide)));have c8:W7.cell? ⟨g,i*9+8,none⟩=some (.int .i64 p8):=(cU.out.cell nI.out).trans ((uz.out.cell hgs).trans (YP.out 8 (by decide)));have kA:=ae (show Below W7.heap.size W7 (W7.alloc (.cells #[.int .i64 p0,.int .i64 p1,.int .i64 p2,.int .i64 p3,.int .i64 p4,.int .i64 p5,.int .i64 p6,.int .i64 p7,.int .i64 p8] 106)) from(Below.refl _ _).alloc (Nat.le_refl _) _);have Dl:=ae (al.grow' lw.out kA.out);have HRW:=ae (show aB (W7.alloc (.cells #[.int .i64 p0,.int .i64 p1,.int .i64 p2,.int .i64 p3,.int .i64 p4,.int .i64 p5,.int .i64 p6,.int .i64 p7,.int .i64 p8] 106)) W7.heap.size 0 9 [[.int .i64 p0,.int .i64 p1,.int .i64 p2,.int .i64 p3,.int .i64 p4,.int .i64 p5,.int .i64 p6,.int .i64 p7,.int .i64 p8]] from aB.one (ai _ _ _ rfl));have Ic:=ae (show(ep.map Pt.row).length +1<=maxLen by rw[<-IG.out];have:=Dt.out;unfold maxLen;omega);have Pn:=ae (show((ep.map Pt.row).length +1)*72<=140737488355328 by rw[<-IG.out];have:=Dt.out;omega)
          have Jx:=ae (show wr.heap.size<=(W7.alloc (.cells #[.int .i64 p0,.int .i64 p1,.int .i64 p2,.int .i64 p3,.int .i64 p4,.int .i64 p5,.int .i64 p6,.int .i64 p7,.int .i64 p8] 106)).heap.size from Nat.le_trans cU.out.size kA.out.size))
       | (at_builtin
          refine ar rfl (.tmp 55) (.tmp 60) 35 rfl wr.heap.size 106 i0 _ 9 72 Tryz.underlying35 HI.out HZ0.out HZ1.out HZ2.out rfl (by decide) (.slice va en vc) _ [[.int .i64 p0,.int .i64 p1,.int .i64 p2,.int .i64 p3,.int .i64 p4,.int .i64 p5,.int .i64 p6,.int .i64 p7,.int .i64 p8]] rfl Dl.out W7.heap.size 0 1 1 rfl rfl HRW.out (tC _ _ _ _ _ _ _ _ _) Ic.out Pn.out Jx.out ?_;intro v8 W8 FA rK z5;clear z5 c0 c1 c2 c3 c4 c5 c6 c7 c8
          have rQ:=ae (show aq W8 W2.heap.size v8 (ep++[⟨p0,p1,p2,p3,p4,p5,p6,p7,p8⟩]) from by
           unfold aq;rw[List.map_append]
           exact al.mono FA hzq)
          have ij:=ae (show Below wr.heap.size wr W8 from(cU.out.trans (kA.out.mono cU.out.size)).grown rK Jx.out (fun j hj=>al.ownBlock Dl.out j hj));clear FA rK;have Jk:=ae (aj ij.out pB.out);obtain⟨ua,uc,hus⟩:=aq.slice rQ.out;obtain⟨un,hun⟩:∃un,un=(ep++[(⟨p0,p1,p2,p3,p4,p5,p6,p7,p8⟩:Pt)]).length :=⟨_,rfl⟩;rw[<-hun] at hus;clear hun
          subst hus)
       | (refine bC rfl 35 (.tmp 63) (.tmp 61) rfl go (q*5+4) _ rfl rfl rfl rfl Jk.out GS (by have:=Rt.out;omega) ?_))
      have ME:=ae (yi GJ.out ij.out HE.out Jk.out rQ.out);have Pv:=ae (((f9 W8 go (fA ocur (q*5+4) [.slice ua un uc])).block g9 (Array.getElem?_eq_some_iff.1 (aj ij.out yr.out)).1 hgk).trans (aj ij.out yr.out));have gY:=ae (dT (X:=fA ocur (q*5+4) [.slice ua un uc]) (uz.out.trans (ij.out.mono hzq)) Qp);exact⟨⟨q+1,true,_,by omega,by go_num,rfl,ME.out,Pv.out,LS.out _,gY.out⟩,by simp[intOf];omega⟩
     ·have heq:=Ld.out false (decide_eq_false hke).symm;go_wp2_with fail;refine wp_region_quiet_below (by kernel_rfl) (by kernel_rfl) ?_
      repeat(first|go_big_quiet_step (fail) |quiet_step (fail))
      refine wpQuiet_nil ?_;intro _ hw';obtain⟨⟨dqV,osV⟩,hw2⟩:=hw';subst hw2;have aO:=ae (below_regrown wr dqV osV);generalize Sort.grow (redrawn wr dqV) osV=V at aO⊢;have gf:=aO.out.size;clear a0 a1 a2 a3 b0 b1 b2 b3 heq;go_wp2_with fail;exact⟨⟨q+1,f,E',by omega,by go_num,rfl,GJ.out.grow aO.out,aj aO.out yr.out,uQ Hp.out HE.out hke,uz.out.trans (aO.out.mono hzq)⟩,by simp[intOf];omega⟩
    ·obtain rfl:q=m:=by omega
     have d2:decide ((q:Int)<(q:Int))=false:=by simp
     have hwn:∀e∈E,e.ok/\e.pts.length<=i:=yt.out
     cases f
     ·have gL:=ae (show E'=E/\∀e∈E,e.key≠k from by
       rcases Hp.out with⟨_,h1,h2⟩ | ⟨h1,_⟩
       ·refine⟨h1,fun e he=>?_⟩;obtain⟨a,ha,rfl⟩:=List.mem_iff_getElem.1 he;exact h2 a _ (by rw[HM.out];exact ha) (List.getElem?_eq_getElem ha)
       ·cases h1)
      obtain⟨rfl,hno⟩:=gL.out;clear gL;have gL:=ae hno;clear hno hwn;have Eh:=ae (fun j hj=>(uz.out.cell hgs).trans (YP.out j hj));have nI:=ae (Nat.lt_of_lt_of_le hgs hzq);have mD:=ae (Below.refl wr.heap.size wr);go_wp2_with fail;refine bf (fun A0 hA=>?_);refine mP (by kernel_rfl) (by kernel_rfl) [some 67,some 68,some 69,some 70,some 71,some 72,some 73,some 74,some 75,some 76,some 7] rfl (by decide) 9 (by decide) (by kernel_rfl) (by kernel_rfl)
       [aw (.slice oa q oc),aw (.agg #[.int .i64 k.L,.int .i64 k.x,.int .i64 k.y,.int .i64 k.z]),aw (.slice (some ⟨g,0,none⟩) n lc),aw (.int .i64 (i:Int)),aw (.pointer (some ⟨g,i*9,none⟩)),aw (.agg #[.int .i64 p0,.int .i64 p1,.int .i64 p2,.int .i64 p3,.int .i64 p4,.int .i64 p5,.int .i64 p6,.int .i64 p7,.int .i64 p8]),k7 wr.heap.size #[.int .i64 p0,.int .i64 p1,.int .i64 p2,.int .i64 p3,.int .i64 p4,.int .i64 p5,.int .i64 p6,.int .i64 p7,.int .i64 p8],oD wr.heap.size #[.int .i64 p0,.int .i64 p1,.int .i64 p2,.int .i64 p3,.int .i64 p4,.int .i64 p5,.int .i64 p6,.int .i64 p7,.int .i64 p8] k,nE wr.heap.size #[.int .i64 p0,.int .i64 p1,.int .i64 p2,.int .i64 p3,.int .i64 p4,.int .i64 p5,.int .i64 p6,.int .i64 p7,.int .i64 p8] k]
       ⟨aw.stb _,aw.stb _,aw.stb _,aw.stb _,aw.stb _,aw.stb _,k7.stb _ _,oD.stb _ _ _,nE.stb _ _ _,trivial⟩ ?hs1_18_W7 ?hend_18_W7
      case hs1_18_W7=>
       refine⟨?_,?_,?_,?_,?_,?_,?_,?_,?_,trivial⟩
       ·intro K us W ak hB hd;have hK:=ae ak;clear ak;intro hu;have aA:=ae hB;have fg:=hB.size;have GB:=ae (mD.out.trans (hB.mono mD.out.size));have e10:us 10=.slice oa q oc:=(hu 10 (by decide)).trans (by rw[hA];kernel_rfl);clear hd hu;simp only[ah];rw[hA,e10];go_frame;go_wp2_with fail;exact hK.out _ _ _ (by rw[hA];simp only[ah];rw[e10];kernel_rfl) (Below.refl _ _) rfl
       ·intro K us W ak hB hd;have hK:=ae ak;clear ak;intro hu;have aA:=ae hB;have fg:=hB.size;have GB:=ae (mD.out.trans (hB.mono mD.out.size));clear hd hu;have G0:=ae (aj hB yr.out);have c0:W.cell? ⟨g9,0,none⟩=some (.int .i64 k.L):=(af (j:=0) G0.out).trans rfl;have c1:W.cell? ⟨g9,1,none⟩=some (.int .i64 k.x):=(af (j:=1) G0.out).trans rfl;have c2:W.cell? ⟨g9,2,none⟩=some (.int .i64 k.y):=(af (j:=2) G0.out).trans rfl;have c3:W.cell? ⟨g9,3,none⟩=some (.int .i64 k.z):=(af (j:=3) G0.out).trans rfl;simp only[ah];rw[hA];go_frame;go_wp2_with fail;exact hK.out _ _ _ (by rw[hA];simp only[ah];kernel_rfl) (Below.refl _ _) rfl
       iterate 2 (·intro K us W ak hB hd;have hK:=ae ak;clear ak;intro hu;have aA:=ae hB;have fg:=hB.size;have GB:=ae (mD.out.trans (hB.mono mD.out.size));clear hd hu;simp only[ah];rw[hA];go_frame;go_wp2_with fail;exact hK.out _ _ _ (by rw[hA];simp only[ah];kernel_rfl) (Below.refl _ _) rfl)
       ·intro K us W ak hB hd;have hK:=ae ak;clear ak;intro hu;have aA:=ae hB;have fg:=hB.size;have GB:=ae (mD.out.trans (hB.mono mD.out.size));have e2:us 2=_:=hd ⟨2,Ground.data⟩ (by simp) rfl;have e3:us 3=_:=hd ⟨3,Ground.data⟩ (by simp) rfl;clear hd hu;simp only[ah];rw[hA,e2,e3];go_frame;go_wp2_with fail;exact hK.out _ _ _ (by rw[hA];simp only[ah];rw[e2,e3];kernel_rfl) (Below.refl _ _) rfl
       ·intro K us W ak hB hd;have hK:=ae ak;clear ak;intro hu;have aA:=ae hB;have fg:=hB.size;have GB:=ae (mD.out.trans (hB.mono mD.out.size));have e4:us 4=_:=hd ⟨4,Ground.data⟩ (by simp) rfl;clear hd hu;have c0:W.cell? ⟨g,i*9,none⟩=some (.int .i64 p0):=by rw[hB.cell nI.out];exact Eh.out 0 (by decide)
        have c1:W.cell? ⟨g,i*9+1,none⟩=some (.int .i64 p1):=by rw[hB.cell nI.out];exact Eh.out 1 (by decide)
        have c2:W.cell? ⟨g,i*9+2,none⟩=some (.int .i64 p2):=by rw[hB.cell nI.out];exact Eh.out 2 (by decide)
        have c3:W.cell? ⟨g,i*9+3,none⟩=some (.int .i64 p3):=by rw[hB.cell nI.out];exact Eh.out 3 (by decide)
        have c4:W.cell? ⟨g,i*9+4,none⟩=some (.int .i64 p4):=by rw[hB.cell nI.out];exact Eh.out 4 (by decide)
        have c5:W.cell? ⟨g,i*9+5,none⟩=some (.int .i64 p5):=by rw[hB.cell nI.out];exact Eh.out 5 (by decide)
        have c6:W.cell? ⟨g,i*9+6,none⟩=some (.int .i64 p6):=by rw[hB.cell nI.out];exact Eh.out 6 (by decide)
        have c7:W.cell? ⟨g,i*9+7,none⟩=some (.int .i64 p7):=by rw[hB.cell nI.out];exact Eh.out 7 (by decide)
        have c8:W.cell? ⟨g,i*9+8,none⟩=some (.int .i64 p8):=by rw[hB.cell nI.out];exact Eh.out 8 (by decide)
        simp only[ah];rw[hA,e4];go_frame;go_wp2_with fail;exact hK.out _ _ _ (by rw[hA];simp only[ah];rw[e4];kernel_rfl) (Below.refl _ _) rfl
       ·intro K us W ak hB hd;have hK:=ae ak;clear ak;intro hu;have aA:=ae hB;have fg:=hB.size;have GB:=ae (mD.out.trans (hB.mono mD.out.size));have e5:us 5=_:=hd ⟨5,Ground.data⟩ (by simp) rfl;clear hd hu;simp only[ah];rw[hA,e5];go_frame;go_wp2_with fail;exact hK.out _ _ _ (by rw[hA];simp only[ah];rw[e5];kernel_rfl) ((Below.refl _ _).alloc (Nat.le_refl _) _) (⟨_,rfl,fg,ai _ _ _ rfl⟩)
       ·intro K us W ak hB hd;have hK:=ae ak;clear ak;intro hu;have aA:=ae hB;have fg:=hB.size;have GB:=ae (mD.out.trans (hB.mono mD.out.size));have e1:us 1=_:=hd ⟨1,Ground.data⟩ (by simp) rfl;have QS:(k7 wr.heap.size #[.int .i64 p0,.int .i64 p1,.int .i64 p2,.int .i64 p3,.int .i64 p4,.int .i64 p5,.int .i64 p6,.int .i64 p7,.int .i64 p8]) W (us 6):=hd ⟨6,Ground.data⟩ (by simp) rfl;obtain⟨g6,e6,da,J6⟩:=QS;clear hd hu;simp only[ah];rw[hA,e1,e6];go_frame;go_wp2_with fail;exact hK.out _ _ _ (by rw[hA];simp only[ah];rw[e1,e6];kernel_rfl) (Below.refl _ _) (⟨_,rfl,da,J6⟩)
       ·intro K us W ak hB hd;have hK:=ae ak;clear ak;intro hu;have aA:=ae hB;have fg:=hB.size;have GB:=ae (mD.out.trans (hB.mono mD.out.size));have hd7:(oD wr.heap.size #[.int .i64 p0,.int .i64 p1,.int .i64 p2,.int .i64 p3,.int .i64 p4,.int .i64 p5,.int .i64 p6,.int .i64 p7,.int .i64 p8] k) W (us 7):=hd ⟨7,Ground.data⟩ (by simp) rfl;obtain⟨g7,e7,jV,Qu⟩:=hd7;clear hd hu;simp only[ah];rw[hA,e7];go_frame;go_wp2_with fail;exact hK.out _ _ _ (by rw[hA];simp only[ah];rw[e7];kernel_rfl) ((Below.refl _ _).alloc (Nat.le_refl _) _) (⟨_,rfl,fg,g7,jV,ai _ _ _ rfl,am _ _ _ _ Qu⟩)
      intro us W7 hB hp;have e0:us 0=_:=hp 0 (by decide);have QF:(nE wr.heap.size #[.int .i64 p0,.int .i64 p1,.int .i64 p2,.int .i64 p3,.int .i64 p4,.int .i64 p5,.int .i64 p6,.int .i64 p7,.int .i64 p8] k) W7 (us 8):=hp 8 (by decide);obtain⟨g8,e8,rK,PP⟩:=QF;have cU:=ae (mD.out.trans (hB.mono mD.out.size));have Qk:=ae (fun n x=>@aj _ _ n x hB);have Q9:=hB.size;have GC:=ae hB;clear hp;clear hB;simp only[ah];rw[hA,e0,e8];clear hA e0 e8;go_frame;obtain⟨gp,hgp,N1,OL⟩:=PP;have Np:=ae (GJ.out.grow GC.out);have Qy:=ae OL;have BM:=ae (Nat.le_trans hzq hgp);have DI:=ae (show(E'.map Te.row).length +1<=maxLen by rw[List.length_map,<-HM.out];unfold maxLen;omega);have EI:=ae (show((E'.map Te.row).length +1)*56<=140737488355328 by rw[List.length_map,<-HM.out];omega);have Ju:=ae (Nat.le_trans hzq GC.out.size);have HRW:=ae (show aB W7 g8 0 5 [Te.row ⟨k,.slice (some ⟨gp,0,none⟩) 1 1,[⟨p0,p1,p2,p3,p4,p5,p6,p7,p8⟩]⟩] from aB.one N1);refine rY rfl ?_;intro K ak;have hK:=ae ak;clear ak;refine ar rfl (.tmp 67) (.tmp 75) 45 rfl W2.heap.size 101 i1 _ 5 56 Tryz.underlying45 JI.out JZ0.out JZ1.out JZ2.out rfl (by decide) (.slice oa q oc) _ [Te.row ⟨k,.slice (some ⟨gp,0,none⟩) 1 1,[⟨p0,p1,p2,p3,p4,p5,p6,p7,p8⟩]⟩] rfl Np.out.1 g8 0 1 1 rfl rfl HRW.out (CL _ _ _ _ _ _ _) DI.out EI.out Ju.out ?_;intro v9 W9 kK GW Ji;have ME:=ae (yS Np.out Qy.out BM.out kK GW);have gY:=ae (show Below W2.heap.size W2 W9 from(uz.out.trans (GC.out.mono hzq)).grown GW Ju.out (fun j hj=>al.ownBlock Np.out.1 j hj));clear kK GW Ji N1 OL;go_wp2_with fail;refine hK.out v9 _ _ (by kernel_rfl) ?_;clear hK;refine rY rfl ?_;intro K ak;have hK:=ae ak;clear ak
      try go_frame
      go_wp2_with fail;refine hK.out v9 _ _ (by kernel_rfl) ?_;clear hK;refine ES rfl ?_;go_wp2_with fail;refine⟨⟨i+1,_,by omega,by go_num,ME.out,EN GY.out pu.out HAT.out gL.out,fun e he=>?_,by rw[List.length_append,<-HM.out];show q+1<=_;omega,gY.out⟩,by simp[intOf];omega⟩
      rcases List.mem_append.1 he with q1|q1
      ·exact⟨(yt.out e q1).1,Nat.le_succ_of_le (yt.out e q1).2⟩
      ·obtain rfl:=List.mem_singleton.1 q1;exact⟨⟨mX.out,rfl⟩,by show 1<=i+1;omega⟩
     ·have eC:=ae (show ∃(a:Nat) (e:Te) (v:Value),E[a]? =some e/\e.key=k/\E'=E.set a ⟨e.key,v,e.pts++[⟨p0,p1,p2,p3,p4,p5,p6,p7,p8⟩]⟩ from by
       rcases Hp.out with⟨h1,_⟩ | ⟨_,a,e,v,_,h2,h3,h4⟩
       ·cases h1
       ·exact⟨a,e,v,h2,h3,h4⟩)
      clear hwn;go_wp2_with fail;obtain⟨a,e,v,h2,h3,h4⟩:=eC.out;refine⟨⟨i+1,E',by omega,by go_num,GJ.out,h4▸Cw GY.out pu.out HAT.out HAS.out h2 h3,fun f hf=>?_,by rw[h4,List.length_set,<-HM.out];omega,uz.out⟩,by simp[intOf];omega⟩;have hown:=GJ.out.2 f hf;rw[h4] at hf
      rcases List.mem_or_eq_of_mem_set hf with q1|q1
      ·exact⟨(yt.out f q1).1,Nat.le_succ_of_le (yt.out f q1).2⟩
      ·have h5:=yt.out e (List.mem_of_getElem? h2);obtain⟨za,zc,hz⟩:=hown.slice;refine⟨⟨by rw[q1];exact h5.1.1,by rw[hz];rfl⟩,?_⟩;rw[q1,List.length_append];show e.pts.length+1<=i+1;have:=h5.2;omega
  ·obtain rfl:i=n:=by omega
   have d1:decide ((i:Int)<(i:Int))=false:=by simp
   have sm:=ae (show cC (fun p k=>p∈S/\fZ S c p k) (E.map Te.tl) from GY.out.congr (fun p k=>by
    unfold QL
    rw[<-iQ.out,List.take_length,rJ.out.mem_iff,zB rJ.out]))
   go_wp2_with fail
   go_loopw [80] (fun iv W=>LW W2 E m (.slice oa m oc) iv W) (fun iv _=>m-(intOf iv).toNat)
   case atStart=>exact⟨0,E,by omega,rfl,List.Perm.refl _,fun a b x y _ h=>by omega,wl.out,fq.out⟩
   case round=>
    obtain⟨j,Fo,hj,rfl,hpm,hst,hto,hB⟩:=hrel;have Fj:=ae hpm;have HST:=ae hst;have uy:=ae hto;have GN:=ae hB;clear hpm hst hto hB;by_cases hlt2:j<m
    ·have d2:decide ((j:Int)<(m:Int))=true:=decide_eq_true (by omega);go_wp2_with fail
     go_loopw [14] (fun kv W=>Ni W2 E j (.slice oa m oc) kv W) (fun kv _=>(intOf kv).toNat)
     case atStart=>exact⟨j,Fo,by omega,rfl,Fj.out,lR HST.out,uy.out,GN.out⟩
     case round=>
      obtain⟨k,Fk,hk,rfl,hpm,hin,hto,hB⟩:=hrel;have kI:=ae hpm;have qL:=ae hin;have o9:=ae hto;have gi:=ae hB;have hzk:=hB.size;clear hpm hin hto hB;have hLn:Fk.length=m:=by rw[kI.out.length_eq];exact HM.out.symm
      by_cases hk0:k=0
      ·subst hk0;go_wp2_with fail;refine wp_region_quiet_below (by kernel_rfl) (by kernel_rfl) ?_
       repeat(first|go_big_quiet_step (fail) |quiet_step (fail))
       refine wpQuiet_nil ?_;intro _ hw';obtain⟨⟨dqV,osV⟩,hw2⟩:=hw';subst hw2;have aO:=ae (below_regrown wr dqV osV);generalize Sort.grow (redrawn wr dqV) osV=V at aO⊢;have gf:=aO.out.size;go_wp2_with fail;exact⟨⟨j+1,Fk,by omega,by go_num,kI.out,ju (r:=Iw) (k:=0) (fun x y z h1 h2=>Ky.not_lt_trans h2 h1) qL.out (Nat.zero_le _) (fun x y h=>by omega),o9.out.grow aO.out,gi.out.trans (aO.out.mono hzk)⟩,by simp[intOf];omega⟩
      ·obtain⟨p,hp⟩:∃p,Fk[k]? =some p:=⟨_,List.getElem?_eq_getElem (by omega)⟩;obtain⟨q,hq⟩:∃q,Fk[k-1]? =some q:=⟨_,List.getElem?_eq_getElem (by omega)⟩;obtain⟨g,oc',ocur,hos,hgb,hoc,hor,hocap,_,hocs⟩:=al.rows o9.out.1 (by rw[List.length_map];omega);obtain⟨rfl,rfl⟩:oa=some ⟨g,0,none⟩/\oc=oc':=by
        injection hos with e1 e2 e3
        exact⟨e1,e3⟩
       have hcp:∀e,e<5->wr.cell? ⟨g,k*5+e,none⟩=p.row[e]? :=fun e he=>by
        have:=hor k p.row (by rw[List.getElem?_map,hp];rfl) e he;rw[Nat.zero_add] at this;exact this
       have hcq:∀e,e<5->wr.cell? ⟨g,(k-1)*5+e,none⟩=q.row[e]? :=fun e he=>by
        have:=hor (k-1) q.row (by rw[List.getElem?_map,hq];rfl) e he;rw[Nat.zero_add] at this;exact this
       have ib:=ae hp;have sF:=ae hq;have JC:=ae (show p.ok from(yt.out p (kI.out.mem_iff.1 (List.mem_of_getElem? hp))).1);have Ku:=ae (show q.ok from(yt.out q (kI.out.mem_iff.1 (List.mem_of_getElem? hq))).1);obtain⟨pa,pc,hpv⟩:=(o9.out.2 p (List.mem_of_getElem? hp)).slice;obtain⟨qa,qc,hqv⟩:=(o9.out.2 q (List.mem_of_getElem? hq)).slice;have o4:=ae hpv;have PR:=ae hqv;have Lm:m*5<=ocur.size:=by
        rw[hocs];rw[List.length_map,hLn] at hocap;exact Nat.mul_le_mul_right 5 hocap
       have pB:=ae hoc;clear hos hor hocap hocs hp hq hpv hqv hoc hLn;obtain⟨⟨p0,p1,p2,p3⟩,pv,pl⟩:=p;obtain⟨⟨q0,q1,q2,q3⟩,qv,ql⟩:=q;obtain rfl:pv=.slice pa pl.length pc:=o4.out;obtain rfl:qv=.slice qa ql.length qc:=PR.out;obtain⟨pn,hpn⟩:∃pn,pn=pl.length:=⟨_,rfl⟩;obtain⟨qn,hqn⟩:∃qn,qn=ql.length:=⟨_,rfl⟩;simp only[Te.row,Ky.row,<-hpn,<-hqn] at hcp hcq;simp only[<-hpn,<-hqn] at ib sF JC Ku;have a0:=fun d os=>cell_regrown (show wr.cell? ⟨g,k*5,none⟩=some (.int .i64 p0) from hcp 0 (by decide)) d os
       have a1:=fun d os=>cell_regrown (show wr.cell? ⟨g,k*5+1,none⟩=some (.int .i64 p1) from hcp 1 (by decide)) d os
       have a2:=fun d os=>cell_regrown (show wr.cell? ⟨g,k*5+2,none⟩=some (.int .i64 p2) from hcp 2 (by decide)) d os
       have a3:=fun d os=>cell_regrown (show wr.cell? ⟨g,k*5+3,none⟩=some (.int .i64 p3) from hcp 3 (by decide)) d os
       have b0:=fun d os=>cell_regrown (show wr.cell? ⟨g,(k-1)*5,none⟩=some (.int .i64 q0) from hcq 0 (by decide)) d os
       have b1:=fun d os=>cell_regrown (show wr.cell? ⟨g,(k-1)*5+1,none⟩=some (.int .i64 q1) from hcq 1 (by decide)) d os
       have b2:=fun d os=>cell_regrown (show wr.cell? ⟨g,(k-1)*5+2,none⟩=some (.int .i64 q2) from hcq 2 (by decide)) d os
       have b3:=fun d os=>cell_regrown (show wr.cell? ⟨g,(k-1)*5+3,none⟩=some (.int .i64 q3) from hcq 3 (by decide)) d os
       have YP:=ae hcp;have YQ:=ae hcq;have hg0:decide ((0:Int)<(k:Int))=true:=decide_eq_true (by omega);have hg1:0<k:=by omega
       clear hcp hcq hpn hqn;by_cases hlt3:(⟨p0,p1,p2,p3⟩:Ky).lt ⟨q0,q1,q2,q3⟩
       ·have pg:=ae (show ∀W,Calls Tryz.prog 94 #[.agg #[.int .i64 p0,.int .i64 p1,.int .i64 p2,.int .i64 p3],.agg #[.int .i64 q0,.int .i64 q1,.int .i64 q2,.int .i64 q3]] W fun r w'=>r=.returned (.bool true)/\Below W.heap.size W w' from fun W=>decide_eq_true hlt3▸fR ⟨p0,p1,p2,p3⟩ ⟨q0,q1,q2,q3⟩ W);have lm:=ae hlt3;clear hlt3;go_wp2_with fail;refine wp_region_quiet_below (by kernel_rfl) (by kernel_rfl) ?_
        repeat(first|go_big_quiet_step ((go_at_call 94;with_reducible exact Calls.regrown_of (pg.out _))) |quiet_step ((go_at_call 94;with_reducible exact Calls.regrown_of (pg.out _))))
        refine wpQuiet_nil ?_;intro _ hw';obtain⟨⟨dqV,osV⟩,hw2⟩:=hw';subst hw2;have aO:=ae (below_regrown wr dqV osV);generalize Sort.grow (redrawn wr dqV) osV=V at aO⊢;have gf:=aO.out.size;have Ox:=ae (o9.out.grow aO.out);have cr:=ae (gi.out.trans (aO.out.mono hzk));have YC:=ae (aj aO.out pB.out);have hgw:g<wr.heap.size:=(Array.getElem?_eq_some_iff.1 pB.out).1;have JS:=ae (fun e he=>(aO.out.cell hgw).trans (YP.out e he));have II:=ae (fun e he=>(aO.out.cell hgw).trans (YQ.out e he));clear a0 a1 a2 a3 b0 b1 b2 b3;go_wp2_with fail;refine bf (fun A0 hA=>?_);refine bD (by kernel_rfl) (by kernel_rfl) [some 102,some 103,some 104,some 105,some 106,some 107,some 108,some 109,some 110,some 111,some 112,some 113,some 114,some 115,some 116,none,some 117,none] rfl (by decide) (gN V.drew (V.drew.setRow g (fA ocur (k*5) [.int .i64 q0,.int .i64 q1,.int .i64 q2,.int .i64 q3,.slice qa qn qc])) ((V.drew.setRow g (fA ocur (k*5) [.int .i64 q0,.int .i64 q1,.int .i64 q2,.int .i64 q3,.slice qa qn qc])).setRow g (fA (fA ocur (k*5) [.int .i64 q0,.int .i64 q1,.int .i64 q2,.int .i64 q3,.slice qa qn qc]) ((k-1)*5) [.int .i64 p0,.int .i64 p1,.int .i64 p2,.int .i64 p3,.slice pa pn pc])) 15 17 [0,1,5,6,7,8,9,13,14] [.slice (some ⟨g,0,none⟩) m oc,.int .i64 (k:Int),.slice (some ⟨g,0,none⟩) m oc,.int .i64 (k:Int),.int .i64 ((k:Int)-1),.slice (some ⟨g,0,none⟩) m oc,.int .i64 (k:Int),.int .i64 ((k:Int)-1),.pointer (some ⟨g,(k-1)*5,none⟩),.agg #[.int .i64 q0,.int .i64 q1,.int .i64 q2,.int .i64 q3,.slice qa qn qc],.slice (some ⟨g,0,none⟩) m oc,.int .i64 (k:Int),.pointer (some ⟨g,k*5,none⟩),.agg #[.int .i64 p0,.int .i64 p1,.int .i64 p2,.int .i64 p3,.slice pa pn pc],.pointer (some ⟨g,k*5,none⟩),undef,.pointer (some ⟨g,(k-1)*5,none⟩),undef]) (fy A0 _) (ci A0 _) gN.start ?hs1_26_W1 ?hend_26_W1
        case hs1_26_W1=>
         refine⟨?_,?_,?_,?_,?_,?_,?_,?_,?_,?_,?_,?_,?_,?_,?_,?_,?_,?_,trivial⟩
         ·intro K L us W ak hL hd hR;have hK:=ae (fun v A' h1 h2=>ak v A' W h1 (hR.pure 0 (by decide) (by decide) h2));clear ak
          (try simp[Region.binds] at hd)
          clear hd hR;simp only[ah];rw[hA];go_frame;go_wp2_with fail;exact hK.out _ _ (by rw[hA];simp only[ah];kernel_rfl) rfl
         ·intro K L us W ak hL hd hR;have hK:=ae (fun v A' h1 h2=>ak v A' W h1 (hR.pure 1 (by decide) (by decide) h2));clear ak
          (try simp[Region.binds] at hd)
          clear hd hR;simp only[ah];rw[hA];go_frame;go_wp2_with fail;exact hK.out _ _ (by rw[hA];simp only[ah];kernel_rfl) rfl
         ·intro K L us W ak hL hd hR;have hK:=ae (fun v A' h1 h2=>ak v A' W h1 (hR.pure 2 (by decide) (by decide) h2));clear ak
          (try simp[Region.binds] at hd)
          clear hd hR;simp only[ah];rw[hA];go_frame;go_wp2_with fail;exact hK.out _ _ (by rw[hA];simp only[ah];kernel_rfl) rfl
         ·intro K L us W ak hL hd hR;have hK:=ae (fun v A' h1 h2=>ak v A' W h1 (hR.pure 3 (by decide) (by decide) h2));clear ak
          (try simp[Region.binds] at hd)
          clear hd hR;simp only[ah];rw[hA];go_frame;go_wp2_with fail;exact hK.out _ _ (by rw[hA];simp only[ah];kernel_rfl) rfl
         ·intro K L us W ak hL hd hR;have hK:=ae (fun v A' h1 h2=>ak v A' W h1 (hR.pure 4 (by decide) (by decide) h2));clear ak
          (try simp[Region.binds] at hd)
          have e3:us 3=.int .i64 (k:Int):=hR.vals 3 (by simp[hd]) (by decide) (by decide);clear hd hR;simp only[ah];rw[hA,e3];go_frame;go_wp2_with fail;exact hK.out _ _ (by rw[hA];simp only[ah];rw[e3];kernel_rfl) rfl
         ·intro K L us W ak hL hd hR;have hK:=ae (fun v A' h1 h2=>ak v A' W h1 (hR.pure 5 (by decide) (by decide) h2));clear ak
          (try simp[Region.binds] at hd)
          clear hd hR;simp only[ah];rw[hA];go_frame;go_wp2_with fail;exact hK.out _ _ (by rw[hA];simp only[ah];kernel_rfl) rfl
         ·intro K L us W ak hL hd hR;have hK:=ae (fun v A' h1 h2=>ak v A' W h1 (hR.pure 6 (by decide) (by decide) h2));clear ak
          (try simp[Region.binds] at hd)
          clear hd hR;simp only[ah];rw[hA];go_frame;go_wp2_with fail;exact hK.out _ _ (by rw[hA];simp only[ah];kernel_rfl) rfl
         ·intro K L us W ak hL hd hR;have hK:=ae (fun v A' h1 h2=>ak v A' W h1 (hR.pure 7 (by decide) (by decide) h2));clear ak
          (try simp[Region.binds] at hd)
          have e6:us 6=.int .i64 (k:Int):=hR.vals 6 (by simp[hd]) (by decide) (by decide);clear hd hR;simp only[ah];rw[hA,e6];go_frame;go_wp2_with fail;exact hK.out _ _ (by rw[hA];simp only[ah];rw[e6];kernel_rfl) rfl
         ·intro K L us W ak hL hd hR;have hK:=ae (fun v A' h1 h2=>ak v A' W h1 (hR.pure 8 (by decide) (by decide) h2));clear ak
          (try simp[Region.binds] at hd)
          have e5:us 5=.slice (some ⟨g,0,none⟩) m oc:=hR.vals 5 (by simp[hd]) (by decide) (by decide);have e7:us 7=.int .i64 ((k:Int)-1):=hR.vals 7 (by simp[hd]) (by decide) (by decide);clear hd hR;simp only[ah];rw[hA,e5,e7];go_frame;go_wp2_with fail;exact hK.out _ _ (by rw[hA];simp only[ah];rw[e5,e7];kernel_rfl) rfl
         ·intro K L us W ak hL hd hR;have hK:=ae (fun v A' h1 h2=>ak v A' W h1 (hR.pure 9 (by decide) (by decide) h2));clear ak
          (try simp[Region.binds] at hd)
          have e8:us 8=.pointer (some ⟨g,(k-1)*5,none⟩):=hR.vals 8 (by simp[hd]) (by decide) (by decide);have hW:=hR.at0 (k:=9) (by decide) hL;clear hd hR;subst hW;have c0:V.drew.cell? ⟨g,(k-1)*5,none⟩=some (.int .i64 q0):=II.out 0 (by decide);have c1:V.drew.cell? ⟨g,(k-1)*5+1,none⟩=some (.int .i64 q1):=II.out 1 (by decide);have c2:V.drew.cell? ⟨g,(k-1)*5+2,none⟩=some (.int .i64 q2):=II.out 2 (by decide);have c3:V.drew.cell? ⟨g,(k-1)*5+3,none⟩=some (.int .i64 q3):=II.out 3 (by decide);have c4:V.drew.cell? ⟨g,(k-1)*5+4,none⟩=some (.slice qa qn qc):=II.out 4 (by decide);simp only[ah];rw[hA,e8];go_frame;go_wp2_with fail;exact hK.out _ _ (by rw[hA];simp only[ah];rw[e8];kernel_rfl) rfl
         ·intro K L us W ak hL hd hR;have hK:=ae (fun v A' h1 h2=>ak v A' W h1 (hR.pure 10 (by decide) (by decide) h2));clear ak
          (try simp[Region.binds] at hd)
          clear hd hR;simp only[ah];rw[hA];go_frame;go_wp2_with fail;exact hK.out _ _ (by rw[hA];simp only[ah];kernel_rfl) rfl
         ·intro K L us W ak hL hd hR;have hK:=ae (fun v A' h1 h2=>ak v A' W h1 (hR.pure 11 (by decide) (by decide) h2));clear ak
          (try simp[Region.binds] at hd)
          clear hd hR;simp only[ah];rw[hA];go_frame;go_wp2_with fail;exact hK.out _ _ (by rw[hA];simp only[ah];kernel_rfl) rfl
         ·intro K L us W ak hL hd hR;have hK:=ae (fun v A' h1 h2=>ak v A' W h1 (hR.pure 12 (by decide) (by decide) h2));clear ak
          (try simp[Region.binds] at hd)
          have e10:us 10=.slice (some ⟨g,0,none⟩) m oc:=hR.vals 10 (by simp[hd]) (by decide) (by decide);have e11:us 11=.int .i64 (k:Int):=hR.vals 11 (by simp[hd]) (by decide) (by decide);clear hd hR;simp only[ah];rw[hA,e10,e11];go_frame;go_wp2_with fail;exact hK.out _ _ (by rw[hA];simp only[ah];rw[e10,e11];kernel_rfl) rfl
         ·intro K L us W ak hL hd hR;have hK:=ae (fun v A' h1 h2=>ak v A' W h1 (hR.pure 13 (by decide) (by decide) h2));clear ak
          (try simp[Region.binds] at hd)
          have e12:us 12=.pointer (some ⟨g,k*5,none⟩):=hR.vals 12 (by simp[hd]) (by decide) (by decide);have hW:=hR.at0 (k:=13) (by decide) hL;clear hd hR;subst hW;have c0:V.drew.cell? ⟨g,k*5,none⟩=some (.int .i64 p0):=JS.out 0 (by decide);have c1:V.drew.cell? ⟨g,k*5+1,none⟩=some (.int .i64 p1):=JS.out 1 (by decide);have c2:V.drew.cell? ⟨g,k*5+2,none⟩=some (.int .i64 p2):=JS.out 2 (by decide);have c3:V.drew.cell? ⟨g,k*5+3,none⟩=some (.int .i64 p3):=JS.out 3 (by decide);have c4:V.drew.cell? ⟨g,k*5+4,none⟩=some (.slice pa pn pc):=JS.out 4 (by decide);simp only[ah];rw[hA,e12];go_frame;go_wp2_with fail;exact hK.out _ _ (by rw[hA];simp only[ah];rw[e12];kernel_rfl) rfl
         ·intro K L us W ak hL hd hR;have hK:=ae (fun v A' h1 h2=>ak v A' W h1 (hR.pure 14 (by decide) (by decide) h2));clear ak
          (try simp[Region.binds] at hd)
          have e0:us 0=.slice (some ⟨g,0,none⟩) m oc:=hR.vals 0 (by simp[hd]) (by decide) (by decide);have e1:us 1=.int .i64 (k:Int):=hR.vals 1 (by simp[hd]) (by decide) (by decide);clear hd hR;simp only[ah];rw[hA,e0,e1];go_frame;go_wp2_with fail;exact hK.out _ _ (by rw[hA];simp only[ah];rw[e0,e1];kernel_rfl) rfl
         ·intro K L us W ak hL hd hR;simp[Region.binds] at hd;have e14:us 14=.pointer (some ⟨g,k*5,none⟩):=hR.vals 14 (by simp[hd]) (by decide) (by decide);have e9:us 9=.agg #[.int .i64 q0,.int .i64 q1,.int .i64 q2,.int .i64 q3,.slice qa qn qc]:=hR.vals 9 (by simp[hd]) (by decide) (by decide);have hp:∀j∈[0,1,5,6,7,8,9,13,14],L j=true:=by
           intro j hj;simp only[List.mem_cons,List.not_mem_nil,or_false] at hj
           rcases hj with rfl|rfl|rfl|rfl|rfl|rfl|rfl|rfl|rfl
           all_goals(simp[hd])
          have hW:=(hR.fst (v:=undef) hL hp (by decide)).1;have hK:=ae (fun A' h1=>ak undef A' _ h1 (hR.fst hL hp (by decide)).2);clear ak hp;clear hd hR;subst hW;simp only[ah];rw[hA,e14,e9];go_frame;go_wp2_with (refine eN rfl 101 (.tmp 116) (.tmp 111) rfl g (k*5) _ rfl rfl (show V.drew.heap[g]? =_ from YC.out) wH rfl (by show k*5+5<=ocur.size;omega) rfl ?_);exact hK.out _ (by rw[hA];simp only[ah];rw[e14,e9];kernel_rfl)
         ·intro K L us W ak hL hd hR;have hK:=ae (fun v A' h1 h2=>ak v A' W h1 (hR.pure 16 (by decide) (by decide) h2));clear ak
          (try simp[Region.binds] at hd)
          have e2:us 2=.slice (some ⟨g,0,none⟩) m oc:=hR.vals 2 (by simp[hd]) (by decide) (by decide);have e4:us 4=.int .i64 ((k:Int)-1):=hR.vals 4 (by simp[hd]) (by decide) (by decide);clear hd hR;simp only[ah];rw[hA,e2,e4];go_frame;go_wp2_with fail;exact hK.out _ _ (by rw[hA];simp only[ah];rw[e2,e4];kernel_rfl) rfl
         ·intro K L us W ak hL hd hR;simp[Region.binds] at hd;have e16:us 16=.pointer (some ⟨g,(k-1)*5,none⟩):=hR.vals 16 (by simp[hd]) (by decide) (by decide);have e13:us 13=.agg #[.int .i64 p0,.int .i64 p1,.int .i64 p2,.int .i64 p3,.slice pa pn pc]:=hR.vals 13 (by simp[hd]) (by decide) (by decide);have h5:L 15=true:=by simp[hd]
          have hW:=(hR.snd (v:=undef) h5 hL).1;have hK:=ae (fun A' h1=>ak undef A' _ h1 (hR.snd h5 hL).2);clear ak;clear hd hR;subst hW;simp only[ah];rw[hA,e16,e13];go_frame;go_wp2_with (refine eN rfl 101 (.tmp 117) (.tmp 115) rfl g ((k-1)*5) _ rfl rfl (setRow_heap _ _ _ _ _ _ (show V.drew.heap[g]? =_ from YC.out)) wH rfl (by show(k-1)*5+5<=(fA ocur (k*5) _).size;rw[i9];omega) rfl ?_);exact hK.out _ (by rw[hA];simp only[ah];rw[e16,e13];kernel_rfl)
        intro L us W1 hL hR;have hW:W1=(V.drew.setRow g (fA ocur (k*5) [.int .i64 q0,.int .i64 q1,.int .i64 q2,.int .i64 q3,.slice qa qn qc])).setRow g (fA (fA ocur (k*5) [.int .i64 q0,.int .i64 q1,.int .i64 q2,.int .i64 q3,.slice qa qn qc]) ((k-1)*5) [.int .i64 p0,.int .i64 p1,.int .i64 p2,.int .i64 p3,.slice pa pn pc]):=by have:=hR.wld;rw[hL 17 (by decide)] at this;exact this
        clear hR hL;simp only[ah];rw[hA];clear hA;go_frame;subst hW;have zQ:=ae (uJ (show bw V.drew W2.heap.size (.slice (some ⟨g,0,none⟩) m oc) Fk from⟨al.drew Ox.out.1,fun e he=>al.drew (Ox.out.2 e he)⟩) YC.out JC.out Ku.out ib.out sF.out);have dQ:=ae (fun X Y=>dT (X:=Y) (dT (X:=X) (kg cr.out) hgb) hgb);simp only[Te.row,Ky.row] at zQ;have jI:=ae ((qV ib.out sF.out).trans kI.out)
        have Jt:=ae (show jL Iw ((Fk.set k ⟨⟨q0,q1,q2,q3⟩,.slice qa qn qc,ql⟩).set (k-1) ⟨⟨p0,p1,p2,p3⟩,.slice pa pn pc,pl⟩) j (k-1) by
         have e:k=(k-1)+1:=by omega
         have h:=nZ (r:=Iw) (k:=k-1) (x:=⟨⟨p0,p1,p2,p3⟩,.slice pa pn pc,pl⟩) (fun x y h h2=>Ky.lt_irrefl _ (Ky.lt_trans h h2)) (by rw[<-e];exact qL.out) (by omega) (by rw[<-e];exact ib.out) sF.out lm.out;rw[<-e] at h
         exact h)
        go_wp2_with fail;exact⟨⟨k-1,_,by omega,by congr 1;omega,jI.out,Jt.out,zQ.out,dQ.out _ _⟩,by simp[intOf];omega⟩
       ·have pg:=ae (show ∀W,Calls Tryz.prog 94 #[.agg #[.int .i64 p0,.int .i64 p1,.int .i64 p2,.int .i64 p3],.agg #[.int .i64 q0,.int .i64 q1,.int .i64 q2,.int .i64 q3]] W fun r w'=>r=.returned (.bool false)/\Below W.heap.size W w' from fun W=>decide_eq_false hlt3▸fR ⟨p0,p1,p2,p3⟩ ⟨q0,q1,q2,q3⟩ W);go_wp2_with fail;refine wp_region_quiet_below (by kernel_rfl) (by kernel_rfl) ?_
        repeat(first|go_big_quiet_step ((go_at_call 94;with_reducible exact Calls.regrown_of (pg.out _))) |quiet_step ((go_at_call 94;with_reducible exact Calls.regrown_of (pg.out _))))
        refine wpQuiet_nil ?_;intro _ hw';obtain⟨⟨dqV,osV⟩,hw2⟩:=hw';subst hw2;have aO:=ae (below_regrown wr dqV osV);generalize Sort.grow (redrawn wr dqV) osV=V at aO⊢;have gf:=aO.out.size;clear a0 a1 a2 a3 b0 b1 b2 b3;go_wp2_with fail
        exact⟨⟨j+1,Fk,by omega,by go_num,kI.out,ju (r:=Iw) (k:=k) (fun x y z h1 h2=>Ky.not_lt_trans h2 h1) qL.out hk (fun x y _ h1 h2=>by
         rw[ib.out] at h1;rw[sF.out] at h2;injection h1 with h1
         injection h2 with h2
         subst h1 h2
         exact hlt3),o9.out.grow aO.out,gi.out.trans (aO.out.mono hzk)⟩,by simp[intOf];omega⟩
    ·obtain rfl:j=m:=by omega
     have d2:decide ((j:Int)<(j:Int))=false:=by simp
     go_wp2_with fail;go_ret;have h:=HST.out;rw[HM.out,<-Fj.out.length_eq] at h;have h2:=sm.out.perm (Fj.out.symm.map Te.tl);exact⟨⟨_,Fo,rfl,uy.out.tilesV,iP h2 (by rw[List.pairwise_map];exact gB h),h2⟩,HB2.out.trans (GN.out.mono HB2.out.size)⟩
open Go.RowKit
def ex (S:List Pt) (c:Int):Int:=if bQ S=true then(if dY 1 64 c=true then 0 else 2) else 70
structure vk (S:List Pt) (c:Int) (e:Int) (E:List Te):Prop where
 err:e=ex S c
 lay:ex S c=0->bE S c.toNat (E.map Te.tl)
 bad:ex S c≠0->E=[]
 pts:∀t∈E,t.pts.length<=1024
 len:E.length<=1024
theorem oB (W:World) (a:Option Addr) (c:Nat):cQ W (.slice a 0 c) []:=⟨⟨a,c,rfl,Or.inl rfl⟩,fun e he=>by simp at he⟩
theorem oH {S:List Pt} {c e:Int} (h:e=ex S c) (h0:e≠0):vk S c e []:=⟨h,fun h1=>absurd (h.trans h1) h0,fun _=>rfl,fun t ht=>by simp at ht,by simp⟩
theorem ss {S:List Pt} {c:Nat} {E:List Te} (hg:bQ S=true) (hc:1<=c/\c<=64) (h:bE S c (E.map Te.tl)):vk S (c:Int) 0 E:=by
 have h0:ex S c=0:=by
  unfold ex dY;rw[if_pos hg,if_pos (by simp;omega)]
 have hl:=h.lens (aW hg).2.2;exact⟨h0.symm,fun _=>by rw[Int.toNat_natCast];exact h,fun h1=>absurd h0 h1,hl.1,hl.2⟩
theorem ji (pv:Value) (S:List Pt) (c:Int) (w:World) (hp:cj w pv S) (hp0:ip pv):
 Calls Tryz.prog 41 #[pv,.int .i64 c] w fun r w'=>(∃v e E,r=.returned (.tuple #[v,.int .i64 e])/\cQ w' v E/\vk S c e E)/\Below w.heap.size w w':=by
 have HP:=ae hp;have Fv:=ae hp0
 cases hg:bQ S
 ·have HG:=ae hg;have HR:=ae (show 70=ex S c by unfold ex;rw[hg];rfl);clear hp hp0 hg;go_enter Tryz.func41,Tryz.ntmps41;go_wp2_with fail;refine(eD pv S w HP.out).mono ?_;rintro r w1 ⟨rfl,hb1⟩;rw[HG.out];go_wp2_with fail;go_ret2;exact⟨⟨_,_,[],rfl,oB _ _ _,oH HR.out (by decide)⟩,hb1⟩
 ·have HG:=ae hg;obtain⟨hS,hf,hl⟩:=aW hg;have HS:=ae hS;have HF:=ae hf;have HL:=ae hl
  cases hc:dY 1 64 c
  ·have HC:=ae hc;have HR:=ae (show 2=ex S c by unfold ex;rw[hg,hc];rfl);clear hp hp0 hg hc hS hf hl;go_enter Tryz.func41,Tryz.ntmps41;go_wp2_with fail;refine(eD pv S w HP.out).mono ?_;rintro r w1 ⟨rfl,hb1⟩;rw[HG.out];have HB1:=ae hb1;clear hb1;go_wp2_with fail;refine(aG _ _ _ _).mono ?_;rintro r w2 ⟨rfl,rfl⟩;rw[HC.out];go_wp2_with fail;go_ret2;exact⟨⟨_,_,[],rfl,oB _ _ _,oH HR.out (by decide)⟩,HB1.out⟩
  ·have HC:=ae hc;have hc2:1<=c/\c<=64:=by unfold dY at hc;simpa using hc
   obtain⟨c',rfl⟩:∃c':Nat,c=(c':Int):=⟨c.toNat,by omega⟩;have eS:=ae (show 1<=c'/\c'<=64 by omega);clear hp hp0 hg hc hS hf hl hc2;go_enter Tryz.func41,Tryz.ntmps41;go_wp2_with fail;refine(eD pv S w HP.out).mono ?_;rintro r w1 ⟨rfl,hb1⟩;rw[HG.out];have HB1:=ae hb1;clear hb1;go_wp2_with fail;refine(aG _ _ _ _).mono ?_;rintro r w2 ⟨rfl,rfl⟩;rw[HC.out];go_wp2_with fail;refine(BA pv S c' _ (HP.out.still HB1.out) Fv.out HS.out HF.out (by have:=HL.out;omega)).mono ?_;rintro r w3 ⟨⟨v,E,rfl,ht,hlay⟩,hb3⟩;have HT:=ae ht;have Mo:=ae hlay;have HB3:=ae (HB1.out.trans (hb3.mono HB1.out.size));clear ht hlay hb3;go_wp2_with fail;go_ret2;exact⟨⟨_,_,E,rfl,HT.out,ss HG.out eS.out Mo.out⟩,HB3.out⟩
end Go.Proofs.YtcclpdfmmdonpaaGreat
