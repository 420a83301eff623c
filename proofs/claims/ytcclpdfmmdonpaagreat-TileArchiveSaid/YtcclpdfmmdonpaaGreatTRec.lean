/- The program's record (105): a body between its length and its checksum. -/
import Derived.Test.YtcclpdfmmdonpaaGreatTArcM
import Derived.Test.YtcclpdfmmdonpaaGreatTDsk
namespace Go.Proofs.YtcclpdfmmdonpaaGreat
open Go.RowKit Go.WideShapes Go.ChangeAt
theorem Mv {n:Nat} (h:n<=83100):(#[.int .u8 ((n:Int)/16777216),.int .u8 ((n:Int)/65536),.int .u8 ((n:Int)/256%256),.int .u8 ((n:Int)%256)]:Array Value)=(cg (bY n)).toArray :=by
 simp only[cg,bY,List.map_cons,List.map_nil];rw[show((n/16777216%256:Nat):Int)=(n:Int)/16777216 by omega,show((n/65536%256:Nat):Int)=(n:Int)/65536 by omega,show((n/256%256:Nat):Int)=(n:Int)/256%256 by omega,show((n%256:Nat):Int)=(n:Int)%256 by omega]
theorem vQ {W:World} {B g:Nat} {n:Nat} (h:W.heap[g]? =some (.cells (cg (bY n)).toArray 5)) (hB:B<=g):W.ownsRow B 5 1 (.slice (some ⟨g,0,none⟩) 4 4) 4 (cg (bY n)):=
 ⟨rfl,.inr ⟨g,4,_,rfl,hB,h,Nat.le_refl _,by unfold maxLen;omega,rfl,rfl⟩⟩
set_option maxRecDepth 100000 in
theorem kj (v:Value) (xs:List Nat) (w:World) (h:DR w v xs) (hp:0<xs.length) (hx:xs.length<=83100) (hg:∀x∈xs,x<256):
 Calls Tryz.prog 105 #[v] w fun r w'=>(∃v',r=.returned v'/\cm w' w.heap.size v' (dA xs))/\Below w.heap.size w w':=by
 rcases h with⟨rfl,rfl⟩ | ⟨ad,c,rfl,hc⟩
 ·cases hp
 have HC:=ae hc;obtain⟨n,hn⟩:∃n,n=xs.length:=⟨_,rfl⟩;rw[<-hn] at hp hx⊢;have HN:=ae hn;have HG:=ae hg;obtain⟨i0,hi,hz0,hz1,hz2⟩:=aF oi;have HI:=ae hi;have HZ0:=ae hz0;have HZ1:=ae hz1;have HZ2:=ae hz2;clear hn hc hg hi hz0 hz1 hz2;go_enter Tryz.func105,Tryz.ntmps105;go_upto_region 3 with fail;refine au (fun W1 hW1=>?_);rw[Mv hx] at hW1;have HR:=ae (show W1.heap[w.heap.size+1]? =some (.cells #[.slice (some ⟨w.heap.size,0,none⟩) 4 4] 185) by rw[hW1];exact(by repeat' (first| (refine ai _ _ _ ?_;(first|rfl| (simp;done) | (simp;omega))) | (refine am _ _ _ _ ?_))));have HOW:=ae (show W1.ownsRow w.heap.size 5 1 (.slice (some ⟨w.heap.size,0,none⟩) 4 4) 4 (cg (bY n)) from vQ (by rw[hW1];exact(by repeat' (first| (refine ai _ _ _ ?_;(first|rfl| (simp;done) | (simp;omega))) | (refine am _ _ _ _ ?_)))) (Nat.le_refl _));have HB1:=ae (show Below w.heap.size w W1 by rw[hW1];(focus ((repeat' (first| (with_reducible first|exact Below.refl _ _|assumption|refine Below.alloc ?_ ?_ _|refine Below.drew ?_ |refine below_drewN ?_ _|refine Below.setCell ?_ ?_ _|refine below_setRow ?_ ?_ _) |go_size));done)));have hs1:W1.heap.size=w.heap.size+2:=by rw[hW1];simp
 have gj:=ae (show ∀j u,(cg xs)[j]? =some u->W1.cell? (ad.add j)=some u from fun j u hu=>by
  have:=HC.out j u hu;rw[HB1.out.cell (block_lt_of_cell this)]
  exact this)
 clear hW1 HC;have c0:W1.cell? ⟨w.heap.size+1,0,none⟩=some (.slice (some ⟨w.heap.size,0,none⟩) 4 4):=af HR.out
 go_wp2_with (first| (at_builtin;go_loud (refine wpList_append_own_at _ rfl (.tmp 25) (.tmp 26) 63 rfl w.heap.size 5 i0 (.int .u8 0) 1 1 Tryz.underlying63 HI.out HZ0.out HZ1.out HZ2.out rfl (by decide) _ 4 (cg (bY n)) rfl HOW.out ad n c (cg xs) rfl (by simp[cg,<-HN.out]) gj.out (eO _) (by unfold maxLen;omega) (by omega) (by omega) ?_;intro v' w2 ho1 ho2 ho3 eR;clear ho3;obtain⟨a2,c2,e2⟩:=bt ho1;subst e2;have jD:=ae ho1;have mL:=ae (show ∀k,(Value.slice a2 (4+n) c2).ownBlock =some k->k≠w.heap.size+1 from fun k hk=>by(rcases eR with e|e;(rw[e] at hk;have h1:w.heap.size=k:=Option.some.inj hk;omega);(rw[e] at hk;have h1:=Option.some.inj hk;omega)));have KG:=ae ((ho2.block (w.heap.size+1) (by omega) (fun e=>by have h1:w.heap.size+1=w.heap.size:=Option.some.inj e;omega)).trans HR.out);have HB2:=ae (HB1.out.grown ho2 (by omega) (fun k hk=>by have h1:w.heap.size=k:=Option.some.inj hk;omega));have z0:w2.frozen? ⟨w.heap.size+1,0,none⟩=false:=(by have hh:=KG.out;simp[World.frozen?,hh]);have q1:w2.cell? ⟨w.heap.size+1,0,none⟩=some (.slice (some ⟨w.heap.size,0,none⟩) 4 4):=(af (j:=0) KG.out).trans rfl;clear ho1 ho2 eR c0)))
 have iQ:=ae (show(bY n++xs).length =4+n by rw[List.length_append,du,<-HN.out])
 have QQ:=ae (show pD w.heap.size (w2.setCell ⟨w.heap.size+1,0,none⟩ (.slice a2 (4+n) c2)) (w.heap.size+1) (bY n++xs) from by
  refine⟨by omega,_,heap_setCell KG.out _,?_,mL.out⟩;refine cm.same (cm.of ?_ (by rw[iQ.out];omega)) (fun g hg=>Below.heap_setCell w2 ⟨w.heap.size+1,0,none⟩ _ g (fun e=>mL.out g hg e));rw[iQ.out,show cg (bY n++xs)=cg (bY n)++cg xs by simp[cg]]
  exact jD.out)
 have HB3:=ae (show Below w.heap.size w (w2.setCell ⟨w.heap.size+1,0,none⟩ (.slice a2 (4+n) c2)) from HB2.out.setCell (Nat.le_succ _) _);generalize w2.setCell ⟨w.heap.size+1,0,none⟩ (.slice a2 (4+n) c2)=w3 at*;clear KG z0 q1 HB2 jD mL HR HOW;go_wp2_with fail;refine(A5 (w.heap.size+1) (bY n++xs) w3 QQ.out (by rw[iQ.out];omega) (by rw[iQ.out];omega) (dj (iY _) HG.out)).mono ?_;rintro r w4 ⟨rfl,hw4,hb4⟩;have bm:=ae (HB3.out.trans hb4);obtain⟨_,v4,hr4,eR,_⟩:=hw4;obtain⟨p4,n4,c4,rfl⟩:=eR.shape;have mL:=ae eR;have q4:w4.cell? ⟨w.heap.size+1,0,none⟩=some (.slice p4 n4 c4):=af hr4;clear hr4 eR hb4;go_wp2_with fail;go_ret;exact⟨⟨_,rfl,by have:=mL.out;rwa[HN.out] at this⟩,bm.out⟩
end Go.Proofs.YtcclpdfmmdonpaaGreat
