/- The program's next (78): the body of the first record of bytes, and what is behind it. -/
import Derived.Test.YtcclpdfmmdonpaaGreatTArcM
namespace Go.Proofs.YtcclpdfmmdonpaaGreat
set_option maxRecDepth 100000
open Go.RowKit Go.WideShapes Go.ChangeAt Go.Maps Go.Sort
theorem wrap_i64 {z:Int} (h:0<=z/\z<9223372036854775808):IntKind.i64.wrap z=z:=by
 rw[IntKind.wrap_i64];omega
theorem FM {x0 x1 x2 x3:Int} (h0:0<=x0/\x0<256) (h1:0<=x1/\x1<256) (h2:0<=x2/\x2<256) (h3:0<=x3/\x3<256):
 bits .or .i64 (bits .or .i64 (bits .or .i64 (x0*16777216) (x1*65536)) (x2*256)) x3=x0*16777216+x1*65536+x2*256+x3:=by
 have hw:∀n:Int,0<=n->n<2 ^ 40->IntKind.i64.wrap n=n:=fun n h1 h2=>wrap_i64 (by omega)
 rw[bits_join .i64 40 (by decide) hw 24 (x0*16777216) (x1*65536) (by omega) (by omega) (by omega) (by omega) (by omega) (by omega)];rw[bits_join .i64 40 (by decide) hw 16 (x0*16777216+x1*65536) (x2*256) (by omega) (by omega) (by omega) (by omega) (by omega) (by omega)];rw[bits_join .i64 40 (by decide) hw 8 (x0*16777216+x1*65536+x2*256) x3 (by omega) (by omega) (by omega) (by omega) (by omega) (by omega)]
def DJ (w:World) (b off:Nat) (n:Nat):Prop:=w.cell? ⟨b,off,none⟩=some (.int .u8 (n/16777216%256:Nat))/\w.cell? ⟨b,off+1,none⟩=some (.int .u8 (n/65536%256:Nat))/\w.cell? ⟨b,off+2,none⟩=some (.int .u8 (n/256%256:Nat))/\w.cell? ⟨b,off+3,none⟩=some (.int .u8 (n%256:Nat))
theorem F0 (x:Int) (h:0<=x/\x<256):binOp .shl 3 (.int .i64 x) (.int .u64 24)=pure (.int .i64 (x*16777216)):=by
 rw[binOp_shl,shift_shl_any _ _ _ _ (by decide),show(2:Int) ^ min (24:Int).toNat IntKind.i64.bits=16777216 from rfl,wrap_i64 (by omega)]
theorem FO (x:Int) (h:0<=x/\x<256):binOp .shl 3 (.int .i64 x) (.int .u64 16)=pure (.int .i64 (x*65536)):=by
 rw[binOp_shl,shift_shl_any _ _ _ _ (by decide),show(2:Int) ^ min (16:Int).toNat IntKind.i64.bits=65536 from rfl,wrap_i64 (by omega)]
theorem Kx (x:Int) (h:0<=x/\x<256):binOp .shl 3 (.int .i64 x) (.int .u64 8)=pure (.int .i64 (x*256)):=by
 rw[binOp_shl,shift_shl_any _ _ _ _ (by decide),show(2:Int) ^ min (8:Int).toNat IntKind.i64.bits=256 from rfl,wrap_i64 (by omega)]
theorem vH (p:Option Addr) (n cap:Nat) (w:World) (hn:n<4):
 Calls Tryz.prog 78 #[.slice p n cap] w fun r w'=>r=.returned (.tuple #[.slice none 0 0,.slice none 0 0,.bool false])/\Below w.heap.size w w':=by
 have d1:decide ((n:Int)<4)=true:=decide_eq_true (by omega);go_enter Tryz.func78,Tryz.ntmps78;go_wp2_with fail
 go_ret3
 exact⟨rfl,Below.refl _ _⟩
theorem Bo (b off m cap n:Nat) (w:World) (hm:4<=m) (hn0:1<=n) (hn:n<=1000000) (hmn:m<n+8) (hc:DJ w b off n):
 Calls Tryz.prog 78 #[.slice (some ⟨b,off,none⟩) m cap] w fun r w'=>r=.returned (.tuple #[.slice none 0 0,.slice none 0 0,.bool false])/\Below w.heap.size w w':=by
 obtain⟨h0,h1,h2,h3⟩:=hc;obtain⟨x0,hx0⟩:∃x0:Int,x0=((n/16777216%256:Nat):Int):=⟨_,rfl⟩;obtain⟨x1,hx1⟩:∃x1:Int,x1=((n/65536%256:Nat):Int):=⟨_,rfl⟩;obtain⟨x2,hx2⟩:∃x2:Int,x2=((n/256%256:Nat):Int):=⟨_,rfl⟩;obtain⟨x3,hx3⟩:∃x3:Int,x3=((n%256:Nat):Int):=⟨_,rfl⟩;rw[<-hx0] at h0;rw[<-hx1] at h1;rw[<-hx2] at h2;rw[<-hx3] at h3;have e0:0<=x0/\x0<256:=by omega
 have e1:0<=x1/\x1<256:=by omega
 have e2:0<=x2/\x2<256:=by omega
 have e3:0<=x3/\x3<256:=by omega
 have uq:=ae (show bits .or .i64 (bits .or .i64 (bits .or .i64 (x0*16777216) (x1*65536)) (x2*256)) x3=(n:Int) by rw[FM e0 e1 e2 e3];omega);have s0:=F0 x0 e0;have s1:=FO x1 e1;have s2:=Kx x2 e2;clear hx0 hx1 hx2 hx3;have q0:=fun d os=>cell_regrown h0 d os
 have q1:=fun d os=>cell_regrown h1 d os
 have q2:=fun d os=>cell_regrown h2 d os
 have q3:=fun d os=>cell_regrown h3 d os
 have d1:decide ((m:Int)<4)=false:=decide_eq_false (by omega);have d2:decide ((n:Int)<1)=false:=decide_eq_false (by omega);have d3:decide ((m:Int)<4+(n:Int)+4)=true:=decide_eq_true (by omega);go_enter Tryz.func78,Tryz.ntmps78;go_wp2_with fail;refine wp_region_quiet_below (by kernel_rfl) (by kernel_rfl) ?_
 repeat(first|go_big_quiet_step (fail) |quiet_step (fail))
 refine wpQuiet_nil ?_;intro _ hw';obtain⟨⟨dqV,osV⟩,hw2⟩:=hw';subst hw2;have aO:=ae (below_regrown w dqV osV);generalize Sort.grow (redrawn w dqV) osV=V at aO⊢;have gf:=aO.out.size;rw[uq.out];clear s0 s1 s2 q0 q1 q2 q3 h0 h1 h2 h3;go_wp2_with fail
 go_ret3
 exact⟨rfl,aO.out⟩
theorem yo (b off m cap n k:Nat) (g:Nat->Nat) (w:World) (hn0:1<=n) (hn:n<=1000000) (hmn:m=n+8+k) (hcap:m<=cap) (hcm:cap<=9223372036854775807) (hc:DJ w b off n)
 (hb:cY w b off (n+4+4) g) (hg:∀i,g i<256) (hsum:(be (fun i=>g (n+4+i)) 4).toNat =nK g (n+4)):
 Calls Tryz.prog 78 #[.slice (some ⟨b,off,none⟩) m cap] w fun r w'=>(∃o,(o=off+(n+8)∨k=0)/\r=.returned (.tuple #[.slice (some ⟨b,off+4,none⟩) n (cap-4),.slice (some ⟨b,o,none⟩) k (cap-(n+8)),.bool true]))/\Below w.heap.size w w':=by
 have hbl:b<w.heap.size:=block_lt_of_cell (hb 0 (by omega));have Ih:=ae (fun W (h:Below w.heap.size w W)=>tH b off (n+4) cap g W (by omega) hcm hg (fun i hi=>by rw[h.cell hbl];exact hb i hi));rw[hsum,decide_eq_true rfl] at Ih;clear hb hsum hg;obtain⟨h0,h1,h2,h3⟩:=hc;obtain⟨x0,hx0⟩:∃x0:Int,x0=((n/16777216%256:Nat):Int):=⟨_,rfl⟩;obtain⟨x1,hx1⟩:∃x1:Int,x1=((n/65536%256:Nat):Int):=⟨_,rfl⟩;obtain⟨x2,hx2⟩:∃x2:Int,x2=((n/256%256:Nat):Int):=⟨_,rfl⟩;obtain⟨x3,hx3⟩:∃x3:Int,x3=((n%256:Nat):Int):=⟨_,rfl⟩;rw[<-hx0] at h0;rw[<-hx1] at h1;rw[<-hx2] at h2;rw[<-hx3] at h3;have e0:0<=x0/\x0<256:=by omega
 have e1:0<=x1/\x1<256:=by omega
 have e2:0<=x2/\x2<256:=by omega
 have e3:0<=x3/\x3<256:=by omega
 have uq:=ae (show bits .or .i64 (bits .or .i64 (bits .or .i64 (x0*16777216) (x1*65536)) (x2*256)) x3=(n:Int) by rw[FM e0 e1 e2 e3];omega);have s0:=F0 x0 e0;have s1:=FO x1 e1;have s2:=Kx x2 e2;clear hx0 hx1 hx2 hx3;have q0:=fun d os=>cell_regrown h0 d os
 have q1:=fun d os=>cell_regrown h1 d os
 have q2:=fun d os=>cell_regrown h2 d os
 have q3:=fun d os=>cell_regrown h3 d os
 have d1:decide ((m:Int)<4)=false:=decide_eq_false (by omega);have d2:decide ((n:Int)<1)=false:=decide_eq_false (by omega);have d3:decide ((m:Int)<4+(n:Int)+4)=false:=decide_eq_false (by omega);have HM:=ae hmn;clear hmn;have hmm:4+n+4<=m:=by have:=HM.out;omega
 go_enter Tryz.func78,Tryz.ntmps78;go_wp2_with fail;refine wp_region_quiet_below (by kernel_rfl) (by kernel_rfl) ?_
 repeat(first|go_big_quiet_step (fail) |quiet_step (fail))
 refine wpQuiet_nil ?_;intro _ hw';obtain⟨⟨dqV,osV⟩,hw2⟩:=hw';subst hw2;have aO:=ae (below_regrown w dqV osV);generalize Sort.grow (redrawn w dqV) osV=V at aO⊢;have gf:=aO.out.size;rw[uq.out];clear s0 s1 s2 q0 q1 q2 q3 h0 h1 h2 h3;go_wp2_with fail;rw[show 4+n+4=n+4+4 from by omega];refine(Ih.out V aO.out).mono ?_;rintro r w1 ⟨rfl,hb1⟩;have HB1:=ae (aO.out.trans (hb1.mono gf));clear hb1 Ih;have Nd:4<=n+4:=by omega
 have hnc:n+4<=cap:=by omega
 go_wp2_with fail;refine wp_region_quiet_below (by kernel_rfl) (by kernel_rfl) ?_
 repeat(first|go_big_quiet_step (fail) |quiet_step (fail))
 refine wpQuiet_nil ?_;intro _ hw';obtain⟨⟨dqU,osU⟩,hw2⟩:=hw';subst hw2;have ed:=ae (below_regrown w1 dqU osU);generalize Sort.grow (redrawn w1 dqU) osU=U at ed⊢;have wC:=ed.out.size;have CK:=ae (HB1.out.trans (ed.out.mono HB1.out.size));clear HB1;have hk:m-(4+n+4)=k:=by have:=HM.out;omega
 rw[hk];obtain⟨o,ho,hoe⟩:∃o,(o=off+(n+8)∨k=0)/\(if cap=4+n+4 then(some ⟨b,off,none⟩:Option Addr) else some ⟨b,off+(4+n+4),none⟩)=some ⟨b,o,none⟩:=by
  by_cases h:cap=4+n+4
  ·exact⟨off,.inr (by have:=HM.out;omega),if_pos h⟩
  ·exact⟨off+(4+n+4),.inl (by omega),if_neg h⟩
 rw[hoe];have HO:=ae ho;clear ho hoe hk;go_wp2_with fail
 go_ret3
 exact⟨⟨o,HO.out,by rw[show cap-(n+8)=cap-(4+n+4) by omega];rfl⟩,CK.out⟩
end Go.Proofs.YtcclpdfmmdonpaaGreat
