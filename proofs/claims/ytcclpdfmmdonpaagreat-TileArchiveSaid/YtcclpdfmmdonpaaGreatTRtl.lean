/- Texts of the seat Yteanlcefdoigcaa, turned to this one by wip/port.py: RTls. -/
import Derived.Test.YtcclpdfmmdonpaaGreatTTil
namespace Go.Proofs.YtcclpdfmmdonpaaGreat
set_option maxHeartbeats 6400000
set_option maxRecDepth 100000
open Go.ChangeShapes Go.WideShapes Go.RowKit Go.Maps Go.Sort
def jX (P:List Pt) (id:Int):Int:=match P.findIdx? (fun p=>p.id == id) with|some i=>(i:Int) |none=> -1
theorem Bn {P:List Pt} {id:Int} {i:Nat} {p:Pt} (hp:P[i]? =some p) (he:p.id=id) (hn:∀q∈P.take i,q.id≠id):jX P id=i:=by
 obtain⟨hi,rfl⟩:=List.getElem?_eq_some_iff.1 hp;have:P.findIdx? (fun p=>p.id == id)=some i:=by
  rw[List.findIdx?_eq_some_iff_getElem];refine⟨hi,beq_iff_eq.2 he,fun j hj=>?_⟩;rw[Bool.not_eq_true,beq_eq_false_iff_ne];exact hn _ (by rw[List.mem_iff_getElem?];exact⟨j,by rw[List.getElem?_take_of_lt hj];exact List.getElem?_eq_getElem (by omega)⟩)
 unfold jX;rw[this]
theorem qg {P:List Pt} {id:Int} (hn:∀q∈P,q.id≠id):jX P id= -1:=by
 have:P.findIdx? (fun p=>p.id == id)=none:=by
  rw[List.findIdx?_eq_none_iff];exact fun x hx=>beq_eq_false_iff_ne.2 (hn x hx)
 unfold jX;rw[this]
theorem im {P:List Pt} {id:Int} :jX P id<0↔∀q∈P,q.id≠id:=by
 constructor
 ·intro h q hq e;unfold jX at h
  cases hf:P.findIdx? (fun p=>p.id == id) with
  |some i=>rw[hf] at h;simp at h;omega
  |none=>
   rw[List.findIdx?_eq_none_iff] at hf;exact absurd e (by have:=hf q hq;simpa using this)
 ·intro h;rw[qg h];decide
theorem j9 (v:Value) (P:List Pt) (id:Int) (w:World) (hP:cj w v P) (hn:P.length<=maxLen):
 Calls Tryz.prog 87 #[v,.int .i64 id] w fun r w'=>r=.returned (.int .i64 (jX P id))/\Below w.heap.size w w':=by
 obtain⟨z,hz⟩:∃z,z=jX P id:=⟨_,rfl⟩;rw[<-hz];have HZ:=ae hz;obtain⟨a,cap,rfl,hpd⟩:=hP;obtain⟨n,hnl⟩:∃n,n=P.length:=⟨_,rfl⟩;rw[<-hnl] at hn⊢;have AT:n<=9223372036854775807:=by unfold maxLen at hn;omega
 have HN:=ae hnl;have vG:=ae hpd;clear hz hn hnl hpd;go_enter Tryz.func87,Tryz.ntmps87;go_wp2_with fail
 go_loopw [8] (fun iv W=>∃i:Nat,i<=n/\iv=.int .i64 (i:Int)/\(∀q∈P.take i,q.id≠id)/\Below w.heap.size w W) (fun iv _=>n-(intOf iv).toNat)
 case atStart=>exact⟨0,by omega,rfl,fun q hq=>by simp at hq,Below.refl _ _⟩
 case round=>
  obtain⟨i,hi,rfl,hne,hB⟩:=hrel;have qz:=ae hne;have HB:=ae hB;clear hne hB;by_cases hlt:i<n
  ·have d1:decide ((i:Int)<(n:Int))=true:=decide_eq_true (by omega);obtain⟨p,hp⟩:∃p,P[i]? =some p:=⟨_,List.getElem?_eq_getElem (by rw[<-HN.out];exact hlt)⟩;have Im:P≠[]:=fun h=>by rw[h] at hp;simp at hp
   obtain⟨b,off,rfl,hbw,hrows⟩:=vG.out.resolve_left Im;have c0:wr.cell? ⟨b,off+i*9,none⟩=some (.int .i64 p.id):=by
    rw[HB.out.cell (p:=⟨b,off+i*9,none⟩) hbw];exact(hrows i p.row (by rw[List.getElem?_map,hp];rfl) 0 (by decide)).trans rfl
   have pu:=ae hp;clear hp Im hbw hrows;by_cases he:p.id=id
   ·have HF:=ae (show z=(i:Int) by rw[HZ.out];exact Bn pu.out he qz.out);have db:(p.id == id)=true:=beq_iff_eq.2 he;clear he;go_wp2_with fail;go_ret;exact⟨by rw[HF.out];rfl,HB.out⟩
   ·have db:(p.id == id)=false:=beq_eq_false_iff_ne.2 he;have HT:=ae (aH pu.out);have HX:=ae he;clear he;go_wp2_with fail;refine⟨⟨i+1,by omega,by go_num,?_,HB.out⟩,by simp[intOf];omega⟩;rw[HT.out];intro q hq
    rcases List.mem_append.1 hq with g|g
    ·exact qz.out q g
    ·obtain rfl:=List.mem_singleton.1 g;exact HX.out
  ·obtain rfl:i=n:=by omega
   have d1:decide ((i:Int)<(i:Int))=false:=by simp
   have HF:=ae (show z= -1 by rw[HZ.out];exact qg (by have:=qz.out;rwa[HN.out,List.take_length] at this));go_wp2_with fail;go_ret;exact⟨by rw[HF.out];rfl,HB.out⟩
theorem rU (v:Value) (E:List Te) (w:World) (hT:cQ w v E) (hl:E.length<=1000000) (hp:∀e∈E,e.pts.length<=maxLen):
 Calls Tryz.prog 73 #[v] w fun r w'=>r=.returned (.bool (decide (cd (E.map Te.tl))))/\Below w.heap.size w w':=by
 obtain⟨gv,hgv⟩:∃gv,gv=decide (cd (E.map Te.tl)):=⟨_,rfl⟩;rw[<-hgv];have gL:=ae (fun h:¬cd (E.map Te.tl)=>show gv=false by rw[hgv];exact decide_eq_false h);have gP:=ae (fun h:cd (E.map Te.tl)=>show gv=true by rw[hgv];exact decide_eq_true h);clear hgv;obtain⟨⟨a,cap,rfl,hrow⟩,hpv⟩:=hT;obtain⟨n,hnl⟩:∃n,n=E.length:=⟨_,rfl⟩;rw[<-hnl] at hl⊢;have HN:=ae hnl;have Nu:=ae hrow;have Jb:=ae hpv;have FL:=ae hp;clear hnl hrow hpv hp;go_enter Tryz.func73,Tryz.ntmps73;go_wp2_with fail
 go_loopw [9] (fun iv W=>∃i:Nat,i<=n/\iv=.int .i64 (i:Int)/\cd ((E.map Te.tl).take i)/\Below w.heap.size w W) (fun iv _=>n-(intOf iv).toNat)
 case atStart=>exact⟨0,by omega,rfl,cd.nil,Below.refl _ _⟩
 case round=>
  obtain⟨i,hi,rfl,hok,hB⟩:=hrel;have fz:=ae hok;have bm:=ae hB;have fT:=hB.size;clear hok hB;by_cases hlt:i<n
  ·have d1:decide ((i:Int)<(n:Int))=true:=decide_eq_true (by omega);obtain⟨e,he⟩:∃e,E[i]? =some e:=⟨_,List.getElem?_eq_getElem (by rw[<-HN.out];exact hlt)⟩;have uw:=ae (show(E.map Te.tl)[i]? =some e.tl by rw[List.getElem?_map,he];rfl);have Ob:E≠[]:=fun h=>by rw[h] at he;simp at he
   obtain⟨b,off,rfl,hbw,hrows⟩:=Nu.out.resolve_left Ob;have HRW:=ae hrows;have aA:=ae hbw;have hpe:=Jb.out e (List.mem_of_getElem? he);have rJ:=ae (FL.out e (List.mem_of_getElem? he));have hcs:∀j,j<5->wr.cell? ⟨b,off+i*5+j,none⟩=e.row[j]? :=fun j hj=>by
    rw[bm.out.cell hbw,hrows i e.row (by rw[List.getElem?_map,he];rfl) j hj]
   clear he Ob hrows hbw;obtain⟨⟨k0,k1,k2,k3⟩,ev,P⟩:=e;obtain⟨ea,ec,hev,hpd⟩:=hpe;obtain rfl:ev=.slice ea P.length ec:=hev;have JK:=ae (show cj w (.slice ea P.length ec) P from⟨ea,ec,rfl,hpd⟩);have vG:=ae hpd;have Mr:=ae (show P.length<=maxLen from rJ.out);clear hpd rJ;obtain⟨m,hm⟩:∃m,m=P.length:=⟨_,rfl⟩;simp only[Te.row,Ky.row,<-hm] at hcs;simp only[<-hm] at JK;have uO:=ae hm;have rJ:=Mr;clear hm;have T0:=fun d os=>cell_regrown (show wr.cell? ⟨b,off+i*5,none⟩=some (.int .i64 k0) from hcs 0 (by decide)) d os
   have T1:=fun d os=>cell_regrown (show wr.cell? ⟨b,off+i*5+1,none⟩=some (.int .i64 k1) from hcs 1 (by decide)) d os
   have T2:=fun d os=>cell_regrown (show wr.cell? ⟨b,off+i*5+2,none⟩=some (.int .i64 k2) from hcs 2 (by decide)) d os
   have T3:=fun d os=>cell_regrown (show wr.cell? ⟨b,off+i*5+3,none⟩=some (.int .i64 k3) from hcs 3 (by decide)) d os
   have T4:=fun d os=>cell_regrown (show wr.cell? ⟨b,off+i*5+4,none⟩=some (.slice ea m ec) from hcs 4 (by decide)) d os
   have Lu:=ae (hcs 0 (by decide));have gj:=ae (hcs 1 (by decide));have eS:=ae (hcs 2 (by decide));have qb:=ae (hcs 3 (by decide));have JE:=ae (hcs 4 (by decide));clear hcs;have o4:=ae (JK.out.still bm.out);have pB:=ae (fun(W:World)=>ke (ce.refl W))
   cases htb:decide (hZ ⟨⟨k0,k1,k2,k3⟩,P⟩)
   ·have HF:=ae (gL.out (cd.not_ok uw.out (of_decide_eq_false htb)));have zP:=ae (fun d os=>(show Calls Tryz.prog 96 #[.agg #[.int .i64 k0,.int .i64 k1,.int .i64 k2,.int .i64 k3,.slice ea m ec]] (grow (redrawn wr d) os) fun r w'=>r=.returned (.bool false)/\Below (grow (redrawn wr d) os).heap.size (grow (redrawn wr d) os) w' from htb▸pH ⟨k0,k1,k2,k3⟩ (.slice ea m ec) P (grow (redrawn wr d) os) (o4.out.still (below_regrown wr d os)) rJ.out));clear htb;go_wp2_with fail;refine wp_region_quiet_below (by kernel_rfl) (by kernel_rfl) ?_
    repeat(first|go_big_quiet_step ((first| (go_at_call 94;with_reducible exact Calls.regrown_of (pB.out _)) | (go_at_call 96;with_reducible exact Calls.regrown_of (zP.out _ _)))) |quiet_step ((first| (go_at_call 94;with_reducible exact Calls.regrown_of (pB.out _)) | (go_at_call 96;with_reducible exact Calls.regrown_of (zP.out _ _)))))
    refine wpQuiet_nil ?_;intro _ hw';obtain⟨⟨dqV,osV⟩,hw2⟩:=hw';subst hw2;have aO:=ae (below_regrown wr dqV osV);generalize Sort.grow (redrawn wr dqV) osV=V at aO⊢;have gf:=aO.out.size;clear T0 T1 T2 T3 T4;go_wp2_with fail;go_ret;exact⟨by rw[HF.out];rfl,bm.out.trans (aO.out.mono bm.out.size)⟩
   ·have DP:=ae (of_decide_eq_true htb);have zP:=ae (fun d os=>(show Calls Tryz.prog 96 #[.agg #[.int .i64 k0,.int .i64 k1,.int .i64 k2,.int .i64 k3,.slice ea m ec]] (grow (redrawn wr d) os) fun r w'=>r=.returned (.bool true)/\Below (grow (redrawn wr d) os).heap.size (grow (redrawn wr d) os) w' from htb▸pH ⟨k0,k1,k2,k3⟩ (.slice ea m ec) P (grow (redrawn wr d) os) (o4.out.still (below_regrown wr d os)) rJ.out));clear htb pB;by_cases hi0:i=0
    ·subst hi0;have lm:=ae (fun(a:Tl) (h:0<0) (_:(E.map Te.tl)[0-1]? =some a)=>show a.key.lt ⟨k0,k1,k2,k3⟩ from absurd h (by omega));have eC:=ae (cd.next fz.out uw.out DP.out lm.out (fun j a hj=>absurd hj (by omega)));have pB:=ae (fun(W:World)=>ke (ce.refl W));have S0:=fun d os=>cell_regrown (show wr.cell? ⟨b,off,none⟩=some (.int .i64 k0) by have:=Lu.out;rwa[Nat.zero_mul,Nat.add_zero] at this) d os
     have S1:=fun d os=>cell_regrown (show wr.cell? ⟨b,off+1,none⟩=some (.int .i64 k1) by have:=gj.out;rwa[Nat.zero_mul,Nat.add_zero] at this) d os
     have S2:=fun d os=>cell_regrown (show wr.cell? ⟨b,off+2,none⟩=some (.int .i64 k2) by have:=eS.out;rwa[Nat.zero_mul,Nat.add_zero] at this) d os
     have S3:=fun d os=>cell_regrown (show wr.cell? ⟨b,off+3,none⟩=some (.int .i64 k3) by have:=qb.out;rwa[Nat.zero_mul,Nat.add_zero] at this) d os
     have S4:=fun d os=>cell_regrown (show wr.cell? ⟨b,off+4,none⟩=some (.slice ea m ec) by have:=JE.out;rwa[Nat.zero_mul,Nat.add_zero] at this) d os
     clear T0 T1 T2 T3 T4;go_wp2_with fail;refine wp_region_quiet_below (by kernel_rfl) (by kernel_rfl) ?_
     repeat(first|go_big_quiet_step ((first| (go_at_call 94;with_reducible exact Calls.regrown_of (pB.out _)) | (go_at_call 96;with_reducible exact Calls.regrown_of (zP.out _ _)))) |quiet_step ((first| (go_at_call 94;with_reducible exact Calls.regrown_of (pB.out _)) | (go_at_call 96;with_reducible exact Calls.regrown_of (zP.out _ _)))))
     refine wpQuiet_nil ?_;intro _ hw';obtain⟨⟨dqV,osV⟩,hw2⟩:=hw';subst hw2;have aO:=ae (below_regrown wr dqV osV);generalize Sort.grow (redrawn wr dqV) osV=V at aO⊢;have gf:=aO.out.size;clear S0 S1 S2 S3 S4;have cr:=ae (bm.out.trans (aO.out.mono fT));go_wp2_with fail;refine wp_loop_rounds 1 ?_;rw[rounds_succ];go_wp2_with fail;exact⟨⟨1,by omega,by go_num,eC.out,cr.out⟩,by simp[intOf];omega⟩
    ·obtain⟨e,he⟩:∃e,E[i-1]? =some e:=⟨_,List.getElem?_eq_getElem (by rw[<-HN.out];omega)⟩;have OH:=ae (show(E.map Te.tl)[i-1]? =some e.tl by rw[List.getElem?_map,he];rfl);have hes:∀j,j<5->wr.cell? ⟨b,off+(i-1)*5+j,none⟩=e.row[j]? :=fun j hj=>by
      rw[bm.out.cell aA.out,HRW.out (i-1) e.row (by rw[List.getElem?_map,he];rfl) j hj]
     clear he;obtain⟨⟨e0,e1,e2,e3⟩,qv,qp⟩:=e;simp only[Te.row,Ky.row] at hes;have b0:=fun d os=>cell_regrown (show wr.cell? ⟨b,off+(i-1)*5,none⟩=some (.int .i64 e0) from hes 0 (by decide)) d os
     have b1:=fun d os=>cell_regrown (show wr.cell? ⟨b,off+(i-1)*5+1,none⟩=some (.int .i64 e1) from hes 1 (by decide)) d os
     have b2:=fun d os=>cell_regrown (show wr.cell? ⟨b,off+(i-1)*5+2,none⟩=some (.int .i64 e2) from hes 2 (by decide)) d os
     have b3:=fun d os=>cell_regrown (show wr.cell? ⟨b,off+(i-1)*5+3,none⟩=some (.int .i64 e3) from hes 3 (by decide)) d os
     clear hes;have dg:decide ((0:Int)<(i:Int))=true:=decide_eq_true (by omega);have dg2:0<i:=by omega
     by_cases hlt2:(⟨e0,e1,e2,e3⟩:Ky).lt ⟨k0,k1,k2,k3⟩
     ·have pB:=ae (show ∀W,Calls Tryz.prog 94 #[.agg #[.int .i64 e0,.int .i64 e1,.int .i64 e2,.int .i64 e3],.agg #[.int .i64 k0,.int .i64 k1,.int .i64 k2,.int .i64 k3]] W fun r w'=>r=.returned (.bool true)/\Below W.heap.size W w' from fun W=>decide_eq_true hlt2▸fR ⟨e0,e1,e2,e3⟩ ⟨k0,k1,k2,k3⟩ W);have lm:=ae (fun(a:Tl) (_:0<i) (ha:(E.map Te.tl)[i-1]? =some a)=>show a.key.lt ⟨k0,k1,k2,k3⟩ from(Option.some.inj (OH.out.symm.trans ha))▸hlt2);clear hlt2;go_wp2_with fail;refine wp_region_quiet_below (by kernel_rfl) (by kernel_rfl) ?_
      repeat(first|go_big_quiet_step ((first| (go_at_call 94;with_reducible exact Calls.regrown_of (pB.out _)) | (go_at_call 96;with_reducible exact Calls.regrown_of (zP.out _ _)))) |quiet_step ((first| (go_at_call 94;with_reducible exact Calls.regrown_of (pB.out _)) | (go_at_call 96;with_reducible exact Calls.regrown_of (zP.out _ _)))))
      refine wpQuiet_nil ?_;intro _ hw';obtain⟨⟨dqV,osV⟩,hw2⟩:=hw';subst hw2;have aO:=ae (below_regrown wr dqV osV);generalize Sort.grow (redrawn wr dqV) osV=V at aO⊢;have gf:=aO.out.size;clear T0 T1 T2 T3 T4;clear b0 b1 b2 b3;have cr:=ae (bm.out.trans (aO.out.mono fT));obtain⟨pb,po,rfl,hpb,hpr⟩:=vG.out.resolve_left DP.out.ne;have Iv:=ae hpr;have xN:=ae hpb;have Nm:m<=1024:=by rw[uO.out];exact(aW DP.out.good).2.2
      clear hpr hpb;have zP:=ae (JE.out.symm);clear JE Lu gj eS qb;have JE:=ae (show w.cell? ⟨b,off+i*5+4,none⟩=some (.slice (some ⟨pb,po,none⟩) m ec) by rw[<-bm.out.cell aA.out];exact zP.out.symm);clear zP;go_wp2_with fail
      go_loopw [4] (fun kv W=>∃k:Nat,k<=i/\kv=.int .i64 (k:Int)/\(∀j a,j<k->(E.map Te.tl)[j]? =some a->∀p∈a.pts,∀q∈P,p.id≠q.id)/\Below w.heap.size w W) (fun kv _=>i-(intOf kv).toNat)
      case atStart=>exact⟨0,by omega,rfl,fun j a hj=>absurd hj (by omega),cr.out⟩
      case round=>
       obtain⟨k,hk,rfl,hap,hB⟩:=hrel;have sS:=ae hap;have dD:=ae hB;clear hap hB;by_cases hki:k<i
       ·have d2:decide ((k:Int)<(i:Int))=true:=decide_eq_true (by omega);obtain⟨f,hf⟩:∃f,E[k]? =some f:=⟨_,List.getElem?_eq_getElem (by rw[<-HN.out];omega)⟩;have Ek:=ae (show(E.map Te.tl)[k]? =some f.tl by rw[List.getElem?_map,hf];rfl);have hpf:=Jb.out f (List.mem_of_getElem? hf);have FU:=ae (FL.out f (List.mem_of_getElem? hf));have uL:w.cell? ⟨b,off+k*5+4,none⟩=some f.v:=HRW.out k f.row (by rw[List.getElem?_map,hf];rfl) 4 (by decide);have Dx:=ae hpf;obtain⟨fa,fc,hfv,_⟩:=hpf;rw[hfv] at uL Dx;have NV:=ae uL;clear uL hf;have c4:wr.cell? ⟨b,off+i*5+4,none⟩=some (.slice (some ⟨pb,po,none⟩) m ec):=by rw[dD.out.cell aA.out];exact JE.out
        obtain⟨fm,hfm⟩:∃fm,fm=f.pts.length:=⟨_,rfl⟩;rw[<-hfm] at NV Dx;clear hfm hfv;go_wp2_with fail;clear c4
        go_loopw [48] (fun jv W=>∃j:Nat,j<=m/\jv=.int .i64 (j:Int)/\(∀p∈f.pts,∀q∈P.take j,p.id≠q.id)/\Below w.heap.size w W) (fun jv _=>m-(intOf jv).toNat)
        case atStart=>exact⟨0,by omega,rfl,fun p _ q hq=>by simp at hq,dD.out⟩
        case round=>
         obtain⟨j,hj,rfl,haq,hB⟩:=hrel;have Om:=ae haq;have ij:=ae hB;have EU:=hB.size;clear haq hB;by_cases hjm:j<m
         ·have d3:decide ((j:Int)<(m:Int))=true:=decide_eq_true (by omega);obtain⟨p,hp⟩:∃p,P[j]? =some p:=⟨_,List.getElem?_eq_getElem (by rw[<-uO.out];exact hjm)⟩;have hcs:∀q,q<9->wr.cell? ⟨pb,po+j*9+q,none⟩=some (.int .i64 (p.f q)):=fun q hq=>by
           rw[ij.out.cell xN.out,Iv.out j p.row (by rw[List.getElem?_map,hp];rfl) q hq,Pt.row_at p q hq]
          have pu:=ae hp;clear hp;obtain⟨p0,p1,p2,p3,p4,p5,p6,p7,p8⟩:=p;have a0:wr.cell? ⟨pb,po+j*9,none⟩=some (.int .i64 p0):=hcs 0 (by decide);have a1:wr.cell? ⟨pb,po+j*9+1,none⟩=some (.int .i64 p1):=hcs 1 (by decide);have a2:wr.cell? ⟨pb,po+j*9+2,none⟩=some (.int .i64 p2):=hcs 2 (by decide);have a3:wr.cell? ⟨pb,po+j*9+3,none⟩=some (.int .i64 p3):=hcs 3 (by decide);have a4:wr.cell? ⟨pb,po+j*9+4,none⟩=some (.int .i64 p4):=hcs 4 (by decide);have a5:wr.cell? ⟨pb,po+j*9+5,none⟩=some (.int .i64 p5):=hcs 5 (by decide);have a6:wr.cell? ⟨pb,po+j*9+6,none⟩=some (.int .i64 p6):=hcs 6 (by decide);have a7:wr.cell? ⟨pb,po+j*9+7,none⟩=some (.int .i64 p7):=hcs 7 (by decide);have a8:wr.cell? ⟨pb,po+j*9+8,none⟩=some (.int .i64 p8):=hcs 8 (by decide);clear hcs;go_upto_region 12 with fail;refine au (fun W7 o7=>?_);have mm:=ae (show W7.heap[wr.heap.size]? =some (.cells #[.int .i64 p0,.int .i64 p1,.int .i64 p2,.int .i64 p3,.int .i64 p4,.int .i64 p5,.int .i64 p6,.int .i64 p7,.int .i64 p8] 106) by rw[o7];exact ai _ _ _ rfl);have cU:=ae (show Below w.heap.size w W7 by rw[o7];exact ij.out.alloc EU _);clear o7 a0 a1 a2 a3 a4 a5 a6 a7 a8;obtain⟨g,hg⟩:∃g,g=wr.heap.size:=⟨_,rfl⟩;rw[<-hg] at mm⊢;clear hg;have c0:=fun d os=>cell_regrown (show W7.cell? ⟨g,0,none⟩=some (.int .i64 p0) from(af (j:=0) mm.out).trans rfl) d os
          have c4:=fun d os=>cell_regrown (show W7.cell? ⟨b,off+k*5+4,none⟩=some (.slice fa fm fc) by rw[cU.out.cell aA.out];exact NV.out) d os
          obtain⟨z,hz⟩:∃z,z=jX f.pts p0:=⟨_,rfl⟩;have Q5:=ae (Dx.out.still cU.out);have CZ:=ae (fun d os=>(show Calls Tryz.prog 87 #[.slice fa fm fc,.int .i64 p0] (grow (redrawn W7 d) os) fun r w'=>r=.returned (.int .i64 z)/\Below (grow (redrawn W7 d) os).heap.size (grow (redrawn W7 d) os) w' from hz▸j9 (.slice fa fm fc) f.pts p0 (grow (redrawn W7 d) os) (Q5.out.still (below_regrown W7 d os)) FU.out));have HZ:=ae hz;clear hz;by_cases hz0:0<=z
          ·have dz:decide (0<=z)=true:=decide_eq_true hz0
           have HF:=ae (gL.out (by
            have h1:¬ ∀q∈f.pts,q.id≠p0:=fun h=>by
             have h2:=im.2 h;rw[<-HZ.out] at h2;omega
            obtain⟨q,h2⟩:=Classical.not_forall.1 h1;obtain⟨h3,h4⟩:=Classical.not_imp.1 h2
            exact cd.not_apart hki Ek.out uw.out h3 (List.mem_of_getElem? pu.out) (Classical.not_not.1 h4)))
           go_wp2_with fail;refine wp_region_quiet_below (by kernel_rfl) (by kernel_rfl) ?_
           repeat(first|go_big_quiet_step ((go_at_call 87;with_reducible exact Calls.regrown_of (CZ.out _ _))) |quiet_step ((go_at_call 87;with_reducible exact Calls.regrown_of (CZ.out _ _))))
           refine wpQuiet_nil ?_;intro _ hw';obtain⟨⟨dqU,osU⟩,hw2⟩:=hw';subst hw2;have ed:=ae (below_regrown W7 dqU osU);generalize Sort.grow (redrawn W7 dqU) osU=U at ed⊢;have wC:=ed.out.size;clear c0 c4;go_wp2_with fail;go_ret;exact⟨by rw[HF.out];rfl,cU.out.trans (ed.out.mono cU.out.size)⟩
          ·have dz:decide (0<=z)=false:=decide_eq_false hz0
           have Dp:=ae (show ∀p∈f.pts,∀q∈P.take (j+1),p.id≠q.id by
            have h1:=im.1 (show jX f.pts p0<0 by rw[<-HZ.out];omega);rw[aH pu.out];intro p hp q hq
            rcases List.mem_append.1 hq with g1|g1
            ·exact Om.out p hp q g1
            ·obtain rfl:=List.mem_singleton.1 g1
             exact h1 p hp)
           go_wp2_with fail;refine wp_region_quiet_below (by kernel_rfl) (by kernel_rfl) ?_
           repeat(first|go_big_quiet_step ((go_at_call 87;with_reducible exact Calls.regrown_of (CZ.out _ _))) |quiet_step ((go_at_call 87;with_reducible exact Calls.regrown_of (CZ.out _ _))))
           refine wpQuiet_nil ?_;intro _ hw';obtain⟨⟨dqU,osU⟩,hw2⟩:=hw';subst hw2;have ed:=ae (below_regrown W7 dqU osU);generalize Sort.grow (redrawn W7 dqU) osU=U at ed⊢;have wC:=ed.out.size;clear c0 c4;have CK:=ae (cU.out.trans (ed.out.mono cU.out.size));go_wp2_with fail;exact⟨⟨j+1,by omega,by go_num,Dp.out,CK.out⟩,by simp[intOf];omega⟩
         ·obtain rfl:j=m:=by omega
          have d3:decide ((j:Int)<(j:Int))=false:=by simp
          have Dp:=ae (show ∀l a,l<k+1->(E.map Te.tl)[l]? =some a->∀p∈a.pts,∀q∈P,p.id≠q.id by
           intro l a hl ha;by_cases hlk:l=k
           ·subst hlk;obtain rfl:=Option.some.inj (Ek.out.symm.trans ha);have:=Om.out;rw[uO.out,List.take_length] at this;exact this
           ·exact sS.out l a (by omega) ha)
          go_wp2_with fail;exact⟨⟨k+1,by omega,by go_num,Dp.out,ij.out⟩,by simp[intOf];omega⟩
       ·obtain rfl:k=i:=by omega
        have d2:decide ((k:Int)<(k:Int))=false:=by simp
        have eC:=ae (cd.next fz.out uw.out DP.out (fun a h ha=>lm.out a h ha) sS.out);go_wp2_with fail;exact⟨⟨k+1,by omega,by go_num,eC.out,dD.out⟩,by simp[intOf];omega⟩
     ·have pB:=ae (show ∀W,Calls Tryz.prog 94 #[.agg #[.int .i64 e0,.int .i64 e1,.int .i64 e2,.int .i64 e3],.agg #[.int .i64 k0,.int .i64 k1,.int .i64 k2,.int .i64 k3]] W fun r w'=>r=.returned (.bool false)/\Below W.heap.size W w' from fun W=>decide_eq_false hlt2▸fR ⟨e0,e1,e2,e3⟩ ⟨k0,k1,k2,k3⟩ W);have HF:=ae (gL.out (cd.not_order dg2 OH.out uw.out hlt2));clear hlt2;go_wp2_with fail;refine wp_region_quiet_below (by kernel_rfl) (by kernel_rfl) ?_
      repeat(first|go_big_quiet_step ((first| (go_at_call 94;with_reducible exact Calls.regrown_of (pB.out _)) | (go_at_call 96;with_reducible exact Calls.regrown_of (zP.out _ _)))) |quiet_step ((first| (go_at_call 94;with_reducible exact Calls.regrown_of (pB.out _)) | (go_at_call 96;with_reducible exact Calls.regrown_of (zP.out _ _)))))
      refine wpQuiet_nil ?_;intro _ hw';obtain⟨⟨dqV,osV⟩,hw2⟩:=hw';subst hw2;have aO:=ae (below_regrown wr dqV osV);generalize Sort.grow (redrawn wr dqV) osV=V at aO⊢;have gf:=aO.out.size;clear T0 T1 T2 T3 T4;clear b0 b1 b2 b3;go_wp2_with fail;go_ret;exact⟨by rw[HF.out];rfl,bm.out.trans (aO.out.mono bm.out.size)⟩
  ·obtain rfl:i=n:=by omega
   have d1:decide ((i:Int)<(i:Int))=false:=by simp
   have HF:=ae (gP.out (by have:=fz.out;rwa[HN.out,List.take_of_length_le (by rw[List.length_map];exact Nat.le_refl _)] at this));go_wp2_with fail;go_ret;exact⟨by rw[HF.out];rfl,bm.out⟩
end Go.Proofs.YtcclpdfmmdonpaaGreat
