/- Texts of the seat Yteanlcefdoigcaa, turned to this one by wip/port.py: CrcM CrcX. -/
import Derived.Test.YtcclpdfmmdonpaaGreatTNum
namespace Go.Proofs.YtcclpdfmmdonpaaGreat
def Ay:BitVec 32:=0xedb88320#32
def CQ (c:BitVec 32):BitVec 32:=if c.getLsbD 0=true then(c >>>1) ^^^ Ay else c >>>1
def mr:Nat->BitVec 32->BitVec 32
 |0,c=>c
 |k+1,c=>CQ (mr k c)
def Ae (c:BitVec 32) (x:Nat):BitVec 32:=mr 8 (c ^^^ BitVec.ofNat 32 x)
def eP (g:Nat->Nat):Nat->BitVec 32
 |0=>0xffffffff#32
 |n+1=>Ae (eP g n) (g n)
theorem lj {g h:Nat->Nat} :∀n,(∀i,i<n->g i=h i)->eP g n=eP h n
 |0,_=>rfl
 |n+1,e=>by
  show Ae (eP g n) (g n)=Ae (eP h n) (h n);rw[lj n (fun i hi=>e i (by omega)),e n (by omega)]
open Go.RowKit
def nK (g:Nat->Nat) (n:Nat):Nat:=(~~~(eP g n)).toNat
theorem A8 (c:BitVec 32):bits .xor .u32 IntKind.u32.max (c.toNat:Int)=((~~~c).toNat :Int):=by
 have h:=u32_xor_nat 4294967295 c.toNat (by omega) c.isLt;rw[show bits .xor .u32 IntKind.u32.max (c.toNat:Int)=((4294967295 ^^^ c.toNat:Nat):Int) from h,BitVec.not_def,BitVec.toNat_xor,BitVec.toNat_allOnes]
theorem Eb (c:BitVec 32):(bits .and .u32 (c.toNat:Int) 1 == 1)=c.getLsbD 0:=by
 have h:=u32_and_nat c.toNat 1 c.isLt (by omega);rw[show bits .and .u32 (c.toNat:Int) 1=((c.toNat &&& 1:Nat):Int) from h,Nat.and_one_is_mod,BitVec.getLsbD,Nat.testBit_zero,Bool.eq_iff_iff,beq_iff_eq,decide_eq_true_eq];omega
theorem Ci (c:BitVec 32):bits .xor .u32 ((c.toNat:Int)/(2:Int)) 3988292384=(((c >>>1) ^^^ Ay).toNat :Int):=by
 have hc:=c.isLt;have h:=u32_xor_nat (c.toNat/2) 3988292384 (by omega) (by omega);rw[show bits .xor .u32 ((c.toNat:Int)/(2:Int)) 3988292384=((c.toNat/2 ^^^ 3988292384:Nat):Int) from h,BitVec.toNat_xor,BitVec.toNat_ushiftRight,Nat.shiftRight_eq_div_pow];rfl
theorem yU (c:BitVec 32):(c.toNat:Int)/(2:Int)=((c >>>1).toNat :Int):=by
 have h:(c >>>1).toNat =c.toNat/2:=by rw[BitVec.toNat_ushiftRight,Nat.shiftRight_eq_div_pow]
 rw[h];omega
theorem Be (c:BitVec 32) (x:Nat) (hx:x<256):bits .xor .u32 (c.toNat:Int) ((x:Int)%4294967296)=((c ^^^ BitVec.ofNat 32 x).toNat :Int):=by
 have h:=u32_xor_nat c.toNat x c.isLt (by omega);rw[show(x:Int)%4294967296=(x:Int) by omega,show bits .xor .u32 (c.toNat:Int) (x:Int)=((c.toNat ^^^ x:Nat):Int) from h,BitVec.toNat_xor,BitVec.toNat_ofNat,Nat.mod_eq_of_lt (by omega)]
set_option maxRecDepth 100000 in
set_option maxHeartbeats 800000 in
theorem tK (b off n cap:Nat) (g:Nat->Nat) (w:World) (hn:n<=9223372036854775807) (hg:∀i,g i<256) (hc:cY w b off n g):
 Calls Tryz.prog 136 #[.slice (some ⟨b,off,none⟩) n cap] w fun r w'=>r=.returned (.int .u32 (nK g n:Int))/\w=w':=by
 have HG:=ae hg;have HC:=ae hc;clear hg hc;go_enter Tryz.func136,Tryz.ntmps136;go_wp2_with fail
 go_loopw [3,8] (fun cv iv W=>∃i:Nat,i<=n/\iv=.int .i64 (i:Int)/\cv=.int .u32 ((eP g i).toNat :Int)/\w=W) (fun _ iv _=>n-(intOf iv).toNat)
 case atStart=>exact⟨0,by omega,rfl,rfl,rfl⟩
 case round=>
  obtain⟨i,hi,rfl,rfl,rfl⟩:=hrel;by_cases hlt:i<n
  ·have d1:decide ((i:Int)<(n:Int))=true:=decide_eq_true (by omega);have c0:w.cell? ⟨b,off+i,none⟩=some (.int .u8 (g i:Nat)):=HC.out i hlt;go_wp2_with fail
   go_loopw [3,16] (fun cv kv W=>∃k:Nat,k<=8/\kv=.int .i64 (k:Int)/\cv=.int .u32 ((mr k (eP g i ^^^ BitVec.ofNat 32 (g i))).toNat :Int)/\w=W) (fun _ kv _=>8-(intOf kv).toNat)
   case atStart=>
    refine⟨0,by omega,rfl,?_,rfl⟩;rw[Be _ _ (HG.out i)];rfl
   case round=>
    obtain⟨k,hk,rfl,rfl,rfl⟩:=hrel;by_cases RK:k<8
    ·have d2:decide ((k:Int)<8)=true:=decide_eq_true (by omega);obtain⟨c,hce⟩:∃c,c=mr k (eP g i ^^^ BitVec.ofNat 32 (g i)):=⟨_,rfl⟩;rw[<-hce];have Oa:=ae hce;have hcb:=c.isLt;have hla:=Eb c;clear hce
     cases hb:c.getLsbD 0
     ·rw[hb] at hla
      have HN:=ae (show mr (k+1) (eP g i ^^^ BitVec.ofNat 32 (g i))=c >>>1 by
       show CQ (mr k _)=_;rw[<-Oa.out];unfold CQ;rw[hb]
       rfl)
      clear hb;go_wp2_with fail;exact⟨⟨k+1,by omega,by go_num,by rw[HN.out,yU],trivial⟩,by simp[intOf];omega⟩
     ·rw[hb] at hla
      have HN:=ae (show mr (k+1) (eP g i ^^^ BitVec.ofNat 32 (g i))=(c >>>1) ^^^ Ay by
       show CQ (mr k _)=_;rw[<-Oa.out];unfold CQ;rw[hb]
       rfl)
      clear hb;go_wp2_with fail;exact⟨⟨k+1,by omega,by go_num,by rw[HN.out,Ci],trivial⟩,by simp[intOf];omega⟩
    ·obtain rfl:k=8:=by omega
     go_wp2_with fail;exact⟨⟨i+1,by omega,by go_num,rfl,trivial⟩,by simp[intOf];omega⟩
  ·obtain rfl:i=n:=by omega
   have d1:decide ((i:Int)<(i:Int))=false:=by simp
   have hcb:=(eP g i).isLt;go_wp2_with fail;go_ret;exact⟨congrArg (fun z=>Ending.returned (.int .u32 z)) (A8 (eP g i)),rfl⟩
end Go.Proofs.YtcclpdfmmdonpaaGreat
