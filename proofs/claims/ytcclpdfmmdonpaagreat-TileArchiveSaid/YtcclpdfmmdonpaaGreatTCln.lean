/- slices.Clone at slices of steps (53), of slices of points (56) and of integers (58). (Printed by wip/gen_cln.py.) -/
import Derived.Test.YtcclpdfmmdonpaaGreatTRst
namespace Go.Proofs.YtcclpdfmmdonpaaGreat
set_option maxRecDepth 100000
open Go.RowKit Go.Maps
def kM (W:World) (v:Value) (sz:Nat) (l:List (List Value)):Prop:=(v=.slice none 0 0/\l=[])∨∃ad c,v=.slice (some ad) l.length c/\(l=[]∨∃b off,ad=⟨b,off,none⟩/\b<W.heap.size/\aB W b off sz l)
theorem kM.still {W W':World} {v:Value} {sz:Nat} {l:List (List Value)} (h:kM W v sz l) (hb:Below W.heap.size W W'):kM W' v sz l:=by
 rcases h with h| ⟨ad,c,h1,h2⟩
 ·exact .inl h
 ·refine .inr ⟨ad,c,h1,?_⟩
  rcases h2 with h2| ⟨b,off,h2,h3,h4⟩
  ·exact .inl h2
  ·exact .inr ⟨b,off,h2,Nat.lt_of_lt_of_le h3 hb.size,h4.still hb h3⟩
theorem al.rws {W:World} {base t sz:Nat} {v:Value} {l:List (List Value)} (h:al W base t sz v l):kM W v sz l:=by
 by_cases hn:0<l.length
 ·obtain⟨g,cap,cur,h1,h2,h3,h4,_⟩:=h.rows hn;exact .inr ⟨⟨g,0,none⟩,cap,h1,.inr ⟨g,0,rfl,(Array.getElem?_eq_some_iff.1 h3).1,h4⟩⟩
 ·obtain rfl:l=[]:=List.length_eq_zero_iff.1 (by omega)
  rcases h.2.2 with⟨h2,_⟩ | ⟨g,cap,cur,h1,_⟩
  ·exact .inl ⟨h2,rfl⟩
  ·exact .inr ⟨_,cap,h1,.inl rfl⟩
theorem nA:(Tryz.prog.info? 119).map (fun i=>(i.zero,i.size,i.bytes))=some (some (.agg #[.slice none 0 0,.slice none 0 0]),2,48):=by kernel_rfl
theorem iX (v:Value) (l:List (List Value)) (w:World) (h:kM w v 2 l) (hw:bF 2 l) (hn:l.length<=1000000):
 Calls Tryz.prog 53 #[v] w fun r w'=>(∃v',r=.returned v'/\al w' w.heap.size 119 2 v' l)/\Below w.heap.size w w':=by
 rcases h with⟨rfl,rfl⟩ | ⟨ad,c,rfl,hm⟩
 ·have heq:=fun w=>Lib.run_eql_slice_nil (P:=Tryz.prog) w 69 119 none 0 0 0 0 Tryz.underlying69
  go_enter Tryz.func53,Tryz.ntmps53;go_wp2_with fail;go_ret;exact⟨⟨_,rfl,al.nil _ _ _ _⟩,Below.refl _ _⟩
 ·have HM:=ae hm;obtain⟨i0,hi0,hz0,hz1,hz2⟩:=aF nA;have HI:=ae hi0;have HZ0:=ae hz0;have HZ1:=ae hz1;have HZ2:=ae hz2;clear hi0 hz0 hz1 hz2 hm;obtain⟨m,hml⟩:∃m,m=l.length:=⟨_,rfl⟩;rw[<-hml] at hn⊢;have HL:=ae hml;clear hml;have HW:=ae hw;clear hw;have heq:=fun w=>Lib.run_eql_slice_nil (P:=Tryz.prog) w 69 119 (some ad) m c 0 0 Tryz.underlying69
  have hown0:al (w.alloc (.cells #[] 119)) w.heap.size 119 2 (.slice (some ⟨w.heap.size,0,none⟩) 0 0) []:=⟨bF.nil 2,rfl,Or.inr ⟨_,0,#[],rfl,Nat.le_refl _,(by repeat' (first| (refine ai _ _ _ ?_;(first|rfl| (simp;done) | (simp;omega))) | (refine am _ _ _ _ ?_))),Nat.le_refl _,by unfold maxLen;omega,rfl,rfl⟩⟩;have HOWN:=ae hown0;clear hown0
  have zV:=ae (show(l=[]/\((some ad:Option Addr)=none->c=0))∨∃b off,(some ad:Option Addr)=some ⟨b,off,none⟩/\aB (w.alloc (.cells #[] 119)) b off 2 l by
   rcases HM.out with h| ⟨b,off,h1,h2,h3⟩
   ·exact .inl ⟨h,fun e=>by cases e⟩
   ·exact .inr ⟨b,off,by rw[h1],h3.still ((Below.refl _ _).alloc (Nat.le_refl _) _) h2⟩)
  clear HM;go_enter Tryz.func53,Tryz.ntmps53;go_wp2_with (at_builtin;go_loud (refine bH rfl (.tmp 5) (.tmp 6) 69 rfl w.heap.size 119 i0 _ 2 48 Tryz.underlying69 HI.out HZ0.out HZ1.out HZ2.out rfl (by decide) _ [] l rfl HOWN.out (some ad) m c HL.out rfl zV.out HW.out (by rw[<-HL.out];simp;unfold maxLen;omega) (by rw[<-HL.out];simp;omega) (by simp) ?_;intro v' w1 hown hgrow halt;have HO:=ae hown;have HG:=ae hgrow;clear hown hgrow halt));go_ret;refine⟨⟨v',rfl,by simpa using HO.out⟩,?_⟩;exact((Below.refl _ _).alloc (Nat.le_refl _) _).grown HG.out (by simp) (fun k hk=>by injection hk with hk;subst hk;exact Nat.le_refl _)
theorem lk:(Tryz.prog.info? 35).map (fun i=>(i.zero,i.size,i.bytes))=some (some (.slice none 0 0),1,24):=by kernel_rfl
theorem sL (v:Value) (l:List (List Value)) (w:World) (h:kM w v 1 l) (hw:bF 1 l) (hn:l.length<=1000000):
 Calls Tryz.prog 56 #[v] w fun r w'=>(∃v',r=.returned v'/\al w' w.heap.size 35 1 v' l)/\Below w.heap.size w w':=by
 rcases h with⟨rfl,rfl⟩ | ⟨ad,c,rfl,hm⟩
 ·have heq:=fun w=>Lib.run_eql_slice_nil (P:=Tryz.prog) w 31 35 none 0 0 0 0 Tryz.underlying31
  go_enter Tryz.func56,Tryz.ntmps56;go_wp2_with fail;go_ret;exact⟨⟨_,rfl,al.nil _ _ _ _⟩,Below.refl _ _⟩
 ·have HM:=ae hm;obtain⟨i0,hi0,hz0,hz1,hz2⟩:=aF lk;have HI:=ae hi0;have HZ0:=ae hz0;have HZ1:=ae hz1;have HZ2:=ae hz2;clear hi0 hz0 hz1 hz2 hm;obtain⟨m,hml⟩:∃m,m=l.length:=⟨_,rfl⟩;rw[<-hml] at hn⊢;have HL:=ae hml;clear hml;have HW:=ae hw;clear hw;have heq:=fun w=>Lib.run_eql_slice_nil (P:=Tryz.prog) w 31 35 (some ad) m c 0 0 Tryz.underlying31
  have hown0:al (w.alloc (.cells #[] 35)) w.heap.size 35 1 (.slice (some ⟨w.heap.size,0,none⟩) 0 0) []:=⟨bF.nil 1,rfl,Or.inr ⟨_,0,#[],rfl,Nat.le_refl _,(by repeat' (first| (refine ai _ _ _ ?_;(first|rfl| (simp;done) | (simp;omega))) | (refine am _ _ _ _ ?_))),Nat.le_refl _,by unfold maxLen;omega,rfl,rfl⟩⟩;have HOWN:=ae hown0;clear hown0
  have zV:=ae (show(l=[]/\((some ad:Option Addr)=none->c=0))∨∃b off,(some ad:Option Addr)=some ⟨b,off,none⟩/\aB (w.alloc (.cells #[] 35)) b off 1 l by
   rcases HM.out with h| ⟨b,off,h1,h2,h3⟩
   ·exact .inl ⟨h,fun e=>by cases e⟩
   ·exact .inr ⟨b,off,by rw[h1],h3.still ((Below.refl _ _).alloc (Nat.le_refl _) _) h2⟩)
  clear HM;go_enter Tryz.func56,Tryz.ntmps56;go_wp2_with (at_builtin;go_loud (refine bH rfl (.tmp 5) (.tmp 6) 31 rfl w.heap.size 35 i0 _ 1 24 Tryz.underlying31 HI.out HZ0.out HZ1.out HZ2.out rfl (by decide) _ [] l rfl HOWN.out (some ad) m c HL.out rfl zV.out HW.out (by rw[<-HL.out];simp;unfold maxLen;omega) (by rw[<-HL.out];simp;omega) (by simp) ?_;intro v' w1 hown hgrow halt;have HO:=ae hown;have HG:=ae hgrow;clear hown hgrow halt));go_ret;refine⟨⟨v',rfl,by simpa using HO.out⟩,?_⟩;exact((Below.refl _ _).alloc (Nat.le_refl _) _).grown HG.out (by simp) (fun k hk=>by injection hk with hk;subst hk;exact Nat.le_refl _)
theorem rF:(Tryz.prog.info? 3).map (fun i=>(i.zero,i.size,i.bytes))=some (some (.int .i64 0),1,8):=by kernel_rfl
theorem sY (v:Value) (l:List (List Value)) (w:World) (h:kM w v 1 l) (hw:bF 1 l) (hn:l.length<=1000000):
 Calls Tryz.prog 58 #[v] w fun r w'=>(∃v',r=.returned v'/\al w' w.heap.size 3 1 v' l)/\Below w.heap.size w w':=by
 rcases h with⟨rfl,rfl⟩ | ⟨ad,c,rfl,hm⟩
 ·have heq:=fun w=>Lib.run_eql_slice_nil (P:=Tryz.prog) w 30 3 none 0 0 0 0 Tryz.underlying30
  go_enter Tryz.func58,Tryz.ntmps58;go_wp2_with fail;go_ret;exact⟨⟨_,rfl,al.nil _ _ _ _⟩,Below.refl _ _⟩
 ·have HM:=ae hm;obtain⟨i0,hi0,hz0,hz1,hz2⟩:=aF rF;have HI:=ae hi0;have HZ0:=ae hz0;have HZ1:=ae hz1;have HZ2:=ae hz2;clear hi0 hz0 hz1 hz2 hm;obtain⟨m,hml⟩:∃m,m=l.length:=⟨_,rfl⟩;rw[<-hml] at hn⊢;have HL:=ae hml;clear hml;have HW:=ae hw;clear hw;have heq:=fun w=>Lib.run_eql_slice_nil (P:=Tryz.prog) w 30 3 (some ad) m c 0 0 Tryz.underlying30
  have hown0:al (w.alloc (.cells #[] 3)) w.heap.size 3 1 (.slice (some ⟨w.heap.size,0,none⟩) 0 0) []:=⟨bF.nil 1,rfl,Or.inr ⟨_,0,#[],rfl,Nat.le_refl _,(by repeat' (first| (refine ai _ _ _ ?_;(first|rfl| (simp;done) | (simp;omega))) | (refine am _ _ _ _ ?_))),Nat.le_refl _,by unfold maxLen;omega,rfl,rfl⟩⟩;have HOWN:=ae hown0;clear hown0
  have zV:=ae (show(l=[]/\((some ad:Option Addr)=none->c=0))∨∃b off,(some ad:Option Addr)=some ⟨b,off,none⟩/\aB (w.alloc (.cells #[] 3)) b off 1 l by
   rcases HM.out with h| ⟨b,off,h1,h2,h3⟩
   ·exact .inl ⟨h,fun e=>by cases e⟩
   ·exact .inr ⟨b,off,by rw[h1],h3.still ((Below.refl _ _).alloc (Nat.le_refl _) _) h2⟩)
  clear HM;go_enter Tryz.func58,Tryz.ntmps58;go_wp2_with (at_builtin;go_loud (refine bH rfl (.tmp 5) (.tmp 6) 30 rfl w.heap.size 3 i0 _ 1 8 Tryz.underlying30 HI.out HZ0.out HZ1.out HZ2.out rfl (by decide) _ [] l rfl HOWN.out (some ad) m c HL.out rfl zV.out HW.out (by rw[<-HL.out];simp;unfold maxLen;omega) (by rw[<-HL.out];simp;omega) (by simp) ?_;intro v' w1 hown hgrow halt;have HO:=ae hown;have HG:=ae hgrow;clear hown hgrow halt));go_ret;refine⟨⟨v',rfl,by simpa using HO.out⟩,?_⟩;exact((Below.refl _ _).alloc (Nat.le_refl _) _).grown HG.out (by simp) (fun k hk=>by injection hk with hk;subst hk;exact Nat.le_refl _)
end Go.Proofs.YtcclpdfmmdonpaaGreat
