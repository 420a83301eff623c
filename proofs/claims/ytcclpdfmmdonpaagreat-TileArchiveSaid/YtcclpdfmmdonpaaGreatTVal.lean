/- Texts of the seat Yteanlcefdoigcaa, turned to this one by wip/port.py: Valid Keys. -/
import Derived.Test.YtcclpdfmmdonpaaGreatTMap
import Derived.Lib.QuietBelow
import Derived.Laws.Bits64b
import Derived.Laws.Shifts
import Derived.Lib.SliceRun
import Derived.Lib.BitFns
namespace Go.Proofs.YtcclpdfmmdonpaaGreat
set_option maxHeartbeats 1600000
set_option maxRecDepth 100000
open Go.RowKit
def dY (lo hi:Int) (z:Int):Bool:=decide (lo<=z) && decide (z<=hi)
theorem aG (a b c:Int) (w:World):
 Calls Tryz.prog 70 #[.int .i64 a,.int .i64 b,.int .i64 c] w fun e w'=>e=.returned (.bool (dY a c b))/\w=w':=by
 by_cases h1:a<=b<;>by_cases h2:b<=c
 all_goals
  go_enter Tryz.func70,Tryz.ntmps70;go_wp2;go_ret;simp[dY, *]
theorem bg (a b c:Int) (w:World):
 Calls Tryz.prog 127 #[.int .i64 a,.int .i64 b,.int .i64 c] w fun e w'=>e=.returned (.bool (dY a c b))/\w=w':=by
 by_cases h1:a<=b<;>by_cases h2:b<=c
 all_goals
  go_enter Tryz.func127,Tryz.ntmps127;go_wp2;go_ret;simp[dY, *]
theorem Eu:(Tryz.prog.info? 195).map (·.size)=some 2:=by kernel_rfl
theorem fJ (id x y zl zh wd nm of cl:Int) (w:World):
 Calls Tryz.prog 129 #[.agg #[.int .i64 id,.int .i64 x,.int .i64 y,.int .i64 zl,.int .i64 zh,.int .i64 wd,.int .i64 nm,.int .i64 of,.int .i64 cl]] w fun e w'=>e=.returned (.agg #[.int .i64 x,.int .i64 y])/\Below w.heap.size w w':=by
 go_enter Tryz.func129,Tryz.ntmps129;go_wp2_with fail;refine bodyPost_ret (cV rfl rfl (ai _ _ _ (by simp)) Tryz.underlying195 rfl Eu rfl) rfl ⟨rfl,?_⟩
 (repeat' (first| (with_reducible first|exact Below.refl _ _|assumption|refine Below.alloc ?_ ?_ _|refine Below.drew ?_ |refine below_drewN ?_ _|refine Below.setCell ?_ ?_ _|refine below_setRow ?_ ?_ _) |go_size))
def gM (x y:Int):Bool:=dY (-268435456) 268435456 x && dY (-268435456) 268435456 y
theorem fe (x y:Int) (w:World):
 Calls Tryz.prog 128 #[.agg #[.int .i64 x,.int .i64 y]] w fun e w'=>e=.returned (.bool (gM x y))/\Below w.heap.size w w':=by
 by_cases h1:dY (-268435456) 268435456 x=true
 ·have HS:=ae (show gM x y=dY (-268435456) 268435456 y by simp[gM,h1]);have H1:=ae h1;clear h1;go_enter Tryz.func128,Tryz.ntmps128;go_wp2_with fail;refine(bg _ _ _ _).mono ?_;rintro r w1 ⟨rfl,rfl⟩;rw[H1.out];go_wp2_with fail;refine(bg _ _ _ _).mono ?_;rintro r w1 ⟨rfl,rfl⟩;go_wp2_with fail;go_ret;refine⟨by rw[HS.out];rfl,?_⟩
  (try have hB0:=HB.out)
  (repeat' (first| (with_reducible first|exact Below.refl _ _|assumption|refine Below.alloc ?_ ?_ _|refine Below.drew ?_ |refine below_drewN ?_ _|refine Below.setCell ?_ ?_ _|refine below_setRow ?_ ?_ _) |go_size))
 ·have HS:=ae (show gM x y=false by simp[gM,h1]);have H1:=ae (Bool.eq_false_iff.2 h1);clear h1;go_enter Tryz.func128,Tryz.ntmps128;go_wp2_with fail;refine(bg _ _ _ _).mono ?_;rintro r w1 ⟨rfl,rfl⟩;rw[H1.out];go_wp2_with fail;go_ret;refine⟨by rw[HS.out];rfl,?_⟩
  (try have hB0:=HB.out)
  (repeat' (first| (with_reducible first|exact Below.refl _ _|assumption|refine Below.alloc ?_ ?_ _|refine Below.drew ?_ |refine below_drewN ?_ _|refine Below.setCell ?_ ?_ _|refine below_setRow ?_ ?_ _) |go_size))
def bX (id x y zl zh wd nm of:Int):Bool:=dY 0 1152921504606846976 id && gM x y && dY (-268435456) zh zl && decide (zh<=268435456) && dY 0 268435456 wd && dY 1 of nm && decide (of<=15)
theorem nW (id x y zl zh wd nm of cl:Int) (w:World):
 Calls Tryz.prog 91 #[.agg #[.int .i64 id,.int .i64 x,.int .i64 y,.int .i64 zl,.int .i64 zh,.int .i64 wd,.int .i64 nm,.int .i64 of,.int .i64 cl]] w fun e w'=>e=.returned (.bool (bX id x y zl zh wd nm of))/\Below w.heap.size w w':=by
 have HB:=ae (Below.refl w.heap.size w);by_cases h1:dY 0 1152921504606846976 id=true
 ·by_cases h2:gM x y=true
  ·by_cases h3:dY (-268435456) zh zl=true
   ·by_cases h4:decide (zh<=268435456)=true
    ·by_cases h5:dY 0 268435456 wd=true
     ·by_cases h6:dY 1 of nm=true
      ·have HS:=ae (show bX id x y zl zh wd nm of=decide (of<=15) by simp[bX,h1,h2,h3,h4,h5,h6]);have H1:=ae h1;have H2:=ae h2;have H3:=ae h3;have H4:=ae h4;have H5:=ae h5;have H6:=ae h6;clear h1 h2 h3 h4 h5 h6;have D4:=H4.out;go_enter Tryz.func91,Tryz.ntmps91;go_wp2_with fail;refine(bg _ _ _ _).mono ?_;rintro r w9 ⟨rfl,rfl⟩;rw[H1.out];go_wp2_with fail;refine(fJ _ _ _ _ _ _ _ _ _ _).mono ?_;rintro r w1 ⟨rfl,hb1⟩;go_wp2_with fail;refine(fe _ _ _).mono ?_;rintro r w2 ⟨rfl,hb2⟩;have HP:=ae (aj hb2 (aj hb1 (ai w (.cells #[.int .i64 id,.int .i64 x,.int .i64 y,.int .i64 zl,.int .i64 zh,.int .i64 wd,.int .i64 nm,.int .i64 of,.int .i64 cl] 106) _ rfl)));have c3:w2.cell? ⟨w.heap.size,3,none⟩=some (.int .i64 zl):=(af (j:=3) HP.out).trans rfl;have c4:w2.cell? ⟨w.heap.size,4,none⟩=some (.int .i64 zh):=(af (j:=4) HP.out).trans rfl;have c5:w2.cell? ⟨w.heap.size,5,none⟩=some (.int .i64 wd):=(af (j:=5) HP.out).trans rfl;have c6:w2.cell? ⟨w.heap.size,6,none⟩=some (.int .i64 nm):=(af (j:=6) HP.out).trans rfl;have c7:w2.cell? ⟨w.heap.size,7,none⟩=some (.int .i64 of):=(af (j:=7) HP.out).trans rfl;have HB:=ae (show Below w.heap.size w w2 from((Below.refl _ _).alloc (Nat.le_refl _) _).trans ((hb1.mono (by simp)).trans (hb2.mono (by have:=hb1.size;simp at this;omega))));clear hb1 hb2;rw[H2.out];go_wp2_with fail;refine(bg _ _ _ _).mono ?_;rintro r w9 ⟨rfl,rfl⟩;rw[H3.out];go_wp2_with fail;refine(bg _ _ _ _).mono ?_;rintro r w9 ⟨rfl,rfl⟩;rw[H5.out];go_wp2_with fail;refine(bg _ _ _ _).mono ?_;rintro r w9 ⟨rfl,rfl⟩;rw[H6.out];go_wp2_with fail;go_ret;refine⟨by rw[HS.out];rfl,?_⟩
       (try have hB0:=HB.out)
       (repeat' (first| (with_reducible first|exact Below.refl _ _|assumption|refine Below.alloc ?_ ?_ _|refine Below.drew ?_ |refine below_drewN ?_ _|refine Below.setCell ?_ ?_ _|refine below_setRow ?_ ?_ _) |go_size))
      ·have HS:=ae (show bX id x y zl zh wd nm of=false by simp[bX,h1,h2,h3,h4,h5,h6]);have H1:=ae h1;have H2:=ae h2;have H3:=ae h3;have H4:=ae h4;have H5:=ae h5;have H6:=ae (Bool.eq_false_iff.2 h6);clear h1 h2 h3 h4 h5 h6;have D4:=H4.out;go_enter Tryz.func91,Tryz.ntmps91;go_wp2_with fail;refine(bg _ _ _ _).mono ?_;rintro r w9 ⟨rfl,rfl⟩;rw[H1.out];go_wp2_with fail;refine(fJ _ _ _ _ _ _ _ _ _ _).mono ?_;rintro r w1 ⟨rfl,hb1⟩;go_wp2_with fail;refine(fe _ _ _).mono ?_;rintro r w2 ⟨rfl,hb2⟩;have HP:=ae (aj hb2 (aj hb1 (ai w (.cells #[.int .i64 id,.int .i64 x,.int .i64 y,.int .i64 zl,.int .i64 zh,.int .i64 wd,.int .i64 nm,.int .i64 of,.int .i64 cl] 106) _ rfl)));have c3:w2.cell? ⟨w.heap.size,3,none⟩=some (.int .i64 zl):=(af (j:=3) HP.out).trans rfl;have c4:w2.cell? ⟨w.heap.size,4,none⟩=some (.int .i64 zh):=(af (j:=4) HP.out).trans rfl;have c5:w2.cell? ⟨w.heap.size,5,none⟩=some (.int .i64 wd):=(af (j:=5) HP.out).trans rfl;have c6:w2.cell? ⟨w.heap.size,6,none⟩=some (.int .i64 nm):=(af (j:=6) HP.out).trans rfl;have c7:w2.cell? ⟨w.heap.size,7,none⟩=some (.int .i64 of):=(af (j:=7) HP.out).trans rfl;have HB:=ae (show Below w.heap.size w w2 from((Below.refl _ _).alloc (Nat.le_refl _) _).trans ((hb1.mono (by simp)).trans (hb2.mono (by have:=hb1.size;simp at this;omega))));clear hb1 hb2;rw[H2.out];go_wp2_with fail;refine(bg _ _ _ _).mono ?_;rintro r w9 ⟨rfl,rfl⟩;rw[H3.out];go_wp2_with fail;refine(bg _ _ _ _).mono ?_;rintro r w9 ⟨rfl,rfl⟩;rw[H5.out];go_wp2_with fail;refine(bg _ _ _ _).mono ?_;rintro r w9 ⟨rfl,rfl⟩;rw[H6.out];go_wp2_with fail;go_ret;refine⟨by rw[HS.out];rfl,?_⟩
       (try have hB0:=HB.out)
       (repeat' (first| (with_reducible first|exact Below.refl _ _|assumption|refine Below.alloc ?_ ?_ _|refine Below.drew ?_ |refine below_drewN ?_ _|refine Below.setCell ?_ ?_ _|refine below_setRow ?_ ?_ _) |go_size))
     ·have HS:=ae (show bX id x y zl zh wd nm of=false by simp[bX,h1,h2,h3,h4,h5]);have H1:=ae h1;have H2:=ae h2;have H3:=ae h3;have H4:=ae h4;have H5:=ae (Bool.eq_false_iff.2 h5);clear h1 h2 h3 h4 h5;have D4:=H4.out;go_enter Tryz.func91,Tryz.ntmps91;go_wp2_with fail;refine(bg _ _ _ _).mono ?_;rintro r w9 ⟨rfl,rfl⟩;rw[H1.out];go_wp2_with fail;refine(fJ _ _ _ _ _ _ _ _ _ _).mono ?_;rintro r w1 ⟨rfl,hb1⟩;go_wp2_with fail;refine(fe _ _ _).mono ?_;rintro r w2 ⟨rfl,hb2⟩;have HP:=ae (aj hb2 (aj hb1 (ai w (.cells #[.int .i64 id,.int .i64 x,.int .i64 y,.int .i64 zl,.int .i64 zh,.int .i64 wd,.int .i64 nm,.int .i64 of,.int .i64 cl] 106) _ rfl)));have c3:w2.cell? ⟨w.heap.size,3,none⟩=some (.int .i64 zl):=(af (j:=3) HP.out).trans rfl;have c4:w2.cell? ⟨w.heap.size,4,none⟩=some (.int .i64 zh):=(af (j:=4) HP.out).trans rfl;have c5:w2.cell? ⟨w.heap.size,5,none⟩=some (.int .i64 wd):=(af (j:=5) HP.out).trans rfl;have c6:w2.cell? ⟨w.heap.size,6,none⟩=some (.int .i64 nm):=(af (j:=6) HP.out).trans rfl;have c7:w2.cell? ⟨w.heap.size,7,none⟩=some (.int .i64 of):=(af (j:=7) HP.out).trans rfl;have HB:=ae (show Below w.heap.size w w2 from((Below.refl _ _).alloc (Nat.le_refl _) _).trans ((hb1.mono (by simp)).trans (hb2.mono (by have:=hb1.size;simp at this;omega))));clear hb1 hb2;rw[H2.out];go_wp2_with fail;refine(bg _ _ _ _).mono ?_;rintro r w9 ⟨rfl,rfl⟩;rw[H3.out];go_wp2_with fail;refine(bg _ _ _ _).mono ?_;rintro r w9 ⟨rfl,rfl⟩;rw[H5.out];go_wp2_with fail;go_ret;refine⟨by rw[HS.out];rfl,?_⟩
      (try have hB0:=HB.out)
      (repeat' (first| (with_reducible first|exact Below.refl _ _|assumption|refine Below.alloc ?_ ?_ _|refine Below.drew ?_ |refine below_drewN ?_ _|refine Below.setCell ?_ ?_ _|refine below_setRow ?_ ?_ _) |go_size))
    ·have HS:=ae (show bX id x y zl zh wd nm of=false by simp[bX,h1,h2,h3,h4]);have H1:=ae h1;have H2:=ae h2;have H3:=ae h3;have H4:=ae (Bool.eq_false_iff.2 h4);clear h1 h2 h3 h4;have D4:=H4.out;go_enter Tryz.func91,Tryz.ntmps91;go_wp2_with fail;refine(bg _ _ _ _).mono ?_;rintro r w9 ⟨rfl,rfl⟩;rw[H1.out];go_wp2_with fail;refine(fJ _ _ _ _ _ _ _ _ _ _).mono ?_;rintro r w1 ⟨rfl,hb1⟩;go_wp2_with fail;refine(fe _ _ _).mono ?_;rintro r w2 ⟨rfl,hb2⟩;have HP:=ae (aj hb2 (aj hb1 (ai w (.cells #[.int .i64 id,.int .i64 x,.int .i64 y,.int .i64 zl,.int .i64 zh,.int .i64 wd,.int .i64 nm,.int .i64 of,.int .i64 cl] 106) _ rfl)));have c3:w2.cell? ⟨w.heap.size,3,none⟩=some (.int .i64 zl):=(af (j:=3) HP.out).trans rfl;have c4:w2.cell? ⟨w.heap.size,4,none⟩=some (.int .i64 zh):=(af (j:=4) HP.out).trans rfl;have c5:w2.cell? ⟨w.heap.size,5,none⟩=some (.int .i64 wd):=(af (j:=5) HP.out).trans rfl;have c6:w2.cell? ⟨w.heap.size,6,none⟩=some (.int .i64 nm):=(af (j:=6) HP.out).trans rfl;have c7:w2.cell? ⟨w.heap.size,7,none⟩=some (.int .i64 of):=(af (j:=7) HP.out).trans rfl;have HB:=ae (show Below w.heap.size w w2 from((Below.refl _ _).alloc (Nat.le_refl _) _).trans ((hb1.mono (by simp)).trans (hb2.mono (by have:=hb1.size;simp at this;omega))));clear hb1 hb2;rw[H2.out];go_wp2_with fail;refine(bg _ _ _ _).mono ?_;rintro r w9 ⟨rfl,rfl⟩;rw[H3.out];go_wp2_with fail;go_ret;refine⟨by rw[HS.out];rfl,?_⟩
     (try have hB0:=HB.out)
     (repeat' (first| (with_reducible first|exact Below.refl _ _|assumption|refine Below.alloc ?_ ?_ _|refine Below.drew ?_ |refine below_drewN ?_ _|refine Below.setCell ?_ ?_ _|refine below_setRow ?_ ?_ _) |go_size))
   ·have HS:=ae (show bX id x y zl zh wd nm of=false by simp[bX,h1,h2,h3]);have H1:=ae h1;have H2:=ae h2;have H3:=ae (Bool.eq_false_iff.2 h3);clear h1 h2 h3;go_enter Tryz.func91,Tryz.ntmps91;go_wp2_with fail;refine(bg _ _ _ _).mono ?_;rintro r w9 ⟨rfl,rfl⟩;rw[H1.out];go_wp2_with fail;refine(fJ _ _ _ _ _ _ _ _ _ _).mono ?_;rintro r w1 ⟨rfl,hb1⟩;go_wp2_with fail;refine(fe _ _ _).mono ?_;rintro r w2 ⟨rfl,hb2⟩;have HP:=ae (aj hb2 (aj hb1 (ai w (.cells #[.int .i64 id,.int .i64 x,.int .i64 y,.int .i64 zl,.int .i64 zh,.int .i64 wd,.int .i64 nm,.int .i64 of,.int .i64 cl] 106) _ rfl)));have c3:w2.cell? ⟨w.heap.size,3,none⟩=some (.int .i64 zl):=(af (j:=3) HP.out).trans rfl;have c4:w2.cell? ⟨w.heap.size,4,none⟩=some (.int .i64 zh):=(af (j:=4) HP.out).trans rfl;have c5:w2.cell? ⟨w.heap.size,5,none⟩=some (.int .i64 wd):=(af (j:=5) HP.out).trans rfl;have c6:w2.cell? ⟨w.heap.size,6,none⟩=some (.int .i64 nm):=(af (j:=6) HP.out).trans rfl;have c7:w2.cell? ⟨w.heap.size,7,none⟩=some (.int .i64 of):=(af (j:=7) HP.out).trans rfl;have HB:=ae (show Below w.heap.size w w2 from((Below.refl _ _).alloc (Nat.le_refl _) _).trans ((hb1.mono (by simp)).trans (hb2.mono (by have:=hb1.size;simp at this;omega))));clear hb1 hb2;rw[H2.out];go_wp2_with fail;refine(bg _ _ _ _).mono ?_;rintro r w9 ⟨rfl,rfl⟩;rw[H3.out];go_wp2_with fail;go_ret;refine⟨by rw[HS.out];rfl,?_⟩
    (try have hB0:=HB.out)
    (repeat' (first| (with_reducible first|exact Below.refl _ _|assumption|refine Below.alloc ?_ ?_ _|refine Below.drew ?_ |refine below_drewN ?_ _|refine Below.setCell ?_ ?_ _|refine below_setRow ?_ ?_ _) |go_size))
  ·have HS:=ae (show bX id x y zl zh wd nm of=false by simp[bX,h1,h2]);have H1:=ae h1;have H2:=ae (Bool.eq_false_iff.2 h2);clear h1 h2;go_enter Tryz.func91,Tryz.ntmps91;go_wp2_with fail;refine(bg _ _ _ _).mono ?_;rintro r w9 ⟨rfl,rfl⟩;rw[H1.out];go_wp2_with fail;refine(fJ _ _ _ _ _ _ _ _ _ _).mono ?_;rintro r w1 ⟨rfl,hb1⟩;go_wp2_with fail;refine(fe _ _ _).mono ?_;rintro r w2 ⟨rfl,hb2⟩;have HP:=ae (aj hb2 (aj hb1 (ai w (.cells #[.int .i64 id,.int .i64 x,.int .i64 y,.int .i64 zl,.int .i64 zh,.int .i64 wd,.int .i64 nm,.int .i64 of,.int .i64 cl] 106) _ rfl)));have c3:w2.cell? ⟨w.heap.size,3,none⟩=some (.int .i64 zl):=(af (j:=3) HP.out).trans rfl;have c4:w2.cell? ⟨w.heap.size,4,none⟩=some (.int .i64 zh):=(af (j:=4) HP.out).trans rfl;have c5:w2.cell? ⟨w.heap.size,5,none⟩=some (.int .i64 wd):=(af (j:=5) HP.out).trans rfl;have c6:w2.cell? ⟨w.heap.size,6,none⟩=some (.int .i64 nm):=(af (j:=6) HP.out).trans rfl;have c7:w2.cell? ⟨w.heap.size,7,none⟩=some (.int .i64 of):=(af (j:=7) HP.out).trans rfl;have HB:=ae (show Below w.heap.size w w2 from((Below.refl _ _).alloc (Nat.le_refl _) _).trans ((hb1.mono (by simp)).trans (hb2.mono (by have:=hb1.size;simp at this;omega))));clear hb1 hb2;rw[H2.out];go_wp2_with fail;go_ret;refine⟨by rw[HS.out];rfl,?_⟩
   (try have hB0:=HB.out)
   (repeat' (first| (with_reducible first|exact Below.refl _ _|assumption|refine Below.alloc ?_ ?_ _|refine Below.drew ?_ |refine below_drewN ?_ _|refine Below.setCell ?_ ?_ _|refine below_setRow ?_ ?_ _) |go_size))
 ·have HS:=ae (show bX id x y zl zh wd nm of=false by simp[bX,h1]);have H1:=ae (Bool.eq_false_iff.2 h1);clear h1;go_enter Tryz.func91,Tryz.ntmps91;go_wp2_with fail;refine(bg _ _ _ _).mono ?_;rintro r w9 ⟨rfl,rfl⟩;rw[H1.out];go_wp2_with fail;go_ret;refine⟨by rw[HS.out];rfl,?_⟩
  (try have hB0:=HB.out)
  (repeat' (first| (with_reducible first|exact Below.refl _ _|assumption|refine Below.alloc ?_ ?_ _|refine Below.drew ?_ |refine below_drewN ?_ _|refine Below.setCell ?_ ?_ _|refine below_setRow ?_ ?_ _) |go_size))
def bV (id x y zl zh wd nm of cl:Int):Bool:=dY 0 1152921504606846976 id && dY (-268435456) 268435456 x && dY (-268435456) 268435456 y && decide (-268435456<=zl) && decide (zl<=zh) && decide (zh<=268435456) && dY 0 268435456 wd && decide (1<=nm) && decide (nm<=of) && decide (of<=15) && dY 0 255 cl
theorem zt (id x y zl zh wd nm of cl:Int):bV id x y zl zh wd nm of cl=(bX id x y zl zh wd nm of && dY 0 255 cl):=by
 simp[bV,bX,gM,dY,Bool.and_assoc]
theorem vt (id x y zl zh wd nm of cl:Int) (w:World):
 Calls Tryz.prog 86 #[.agg #[.int .i64 id,.int .i64 x,.int .i64 y,.int .i64 zl,.int .i64 zh,.int .i64 wd,.int .i64 nm,.int .i64 of,.int .i64 cl]] w fun e w'=>e=.returned (.bool (bX id x y zl zh wd nm of && dY 0 255 cl))/\Below w.heap.size w w':=by
 rw[<-zt];have HB:=ae (Below.refl w.heap.size w);by_cases h1:dY 0 1152921504606846976 id=true
 ·by_cases h2:dY (-268435456) 268435456 x=true
  ·by_cases h3:dY (-268435456) 268435456 y=true
   ·by_cases h4:decide (-268435456<=zl)=true
    ·by_cases h5:decide (zl<=zh)=true
     ·by_cases h6:decide (zh<=268435456)=true
      ·by_cases h7:dY 0 268435456 wd=true
       ·by_cases h8:decide (1<=nm)=true
        ·by_cases h9:decide (nm<=of)=true
         ·by_cases h10:decide (of<=15)=true
          ·have HS:=ae (show bV id x y zl zh wd nm of cl=dY 0 255 cl by simp[bV,h1,h2,h3,h4,h5,h6,h7,h8,h9,h10]);have H1:=ae h1;have H2:=ae h2;have H3:=ae h3;have H4:=ae h4;have H5:=ae h5;have H6:=ae h6;have H7:=ae h7;have H8:=ae h8;have H9:=ae h9;have M1:=ae h10;clear h1 h2 h3 h4 h5 h6 h7 h8 h9 h10;have D4:=H4.out;have D5:=H5.out;have D6:=H6.out;have D8:=H8.out;have D9:=H9.out;have D10:=M1.out;go_enter Tryz.func86,Tryz.ntmps86;go_wp2_with fail;refine(aG _ _ _ _).mono ?_;rintro r w9 ⟨rfl,rfl⟩;rw[H1.out];go_wp2_with fail;refine(aG _ _ _ _).mono ?_;rintro r w9 ⟨rfl,rfl⟩;rw[H2.out];go_wp2_with fail;refine(aG _ _ _ _).mono ?_;rintro r w9 ⟨rfl,rfl⟩;rw[H3.out];go_wp2_with fail;refine(aG _ _ _ _).mono ?_;rintro r w9 ⟨rfl,rfl⟩;rw[H7.out];go_wp2_with fail;refine(aG _ _ _ _).mono ?_;rintro r w9 ⟨rfl,rfl⟩;go_wp2_with fail;go_ret;refine⟨by rw[HS.out];rfl,?_⟩
           (try have hB0:=HB.out)
           (repeat' (first| (with_reducible first|exact Below.refl _ _|assumption|refine Below.alloc ?_ ?_ _|refine Below.drew ?_ |refine below_drewN ?_ _|refine Below.setCell ?_ ?_ _|refine below_setRow ?_ ?_ _) |go_size))
          ·have HS:=ae (show bV id x y zl zh wd nm of cl=false by simp[bV,h1,h2,h3,h4,h5,h6,h7,h8,h9,h10]);have H1:=ae h1;have H2:=ae h2;have H3:=ae h3;have H4:=ae h4;have H5:=ae h5;have H6:=ae h6;have H7:=ae h7;have H8:=ae h8;have H9:=ae h9;have M1:=ae (Bool.eq_false_iff.2 h10);clear h1 h2 h3 h4 h5 h6 h7 h8 h9 h10;have D4:=H4.out;have D5:=H5.out;have D6:=H6.out;have D8:=H8.out;have D9:=H9.out;have D10:=M1.out;go_enter Tryz.func86,Tryz.ntmps86;go_wp2_with fail;refine(aG _ _ _ _).mono ?_;rintro r w9 ⟨rfl,rfl⟩;rw[H1.out];go_wp2_with fail;refine(aG _ _ _ _).mono ?_;rintro r w9 ⟨rfl,rfl⟩;rw[H2.out];go_wp2_with fail;refine(aG _ _ _ _).mono ?_;rintro r w9 ⟨rfl,rfl⟩;rw[H3.out];go_wp2_with fail;refine(aG _ _ _ _).mono ?_;rintro r w9 ⟨rfl,rfl⟩;rw[H7.out];go_wp2_with fail;go_ret;refine⟨by rw[HS.out];rfl,?_⟩
           (try have hB0:=HB.out)
           (repeat' (first| (with_reducible first|exact Below.refl _ _|assumption|refine Below.alloc ?_ ?_ _|refine Below.drew ?_ |refine below_drewN ?_ _|refine Below.setCell ?_ ?_ _|refine below_setRow ?_ ?_ _) |go_size))
         ·have HS:=ae (show bV id x y zl zh wd nm of cl=false by simp[bV,h1,h2,h3,h4,h5,h6,h7,h8,h9]);have H1:=ae h1;have H2:=ae h2;have H3:=ae h3;have H4:=ae h4;have H5:=ae h5;have H6:=ae h6;have H7:=ae h7;have H8:=ae h8;have H9:=ae (Bool.eq_false_iff.2 h9);clear h1 h2 h3 h4 h5 h6 h7 h8 h9;have D4:=H4.out;have D5:=H5.out;have D6:=H6.out;have D8:=H8.out;have D9:=H9.out;go_enter Tryz.func86,Tryz.ntmps86;go_wp2_with fail;refine(aG _ _ _ _).mono ?_;rintro r w9 ⟨rfl,rfl⟩;rw[H1.out];go_wp2_with fail;refine(aG _ _ _ _).mono ?_;rintro r w9 ⟨rfl,rfl⟩;rw[H2.out];go_wp2_with fail;refine(aG _ _ _ _).mono ?_;rintro r w9 ⟨rfl,rfl⟩;rw[H3.out];go_wp2_with fail;refine(aG _ _ _ _).mono ?_;rintro r w9 ⟨rfl,rfl⟩;rw[H7.out];go_wp2_with fail;go_ret;refine⟨by rw[HS.out];rfl,?_⟩
          (try have hB0:=HB.out)
          (repeat' (first| (with_reducible first|exact Below.refl _ _|assumption|refine Below.alloc ?_ ?_ _|refine Below.drew ?_ |refine below_drewN ?_ _|refine Below.setCell ?_ ?_ _|refine below_setRow ?_ ?_ _) |go_size))
        ·have HS:=ae (show bV id x y zl zh wd nm of cl=false by simp[bV,h1,h2,h3,h4,h5,h6,h7,h8]);have H1:=ae h1;have H2:=ae h2;have H3:=ae h3;have H4:=ae h4;have H5:=ae h5;have H6:=ae h6;have H7:=ae h7;have H8:=ae (Bool.eq_false_iff.2 h8);clear h1 h2 h3 h4 h5 h6 h7 h8;have D4:=H4.out;have D5:=H5.out;have D6:=H6.out;have D8:=H8.out;go_enter Tryz.func86,Tryz.ntmps86;go_wp2_with fail;refine(aG _ _ _ _).mono ?_;rintro r w9 ⟨rfl,rfl⟩;rw[H1.out];go_wp2_with fail;refine(aG _ _ _ _).mono ?_;rintro r w9 ⟨rfl,rfl⟩;rw[H2.out];go_wp2_with fail;refine(aG _ _ _ _).mono ?_;rintro r w9 ⟨rfl,rfl⟩;rw[H3.out];go_wp2_with fail;refine(aG _ _ _ _).mono ?_;rintro r w9 ⟨rfl,rfl⟩;rw[H7.out];go_wp2_with fail;go_ret;refine⟨by rw[HS.out];rfl,?_⟩
         (try have hB0:=HB.out)
         (repeat' (first| (with_reducible first|exact Below.refl _ _|assumption|refine Below.alloc ?_ ?_ _|refine Below.drew ?_ |refine below_drewN ?_ _|refine Below.setCell ?_ ?_ _|refine below_setRow ?_ ?_ _) |go_size))
       ·have HS:=ae (show bV id x y zl zh wd nm of cl=false by simp[bV,h1,h2,h3,h4,h5,h6,h7]);have H1:=ae h1;have H2:=ae h2;have H3:=ae h3;have H4:=ae h4;have H5:=ae h5;have H6:=ae h6;have H7:=ae (Bool.eq_false_iff.2 h7);clear h1 h2 h3 h4 h5 h6 h7;have D4:=H4.out;have D5:=H5.out;have D6:=H6.out;go_enter Tryz.func86,Tryz.ntmps86;go_wp2_with fail;refine(aG _ _ _ _).mono ?_;rintro r w9 ⟨rfl,rfl⟩;rw[H1.out];go_wp2_with fail;refine(aG _ _ _ _).mono ?_;rintro r w9 ⟨rfl,rfl⟩;rw[H2.out];go_wp2_with fail;refine(aG _ _ _ _).mono ?_;rintro r w9 ⟨rfl,rfl⟩;rw[H3.out];go_wp2_with fail;refine(aG _ _ _ _).mono ?_;rintro r w9 ⟨rfl,rfl⟩;rw[H7.out];go_wp2_with fail;go_ret;refine⟨by rw[HS.out];rfl,?_⟩
        (try have hB0:=HB.out)
        (repeat' (first| (with_reducible first|exact Below.refl _ _|assumption|refine Below.alloc ?_ ?_ _|refine Below.drew ?_ |refine below_drewN ?_ _|refine Below.setCell ?_ ?_ _|refine below_setRow ?_ ?_ _) |go_size))
      ·have HS:=ae (show bV id x y zl zh wd nm of cl=false by simp[bV,h1,h2,h3,h4,h5,h6]);have H1:=ae h1;have H2:=ae h2;have H3:=ae h3;have H4:=ae h4;have H5:=ae h5;have H6:=ae (Bool.eq_false_iff.2 h6);clear h1 h2 h3 h4 h5 h6;have D4:=H4.out;have D5:=H5.out;have D6:=H6.out;go_enter Tryz.func86,Tryz.ntmps86;go_wp2_with fail;refine(aG _ _ _ _).mono ?_;rintro r w9 ⟨rfl,rfl⟩;rw[H1.out];go_wp2_with fail;refine(aG _ _ _ _).mono ?_;rintro r w9 ⟨rfl,rfl⟩;rw[H2.out];go_wp2_with fail;refine(aG _ _ _ _).mono ?_;rintro r w9 ⟨rfl,rfl⟩;rw[H3.out];go_wp2_with fail;go_ret;refine⟨by rw[HS.out];rfl,?_⟩
       (try have hB0:=HB.out)
       (repeat' (first| (with_reducible first|exact Below.refl _ _|assumption|refine Below.alloc ?_ ?_ _|refine Below.drew ?_ |refine below_drewN ?_ _|refine Below.setCell ?_ ?_ _|refine below_setRow ?_ ?_ _) |go_size))
     ·have HS:=ae (show bV id x y zl zh wd nm of cl=false by simp[bV,h1,h2,h3,h4,h5]);have H1:=ae h1;have H2:=ae h2;have H3:=ae h3;have H4:=ae h4;have H5:=ae (Bool.eq_false_iff.2 h5);clear h1 h2 h3 h4 h5;have D4:=H4.out;have D5:=H5.out;go_enter Tryz.func86,Tryz.ntmps86;go_wp2_with fail;refine(aG _ _ _ _).mono ?_;rintro r w9 ⟨rfl,rfl⟩;rw[H1.out];go_wp2_with fail;refine(aG _ _ _ _).mono ?_;rintro r w9 ⟨rfl,rfl⟩;rw[H2.out];go_wp2_with fail;refine(aG _ _ _ _).mono ?_;rintro r w9 ⟨rfl,rfl⟩;rw[H3.out];go_wp2_with fail;go_ret;refine⟨by rw[HS.out];rfl,?_⟩
      (try have hB0:=HB.out)
      (repeat' (first| (with_reducible first|exact Below.refl _ _|assumption|refine Below.alloc ?_ ?_ _|refine Below.drew ?_ |refine below_drewN ?_ _|refine Below.setCell ?_ ?_ _|refine below_setRow ?_ ?_ _) |go_size))
    ·have HS:=ae (show bV id x y zl zh wd nm of cl=false by simp[bV,h1,h2,h3,h4]);have H1:=ae h1;have H2:=ae h2;have H3:=ae h3;have H4:=ae (Bool.eq_false_iff.2 h4);clear h1 h2 h3 h4;have D4:=H4.out;go_enter Tryz.func86,Tryz.ntmps86;go_wp2_with fail;refine(aG _ _ _ _).mono ?_;rintro r w9 ⟨rfl,rfl⟩;rw[H1.out];go_wp2_with fail;refine(aG _ _ _ _).mono ?_;rintro r w9 ⟨rfl,rfl⟩;rw[H2.out];go_wp2_with fail;refine(aG _ _ _ _).mono ?_;rintro r w9 ⟨rfl,rfl⟩;rw[H3.out];go_wp2_with fail;go_ret;refine⟨by rw[HS.out];rfl,?_⟩
     (try have hB0:=HB.out)
     (repeat' (first| (with_reducible first|exact Below.refl _ _|assumption|refine Below.alloc ?_ ?_ _|refine Below.drew ?_ |refine below_drewN ?_ _|refine Below.setCell ?_ ?_ _|refine below_setRow ?_ ?_ _) |go_size))
   ·have HS:=ae (show bV id x y zl zh wd nm of cl=false by simp[bV,h1,h2,h3]);have H1:=ae h1;have H2:=ae h2;have H3:=ae (Bool.eq_false_iff.2 h3);clear h1 h2 h3;go_enter Tryz.func86,Tryz.ntmps86;go_wp2_with fail;refine(aG _ _ _ _).mono ?_;rintro r w9 ⟨rfl,rfl⟩;rw[H1.out];go_wp2_with fail;refine(aG _ _ _ _).mono ?_;rintro r w9 ⟨rfl,rfl⟩;rw[H2.out];go_wp2_with fail;refine(aG _ _ _ _).mono ?_;rintro r w9 ⟨rfl,rfl⟩;rw[H3.out];go_wp2_with fail;go_ret;refine⟨by rw[HS.out];rfl,?_⟩
    (try have hB0:=HB.out)
    (repeat' (first| (with_reducible first|exact Below.refl _ _|assumption|refine Below.alloc ?_ ?_ _|refine Below.drew ?_ |refine below_drewN ?_ _|refine Below.setCell ?_ ?_ _|refine below_setRow ?_ ?_ _) |go_size))
  ·have HS:=ae (show bV id x y zl zh wd nm of cl=false by simp[bV,h1,h2]);have H1:=ae h1;have H2:=ae (Bool.eq_false_iff.2 h2);clear h1 h2;go_enter Tryz.func86,Tryz.ntmps86;go_wp2_with fail;refine(aG _ _ _ _).mono ?_;rintro r w9 ⟨rfl,rfl⟩;rw[H1.out];go_wp2_with fail;refine(aG _ _ _ _).mono ?_;rintro r w9 ⟨rfl,rfl⟩;rw[H2.out];go_wp2_with fail;go_ret;refine⟨by rw[HS.out];rfl,?_⟩
   (try have hB0:=HB.out)
   (repeat' (first| (with_reducible first|exact Below.refl _ _|assumption|refine Below.alloc ?_ ?_ _|refine Below.drew ?_ |refine below_drewN ?_ _|refine Below.setCell ?_ ?_ _|refine below_setRow ?_ ?_ _) |go_size))
 ·have HS:=ae (show bV id x y zl zh wd nm of cl=false by simp[bV,h1]);have H1:=ae (Bool.eq_false_iff.2 h1);clear h1;go_enter Tryz.func86,Tryz.ntmps86;go_wp2_with fail;refine(aG _ _ _ _).mono ?_;rintro r w9 ⟨rfl,rfl⟩;rw[H1.out];go_wp2_with fail;go_ret;refine⟨by rw[HS.out];rfl,?_⟩
  (try have hB0:=HB.out)
  (repeat' (first| (with_reducible first|exact Below.refl _ _|assumption|refine Below.alloc ?_ ?_ _|refine Below.drew ?_ |refine below_drewN ?_ _|refine Below.setCell ?_ ?_ _|refine below_setRow ?_ ?_ _) |go_size))
open Go.RowKit Go.Maps
def gF (w:World) (b off n:Nat) (F:Nat->Nat->Int):Prop:=∀i,i<n->∀j,j<9->w.cell? ⟨b,off+i*9+j,none⟩=some (.int .i64 (F i j))
theorem gF.still {w w':World} {b off n B:Nat} {F:Nat->Nat->Int} (h:gF w b off n F) (hb:Below B w w') (hB:b<B):gF w' b off n F:=
 fun i hi j hj=>by rw[hb.cell hB];exact h i hi j hj
def fB (p:Nat->Bool):Nat->Bool
 |0=>true
 |k+1=>fB p k && p k
theorem lB {p:Nat->Bool} {k:Nat} (h:fB p k=true) (h2:p k=true):fB p (k+1)=true:=by simp[fB,h,h2]
theorem lU {p:Nat->Bool} {n k:Nat} (hk:k<n) (h:p k=false):fB p n=false:=by
 induction n with
 |zero=>omega
 |succ n ih=>
  by_cases he:k=n
  ·subst he;simp[fB,h]
  ·simp[fB,ih (by omega)]
theorem AG {p:Nat->Bool} {n:Nat} :fB p n=true↔∀i,i<n->p i=true:=by
 induction n with
 |zero=>simp[fB]
 |succ n ih=>
  simp only[fB,Bool.and_eq_true,ih];constructor
  ·rintro⟨h1,h2⟩ i hi;by_cases he:i=n
   ·subst he;exact h2
   ·exact h1 i (by omega)
  ·intro h;exact⟨fun i hi=>h i (by omega),h n (by omega)⟩
def G2 (p:Nat->Int):Bool:=bX (p 0) (p 1) (p 2) (p 3) (p 4) (p 5) (p 6) (p 7)
def oR (F:Nat->Nat->Int) (i:Nat):Bool:=G2 (F i) && !(List.range i).any (fun j=>F j 0 == F i 0)
def f8 (F:Nat->Nat->Int) (n:Nat):Bool:=decide (n<=1024) && fB (oR F) n
def nT (F:Nat->Nat->Int) (k:Nat):Lit->Option Value:=fun l=>if(List.range k).any (fun j=>(Lit.int .i64 (F j 0)).sameKey l) then some (.bool true) else none
theorem tq:Keyed Tryz.prog 3:=int_keyed Tryz.underlying3
theorem Kg (w:World):(zeroValue 4).run Tryz.prog w=.ok (.bool false) w:=by kernel_rfl
theorem Gn {a b:Int} (h:a≠b):Lit.int .i64 a≠Lit.int .i64 b:=fun e=>h (by injection e)
theorem kS (a b:Int):(Lit.int .i64 a).sameKey (.int .i64 b)=(a == b):=by
 by_cases h:a=b
 ·subst h;rw[beq_self_eq_true];exact WideAt.sameKey_self trivial
 ·rw[sameKey_ne (Gn h)];simp[h]
theorem xP (F:Nat->Nat->Int) (k:Nat) (x:Int):(nT F k (.int .i64 x)).getD (.bool false)=.bool ((List.range k).any (fun j=>F j 0 == x)):=by
 unfold nT;simp only[kS]
 cases (List.range k).any (fun j=>F j 0 == x)<;>rfl
theorem AO (F:Nat->Nat->Int) (k:Nat):dS (nT F k) (.int .i64 (F k 0)) (.bool true)=nT F (k+1):=by
 funext l;by_cases h:l=.int .i64 (F k 0)
 ·subst h;rw[eF (show WideAt.IsKeyLit (Lit.int .i64 (F k 0)) from trivial)];unfold nT;rw[List.range_succ,List.any_append];simp[kS]
 ·rw[ew h];unfold nT;rw[List.range_succ,List.any_append];simp[sameKey_ne (Ne.symm h)]
theorem qe {p:Nat->Int} (h:G2 p=true):0<=p 0/\p 0<=1152921504606846976:=by
 unfold G2 bX at h;simp[dY] at h;omega
theorem zy (b off n c:Nat) (F:Nat->Nat->Int) (w:World) (hn0:0<n) (hbw:b<w.heap.size) (hr:gF w b off n F):
 Calls Tryz.prog 69 #[.slice (some ⟨b,off,none⟩) n c] w fun r w'=>r=.returned (.bool (f8 F n))/\Below w.heap.size w w':=by
 have HC:=ae hr;clear hr;by_cases hn:n<=1024
 ·have hmm:=fun(x:Int) (W:World)=>(show(Instr.makeMap 163 (some (.int .i64 x))).run Tryz.prog W=.ok (.map (some W.heap.size)) (W.alloc (.map #[] 0)) by simp[Instr.makeMap,run_underlying Tryz.underlying163,asInt,newObj];rfl)
  have hp:¬(1024:Int)<(n:Int):=by omega
  have hd:decide ((1024:Int)<(n:Int))=false:=decide_eq_false hp;go_enter Tryz.func69,Tryz.ntmps69;go_wp2_with fail
  go_loopw [14] (fun iv W=>∃k:Nat,k<=n/\iv=.int .i64 (k:Int)/\fB (oR F) k=true/\bI Tryz.prog W 3 w.heap.size k (nT F k)/\Below w.heap.size w W/\w.heap.size<W.heap.size) (fun iv _=>n-(intOf iv).toNat)
  case atStart=>exact⟨0,by omega,rfl,rfl,bI.made w,(Below.refl _ _).alloc (Nat.le_refl _) _,by simp⟩
  case round=>
   obtain⟨k,hk,rfl,hall,hmap,hB,hzw⟩:=hrel;have oM:=ae hB;have hzwr:=hB.size;have HA:=ae hall;have HM:=ae hmap;clear hall hmap;by_cases hlt:k<n
   ·have hcs:=HC.out.still hB hbw k hlt;have c0:=hcs 0 (by decide);have c1:=hcs 1 (by decide);have c2:=hcs 2 (by decide);have c3:=hcs 3 (by decide);have c4:=hcs 4 (by decide);have c5:=hcs 5 (by decide);have c6:=hcs 6 (by decide);have c7:=hcs 7 (by decide);have c8:=hcs 8 (by decide);rw[Nat.add_zero] at c0;have HST:=ae (fun bb (h:oR F k=bb)=>h);have wG:=ae (show oR F k=(bX (F k 0) (F k 1) (F k 2) (F k 3) (F k 4) (F k 5) (F k 6) (F k 7) && !(List.range k).any (fun j=>F j 0 == F k 0)) from rfl);have Qx:=ae (fun h:bX (F k 0) (F k 1) (F k 2) (F k 3) (F k 4) (F k 5) (F k 6) (F k 7)=true=>@qe (F k) h);have eC:=ae (fun h:oR F k=true=>lB HA.out h);have HX:=ae (fun h:oR F k=false=>show f8 F n=false by unfold f8;rw[lU hlt h];simp);have yR:=ae (xP F k (F k 0));have AP:=ae (AO F k);clear hB hcs HST;generalize F k 0=p0 at*;generalize F k 1=p1 at*;generalize F k 2=p2 at*;generalize F k 3=p3 at*;generalize F k 4=p4 at*;generalize F k 5=p5 at*;generalize F k 6=p6 at*;generalize F k 7=p7 at*;generalize F k 8=p8 at*;by_cases hp:bX p0 p1 p2 p3 p4 p5 p6 p7=true
    ·have HP:=ae hp;have hwf:(Lit.int .i64 p0).wf =true:=WalkArith.wf_i64 (by have:=Qx.out hp;omega);have HKEY:=ae (keyOf_int_mk Tryz.underlying3 hwf);clear hp hwf;go_wp2_with fail;have il:=ae (ai wr (.cells #[.int .i64 p0,.int .i64 p1,.int .i64 p2,.int .i64 p3,.int .i64 p4,.int .i64 p5,.int .i64 p6,.int .i64 p7,.int .i64 p8] 106) _ rfl);have BW:=ae (HM.out.grow ((Below.refl _ _).alloc (Nat.le_refl _) (.cells #[.int .i64 p0,.int .i64 p1,.int .i64 p2,.int .i64 p3,.int .i64 p4,.int .i64 p5,.int .i64 p6,.int .i64 p7,.int .i64 p8] 106)));refine(nW _ _ _ _ _ _ _ _ _ _).mono ?_;rintro r w1 ⟨rfl,hb⟩;rw[HP.out];have hs1:=hb.size;simp at hs1;have q0:w1.cell? ⟨wr.heap.size,0,none⟩=some (.int .i64 p0):=(af (j:=0) (aj hb il.out)).trans rfl;have Lq:=ae (BW.out.grow hb);have HB1:=ae (show Below w.heap.size w w1 from(oM.out.alloc hzwr _).trans (hb.mono (by simp;omega)));have hlook:=Lq.out.look tq Tryz.underlying163 (Kg w1) HKEY.out;rw[yR.out] at hlook;clear hb HM BW
     cases hq:(List.range k).any (fun j=>F j 0 == p0)
     ·rw[hq] at hlook;have lp:=ae (eC.out (by rw[wG.out,HP.out,hq];rfl));clear hq;go_wp2_with (at_mapUpdate;refine vN rfl (.tmp 27) (.tmp 29) (.const (.bool true)) 163 rfl tq Tryz.underlying163 rfl Lq.out (by unfold maxLen;omega) (.int .i64 p0) (.bool true) (.int .i64 p0) rfl rfl HKEY.out ?_;intro w2 hm2 hg2);rw[AP.out] at hm2;have hs2:=hg2.size;exact⟨⟨k+1,by omega,by go_num,lp.out,hm2,HB1.out.grown hg2 (by omega) (fun j hj=>by injection hj with hj;omega),by omega⟩,by simp[intOf];omega⟩
     ·rw[hq] at hlook;have lp:=ae (HX.out (by rw[wG.out,HP.out,hq];rfl));clear hq;go_wp2_with fail;go_ret;exact⟨by rw[lp.out];rfl,HB1.out⟩
    ·have HP:=ae (Bool.eq_false_iff.2 hp);clear hp;have lp:=ae (HX.out (by rw[wG.out,HP.out];rfl));go_wp2_with fail;refine(nW _ _ _ _ _ _ _ _ _ _).mono ?_;rintro r w1 ⟨rfl,hb⟩;rw[HP.out];have HB1:=ae (show Below w.heap.size w w1 from(oM.out.alloc hzwr _).trans (hb.mono (by simp;omega)));clear hb;go_wp2_with fail;go_ret;exact⟨by rw[lp.out];rfl,HB1.out⟩
   ·obtain rfl:k=n:=by omega
    have HV:=ae (show f8 F k=true by unfold f8;rw[HA.out];simp;omega);clear hB;go_wp2_with fail;go_ret;exact⟨by rw[HV.out];rfl,oM.out⟩
 ·have HV:=ae (show f8 F n=false by simp[f8,hn]);have hp:(1024:Int)<(n:Int):=by omega
  have hd:decide ((1024:Int)<(n:Int))=true:=decide_eq_true hp;clear hn;go_enter Tryz.func69,Tryz.ntmps69;go_wp2_with fail;go_ret;exact⟨by rw[HV.out];rfl,Below.refl _ _⟩
open Go.RowKit Go.Maps
def nt (F:Nat->Nat->Int) (i:Nat):Bool:=dY 0 255 (F i 8)
def i3 (F:Nat->Nat->Int) (n:Nat):Bool:=fB (nt F) n && f8 F n
theorem AX {F:Nat->Nat->Int} {i:Nat} (h:F i 8<0∨255<F i 8):nt F i=false:=by
 unfold nt dY;simp;omega
theorem Bf {F:Nat->Nat->Int} {i:Nat} (h:¬F i 8<0) (h2:¬ 255<F i 8):nt F i=true:=by
 unfold nt dY;simp;omega
theorem vA (a:Option Addr) (c:Nat) (w:World):
 Calls Tryz.prog 69 #[.slice a 0 c] w fun r w'=>r=.returned (.bool true)/\Below w.heap.size w w':=by
 have hmm:=fun(x:Int) (W:World)=>(show(Instr.makeMap 163 (some (.int .i64 x))).run Tryz.prog W=.ok (.map (some W.heap.size)) (W.alloc (.map #[] 0)) by simp[Instr.makeMap,run_underlying Tryz.underlying163,asInt,newObj];rfl)
 go_enter Tryz.func69,Tryz.ntmps69;go_wp2_with fail;refine wp_loop_rounds 1 ?_;rw[rounds_succ];go_wp2_with fail;go_ret;exact⟨rfl,by(repeat' (first| (with_reducible first|exact Below.refl _ _|assumption|refine Below.alloc ?_ ?_ _|refine Below.drew ?_ |refine below_drewN ?_ _|refine Below.setCell ?_ ?_ _|refine below_setRow ?_ ?_ _) |go_size))⟩
theorem yg (a:Option Addr) (c:Nat) (w:World):
 Calls Tryz.prog 38 #[.slice a 0 c] w fun r w'=>r=.returned (.bool true)/\Below w.heap.size w w':=by
 go_enter Tryz.func38,Tryz.ntmps38;go_wp2_with fail;refine wp_loop_rounds 1 ?_;rw[rounds_succ];go_wp2_with fail;refine(vA _ _ _).mono ?_;rintro r w1 ⟨rfl,hb⟩;go_wp2_with fail;go_ret;exact⟨rfl,hb⟩
theorem sP (b off n c:Nat) (F:Nat->Nat->Int) (w:World) (hn0:0<n) (hnm:n<=maxLen) (hbw:b<w.heap.size) (hr:gF w b off n F):
 Calls Tryz.prog 38 #[.slice (some ⟨b,off,none⟩) n c] w fun r w'=>r=.returned (.bool (i3 F n))/\Below w.heap.size w w':=by
 have HC:=ae hr;clear hr;have hnm':n<=9223372036854775807:=by unfold maxLen at hnm;omega
 clear hnm;go_enter Tryz.func38,Tryz.ntmps38;go_wp2_with fail
 go_loopw [7] (fun iv W=>∃k:Nat,k<=n/\iv=.int .i64 (k:Int)/\fB (nt F) k=true/\Below w.heap.size w W) (fun iv _=>n-(intOf iv).toNat)
 case atStart=>exact⟨0,by omega,rfl,rfl,Below.refl _ _⟩
 case round=>
  obtain⟨k,hk,rfl,hall,hB⟩:=hrel;have oM:=ae hB;have hzwr:=hB.size;have HA:=ae hall;clear hall;by_cases hlt:k<n
  ·have hcs:=HC.out.still hB hbw k hlt;have c0:=hcs 0 (by decide);have c1:=hcs 1 (by decide);have c2:=hcs 2 (by decide);have c3:=hcs 3 (by decide);have c4:=hcs 4 (by decide);have c5:=hcs 5 (by decide);have c6:=hcs 6 (by decide);have c7:=hcs 7 (by decide);have c8:=hcs 8 (by decide);rw[Nat.add_zero] at c0;have HBAD:=ae (fun h:F k 8<0∨255<F k 8=>show i3 F n=false by unfold i3;rw[lU hlt (AX h)];rfl);have gP:=ae (fun(h:¬F k 8<0) (h2:¬ 255<F k 8)=>lB HA.out (Bf h h2));clear hB hcs;generalize F k 0=p0 at*;generalize F k 1=p1 at*;generalize F k 2=p2 at*;generalize F k 3=p3 at*;generalize F k 4=p4 at*;generalize F k 5=p5 at*;generalize F k 6=p6 at*;generalize F k 7=p7 at*;generalize F k 8=p8 at*;by_cases hl:p8<0
   ·have HX:=ae (HBAD.out (.inl hl));go_wp2_with fail;go_ret;exact⟨by rw[HX.out];rfl,oM.out.alloc hzwr _⟩
   by_cases hg:255<p8
   ·have HX:=ae (HBAD.out (.inr hg));go_wp2_with fail;go_ret;exact⟨by rw[HX.out];rfl,oM.out.alloc hzwr _⟩
   have HX:=ae (gP.out hl hg);go_wp2_with fail;exact⟨⟨k+1,by omega,by go_num,HX.out,oM.out.alloc hzwr _⟩,by simp[intOf];omega⟩
  ·obtain rfl:k=n:=by omega
   have HV:=ae (show i3 F k=f8 F k by unfold i3;rw[HA.out];rfl);have QU:=ae (HC.out.still hB hbw);clear hB;go_wp2_with fail;refine(zy b off k c F wr hn0 (by omega) QU.out).mono ?_;rintro r w1 ⟨rfl,hb⟩;go_wp2_with fail;go_ret;exact⟨by rw[HV.out];rfl,oM.out.trans (hb.mono hzwr)⟩
open Go.RowKit Go.Maps Go.Sort
def jN (F:Nat->Nat->Int) (i:Nat) (p:Int):Bool:=(List.range i).any (fun j=>F j 0 == p)
theorem vE (F:Nat->Nat->Int) (i:Nat) (p:Int):jN F (i+1) p=(jN F i p || F i 0 == p):=by
 unfold jN;rw[List.range_succ,List.any_append];simp
theorem uA {F:Nat->Nat->Int} {i j:Nat} {p:Int} (h:j<i) (he:F j 0=p):jN F i p=true:=by
 unfold jN;rw[List.any_eq_true];exact⟨j,List.mem_range.2 h,by simp[he]⟩
def ld (F:Nat->Nat->Int) (i:Nat):Bool:=(G2 (F i) && dY 0 255 (F i 8)) && !jN F i (F i 0)
theorem Av (p q:Nat->Bool) (n:Nat):fB (fun i=>p i && q i) n=(fB p n && fB q n):=by
 induction n with
 |zero=>rfl
 |succ n ih=>
  simp only[fB,ih]
  cases fB p n<;>cases fB q n<;>cases p n<;>cases q n<;>rfl
theorem zm (F:Nat->Nat->Int) (n:Nat):i3 F n=(decide (n<=1024) && fB (ld F) n):=by
 have e:ld F=fun i=>nt F i && oR F i:=by
  funext i;unfold ld nt oR jN
  cases G2 (F i)<;>cases dY 0 255 (F i 8)<;>rfl
 rw[e,Av];unfold i3 f8
 cases fB (nt F) n<;>cases decide (n<=1024)<;>rfl
theorem tu (a:Option Addr) (c:Nat) (w:World):
 Calls Tryz.prog 62 #[.slice a 0 c] w fun r w'=>r=.returned (.bool true)/\Below w.heap.size w w':=by
 go_enter Tryz.func62,Tryz.ntmps62;go_wp2_with fail;refine wp_loop_rounds 1 ?_;rw[rounds_succ];go_wp2_with fail;go_ret;exact⟨rfl,by(repeat' (first| (with_reducible first|exact Below.refl _ _|assumption|refine Below.alloc ?_ ?_ _|refine Below.drew ?_ |refine below_drewN ?_ _|refine Below.setCell ?_ ?_ _|refine below_setRow ?_ ?_ _) |go_size))⟩
theorem vB (b off n c:Nat) (F:Nat->Nat->Int) (w:World) (hn0:0<n) (hbw:b<w.heap.size) (hr:gF w b off n F):
 Calls Tryz.prog 62 #[.slice (some ⟨b,off,none⟩) n c] w fun r w'=>r=.returned (.bool (i3 F n))/\Below w.heap.size w w':=by
 rw[zm];obtain⟨gv,hgv⟩:∃gv,gv=(decide (n<=1024) && fB (ld F) n):=⟨_,rfl⟩;rw[<-hgv];have HC:=ae hr;clear hr;by_cases hn:n<=1024
 ·have hp:¬(1024:Int)<(n:Int):=by omega
  have hd:decide ((1024:Int)<(n:Int))=false:=decide_eq_false hp;have On:=ae (show gv=fB (ld F) n by rw[hgv];simp[hn]);clear hgv;go_enter Tryz.func62,Tryz.ntmps62;go_wp2_with fail
  go_loopw [10] (fun iv W=>∃k:Nat,k<=n/\iv=.int .i64 (k:Int)/\fB (ld F) k=true/\Below w.heap.size w W) (fun iv _=>n-(intOf iv).toNat)
  case atStart=>exact⟨0,by omega,rfl,rfl,Below.refl _ _⟩
  case round=>
   obtain⟨k,hk,rfl,hall,hB⟩:=hrel;have oM:=ae hB;have hzwr:=hB.size;have HA:=ae hall;clear hall;by_cases hlt:k<n
   ·have hcs:=HC.out.still hB hbw k hlt;have HRW:=ae (HC.out.still hB hbw);have c0:=hcs 0 (by decide);have c1:=hcs 1 (by decide);have c2:=hcs 2 (by decide);have c3:=hcs 3 (by decide);have c4:=hcs 4 (by decide);have c5:=hcs 5 (by decide);have c6:=hcs 6 (by decide);have c7:=hcs 7 (by decide);have c8:=hcs 8 (by decide);rw[Nat.add_zero] at c0;have lp:=ae (show ld F k=((bX (F k 0) (F k 1) (F k 2) (F k 3) (F k 4) (F k 5) (F k 6) (F k 7) && dY 0 255 (F k 8)) && !jN F k (F k 0)) from rfl);have eC:=ae (fun h:ld F k=true=>lB HA.out h);have HX:=ae (fun h:ld F k=false=>show gv=false by rw[On.out];exact lU hlt h);clear hB hcs;generalize F k 0=p0 at lp c0⊢;generalize F k 1=p1 at lp c1⊢;generalize F k 2=p2 at lp c2⊢;generalize F k 3=p3 at lp c3⊢;generalize F k 4=p4 at lp c4⊢;generalize F k 5=p5 at lp c5⊢;generalize F k 6=p6 at lp c6⊢;generalize F k 7=p7 at lp c7⊢;generalize F k 8=p8 at lp c8⊢;have C0:=ae c0;go_wp2_with fail;refine(vt _ _ _ _ _ _ _ _ _ _).mono ?_;rintro r w1 ⟨rfl,hb⟩;have HB1:=ae (show Below w.heap.size w w1 from oM.out.trans (hb.mono hzwr));have Mu:=ae (HRW.out.still hb (by omega));have D0:=ae (show w1.cell? ⟨b,off+k*9,none⟩=some (.int .i64 p0) from(hb.cell (p:=⟨b,off+k*9,none⟩) (show b<wr.heap.size by omega)).trans C0.out);have hs1:=hb.size;clear hb c0 c1 c2 c3 c4 c5 c6 c7 c8
    cases hq:(bX p0 p1 p2 p3 p4 p5 p6 p7 && dY 0 255 p8)
    ·have HF:=ae (HX.out (by rw[lp.out,hq];rfl));clear hq;go_wp2_with fail;go_ret;exact⟨by rw[HF.out];rfl,HB1.out⟩
    ·have HQ:=ae hq;clear hq;have Kr:=HB1.out.size;go_wp2_with fail
     go_loopw [4] (fun jv W=>∃j:Nat,j<=k/\jv=.int .i64 (j:Int)/\jN F j p0=false/\Below w1.heap.size w1 W) (fun jv _=>k-(intOf jv).toNat)
     case atStart=>exact⟨0,by omega,rfl,rfl,Below.refl _ _⟩
     case round=>
      obtain⟨j,hjk,rfl,hany,hB2⟩:=hrel;have HB2:=ae hB2;have Dp:=ae hany;clear hany;have hz2:=hB2.size;by_cases hjl:j<k
      ·have hcj:=Mu.out.still hB2 (by omega) j (by omega) 0 (by decide);rw[Nat.add_zero] at hcj;have hck:wr.cell? ⟨b,off+k*9,none⟩=some (.int .i64 p0):=(hB2.cell (p:=⟨b,off+k*9,none⟩) (show b<w1.heap.size by omega)).trans D0.out;have HST:=ae (fun h:F j 0=p0=>@uA F k j p0 hjl h);have QA:=ae (vE F j p0);clear hB2;generalize F j 0=q at*;have a0:=fun d os=>cell_regrown hcj d os
       have b0:=fun d os=>cell_regrown hck d os
       go_wp2_with fail;refine wp_region_quiet_below (by kernel_rfl) (by kernel_rfl) ?_
       repeat(first|go_big_quiet_step (fail) |quiet_step (fail))
       refine wpQuiet_nil ?_;intro _ hw';obtain⟨⟨dq,osq⟩,hw2⟩:=hw';subst hw2;have HB3:=ae (HB2.out.trans ((below_regrown wr dq osq).mono hz2));clear a0 b0 hcj hck;generalize grow (redrawn wr dq) osq=W9 at*;by_cases hqp:q=p0
       ·have pd:(q == p0)=true:=beq_iff_eq.2 hqp;have HF:=ae (HX.out (by rw[lp.out,HQ.out,HST.out hqp];rfl));clear hqp;go_wp2_with fail;go_ret;exact⟨by rw[HF.out];rfl,HB1.out.trans (HB3.out.mono Kr)⟩
       ·have pd:(q == p0)=false:=beq_eq_false_iff_ne.2 hqp;have HJ:=ae (show jN F (j+1) p0=false by rw[QA.out,Dp.out,pd];rfl);clear hqp;go_wp2_with fail;exact⟨⟨j+1,by omega,by go_num,HJ.out,HB3.out⟩,by simp[intOf];omega⟩
      ·obtain rfl:j=k:=by omega
       have HN:=ae (eC.out (by rw[lp.out,HQ.out,Dp.out];rfl));clear hB2;go_wp2_with fail;exact⟨⟨j+1,by omega,by go_num,HN.out,HB1.out.trans (HB2.out.mono Kr)⟩,by simp[intOf];omega⟩
   ·obtain rfl:k=n:=by omega
    have HV:=ae (show gv=true by rw[On.out,HA.out]);clear hB;go_wp2_with fail;go_ret;exact⟨by rw[HV.out];rfl,oM.out⟩
 ·have HV:=ae (show gv=false by rw[hgv];simp[hn]);have hp:(1024:Int)<(n:Int):=by omega
  have hd:decide ((1024:Int)<(n:Int))=true:=decide_eq_true hp;clear hn hgv;go_enter Tryz.func62,Tryz.ntmps62;go_wp2_with fail;go_ret;exact⟨by rw[HV.out];rfl,Below.refl _ _⟩
open Go.RowKit
def Gs (x:Int):Int:=IntKind.u64.wrap (bits .xor .u64 x (x/1073741824)*13787848793156543929)
def GU (x:Int):Int:=IntKind.u64.wrap (bits .xor .u64 x (x/134217728)*10723151780598845931)
def GZ (x:Int):Int:=bits .xor .u64 x (x/2147483648)
def aY (id:Int):Int:=GZ (GU (Gs (IntKind.u64.wrap (IntKind.u64.wrap id+11400714819323198485))))
theorem pQ (id:Int) (w:World):Calls Tryz.prog 20 #[.int .i64 id] w fun e w'=>e=.returned (.int .u64 (aY id))/\w=w':=by
 go_enter Tryz.func20,Tryz.ntmps20;go_wp2_with fail;go_ret;exact⟨rfl,rfl⟩
theorem nF (x c:Int) (hc:1<=c):IntKind.u64.wrap ((IntKind.u64.wrap x).tdiv c)=IntKind.u64.wrap x/c:=by
 have h0:=wrap_u64_nonneg x;have h1:IntKind.u64.wrap x<18446744073709551616:=by rw[IntKind.wrap_u64];omega
 rw[Int.tdiv_eq_ediv_of_nonneg h0];generalize IntKind.u64.wrap x=y at*;rw[IntKind.wrap_u64];have h2:0<=y/c:=Int.ediv_nonneg h0 (by omega);have h3:y/c<=y:=Int.ediv_le_self c h0;omega
theorem yT (id:Int) (w:World):Calls Tryz.prog 130 #[.int .i64 id] w fun e w'=>e=.returned (.int .u64 (aY id))/\w=w':=by
 have h0:=wrap_u64_nonneg;go_enter Tryz.func130,Tryz.ntmps130;go_wp2_with fail;simp only[nF _ 1073741824 (by decide),nF _ 134217728 (by decide),nF _ 2147483648 (by decide)];go_ret;exact⟨rfl,rfl⟩
open Go.RowKit
theorem wv (k x:Nat) (h3:x<2 ^ (3*k)):(x ^^^ x >>>k) ^^^ (x ^^^ x >>>k) >>>k ^^^ (x ^^^ x >>>k) >>>(2*k)=x:=by
 have e0:x >>>(3*k)=0:=by rw[Nat.shiftRight_eq_div_pow];exact Nat.div_eq_of_lt h3
 rw[Nat.shiftRight_xor_distrib,Nat.shiftRight_xor_distrib,<-Nat.shiftRight_add,<-Nat.shiftRight_add,show k+k=2*k by omega,show k+2*k=3*k by omega,e0,Nat.xor_zero];apply Nat.eq_of_testBit_eq;intro i;simp only[Nat.testBit_xor]
 cases x.testBit i<;>cases (x >>>k).testBit i<;>cases (x >>>(2*k)).testBit i<;>rfl
theorem u9 (k x y:Nat) (hx:x<2 ^ (3*k)) (hy:y<2 ^ (3*k)) (h:x ^^^ x >>>k=y ^^^ y >>>k):x=y:=by
 rw[<-wv k x hx,<-wv k y hy,h]
theorem wB (k x:Nat) (h:x<18446744073709551616):x ^^^ x >>>k<18446744073709551616:=by
 have h2:x >>>k<2 ^ 64:=Nat.lt_of_le_of_lt (by rw[Nat.shiftRight_eq_div_pow];exact Nat.div_le_self _ _) h;exact Nat.xor_lt_two_pow (n:=64) h h2
theorem wy (m m' k x y:Nat) (hm:m*m'=k*18446744073709551616+1) (hx:x<18446744073709551616) (hy:y<18446744073709551616) (h:x*m%18446744073709551616=y*m%18446744073709551616):x=y:=by
 have back:∀z,z<18446744073709551616->(z*m%18446744073709551616)*m'%18446744073709551616=z:=fun z hz=>by
  rw[Nat.mul_mod,Nat.mod_mod,<-Nat.mul_mod,Nat.mul_assoc,hm,Nat.mul_add,Nat.mul_one,<-Nat.mul_assoc,Nat.mul_add_mod_self_right];exact Nat.mod_eq_of_lt hz
 rw[<-back x hx,<-back y hy,h]
theorem CP (x y:Nat) (hx:x<18446744073709551616) (hy:y<18446744073709551616) (h:x*13787848793156543929%18446744073709551616=y*13787848793156543929%18446744073709551616):x=y:=
 wy 13787848793156543929 10871156337175269513 8125545580553827436 x y (by decide) hx hy h
theorem Ai (x y:Nat) (hx:x<18446744073709551616) (hy:y<18446744073709551616) (h:x*10723151780598845931%18446744073709551616=y*10723151780598845931%18446744073709551616):x=y:=
 wy 10723151780598845931 3573116690164977347 2077064247507883091 x y (by decide) hx hy h
def sA (a:Nat):Nat:=(a ^^^ a >>>30)*13787848793156543929%18446744073709551616
def sB (b:Nat):Nat:=(b ^^^ b >>>27)*10723151780598845931%18446744073709551616
def sC (c:Nat):Nat:=c ^^^ c >>>31
def sD (n:Nat):Nat:=(n+11400714819323198485)%18446744073709551616
def xd (n:Nat):Nat:=sC (sB (sA (sD n)))
theorem AD (a:Nat):sA a<18446744073709551616:=Nat.mod_lt _ (by decide)
theorem AA (a:Nat):sB a<18446744073709551616:=Nat.mod_lt _ (by decide)
theorem Bi (a:Nat):sD a<18446744073709551616:=Nat.mod_lt _ (by decide)
theorem lW {a:Nat} (k:Nat) (h:a<18446744073709551616) (hk:64<=3*k):a<2 ^ (3*k):=
 Nat.lt_of_lt_of_le h (Nat.pow_le_pow_right (by omega:0<2) hk)
theorem Hd {a b:Nat} (ha:a<18446744073709551616) (hb:b<18446744073709551616) (h:sA a=sA b):a=b:=by
 have:=CP _ _ (wB 30 a ha) (wB 30 b hb) h;exact u9 30 a b (lW 30 ha (by decide)) (lW 30 hb (by decide)) this
theorem Ho {a b:Nat} (ha:a<18446744073709551616) (hb:b<18446744073709551616) (h:sB a=sB b):a=b:=by
 have:=Ai _ _ (wB 27 a ha) (wB 27 b hb) h;exact u9 27 a b (lW 27 ha (by decide)) (lW 27 hb (by decide)) this
theorem Hf {a b:Nat} (ha:a<18446744073709551616) (hb:b<18446744073709551616) (h:sC a=sC b):a=b:=
 u9 31 a b (lW 31 ha (by decide)) (lW 31 hb (by decide)) h
theorem Ha {a b:Nat} (ha:a<18446744073709551616) (hb:b<18446744073709551616) (h:sD a=sD b):a=b:=by
 unfold sD at h;omega
theorem x9 {n m:Nat} (hn:n<18446744073709551616) (hm:m<18446744073709551616) (h:xd n=xd m):n=m:=
 Ha hn hm (Hd (Bi n) (Bi m) (Ho (AD _) (AD _) (Hf (AA _) (AA _) h)))
theorem wc (k x:Nat) (h:x<18446744073709551616):bits .xor .u64 (x:Int) ((x:Int)/((2 ^ k:Nat):Int))=((x ^^^ x >>>k:Nat):Int):=by
 rw[xorShift_u64 x (2 ^ k) h,Nat.shiftRight_eq_div_pow]
theorem Ah (a:Nat) (h:a<18446744073709551616):Gs (a:Int)=(sA a:Int):=by
 have e1:=wc 30 a h;rw[show((2 ^ 30:Nat):Int)=1073741824 from rfl] at e1;unfold Gs sA;rw[e1,IntKind.wrap_u64];omega
theorem AQ (a:Nat) (h:a<18446744073709551616):GU (a:Int)=(sB a:Int):=by
 have e1:=wc 27 a h;rw[show((2 ^ 27:Nat):Int)=134217728 from rfl] at e1;unfold GU sB;rw[e1,IntKind.wrap_u64];omega
theorem Ck (a:Nat) (h:a<18446744073709551616):GZ (a:Int)=(sC a:Int):=by
 have e1:=wc 31 a h;rw[show((2 ^ 31:Nat):Int)=2147483648 from rfl] at e1;unfold GZ sC;exact e1
theorem pY (n:Nat):aY (n:Int)=(xd n:Int):=by
 have e0:IntKind.u64.wrap (IntKind.u64.wrap (n:Int)+11400714819323198485)=(sD n:Int):=by
  rw[IntKind.wrap_u64,IntKind.wrap_u64];unfold sD;omega
 unfold aY xd;rw[e0,Ah _ (Bi n),AQ _ (AD _),Ck _ (AA _)]
theorem B7 {a b:Int} (ha:0<=a/\a<=1152921504606846976) (hb:0<=b/\b<=1152921504606846976) (h:aY a=aY b):a=b:=by
 obtain⟨n,rfl⟩:=Int.eq_ofNat_of_zero_le ha.1;obtain⟨m,rfl⟩:=Int.eq_ofNat_of_zero_le hb.1;rw[pY n,pY m] at h;have:=x9 (n:=n) (m:=m) (by omega) (by omega) (by exact_mod_cast h);omega
open Go.RowKit
theorem aF {P:Program} {t:TypeId} {z:Option Value} {sz by':Nat} (h:(P.info? t).map (fun i=>(i.zero,i.size,i.bytes))=some (z,sz,by')):∃i,P.info? t=some i/\i.zero=z/\i.size=sz/\i.bytes=by':=by
 cases hi:P.info? t with
 |none=>rw[hi] at h;simp at h
 |some i=>rw[hi] at h;simp at h;exact⟨i,rfl,h.1,h.2.1,h.2.2⟩
theorem ix:(Tryz.prog.info? 106).map (fun i=>(i.zero,i.size,i.bytes))=some (some (.agg #[.int .i64 0,.int .i64 0,.int .i64 0,.int .i64 0,.int .i64 0,.int .i64 0,.int .i64 0,.int .i64 0,.int .i64 0]),9,72):=by kernel_rfl
def jQ (p:Nat->Int):List Value:=[.int .i64 (p 0),.int .i64 (p 1),.int .i64 (p 2),.int .i64 (p 3),.int .i64 (p 4),.int .i64 (p 5),.int .i64 (p 6),.int .i64 (p 7),.int .i64 (p 8)]
theorem tF (p:Nat->Int) (j:Nat) (hj:j<9):(jQ p)[j]? =some (.int .i64 (p j)):=by
 match j,hj with
 |0,_|1,_|2,_|3,_|4,_|5,_|6,_|7,_|8,_=>rfl
theorem wa (p:Nat->Int):(jQ p).length =9/\∀u∈jQ p,u.oneCell'=true:=by
 refine⟨rfl,fun u hu=>?_⟩;simp[jQ] at hu
 rcases hu with rfl|rfl|rfl|rfl|rfl|rfl|rfl|rfl|rfl<;>rfl
def gR (l:List (Nat->Int)):List (List Value):=l.map jQ
theorem tP (l:List (Nat->Int)):bF 9 (gR l):=fun r hr=>by
 obtain⟨p,_,rfl⟩:=List.mem_map.1 hr;exact wa p
theorem jO (l:List (Nat->Int)):(gR l).length =l.length:=List.length_map ..
def gO (F:Nat->Nat->Int) (n:Nat):List (Nat->Int):=(List.range n).map F
theorem jJ (F:Nat->Nat->Int) (n:Nat):(gO F n).length =n:=by simp[gO]
theorem we {w:World} {b off n:Nat} {F:Nat->Nat->Int} (h:gF w b off n F):aB w b off 9 (gR (gO F n)):=fun i r hi j hj=>by
 have hil:i<n:=by
  have:=(List.getElem?_eq_some_iff.1 hi).1;rwa[jO,jJ] at this
 simp[gR,gO,hil] at hi;subst hi;rw[tF _ _ hj];exact h i hil j hj
theorem pR (b off n c:Nat) (F:Nat->Nat->Int) (w:World) (hn:n<=1000000000000) (hbw:b<w.heap.size) (hr:gF w b off n F):
 Calls Tryz.prog 57 #[.slice (some ⟨b,off,none⟩) n c] w fun r w'=>(∃v,r=.returned v/\al w' w.heap.size 106 9 v (gR (gO F n)))/\Below w.heap.size w w':=by
 have HC:=ae (we hr);obtain⟨i0,hi,hz0,hz1,hz2⟩:=aF ix;have HI:=ae hi;have HZ0:=ae hz0;have HZ1:=ae hz1;have HZ2:=ae hz2;clear hi hz0 hz1 hz2 hr;have HLEN:=ae (show(gR (gO F n)).length =n by rw[jO,jJ]);have heq:=fun w=>Lib.run_eql_slice_nil (P:=Tryz.prog) w 35 106 (some ⟨b,off,none⟩) n c 0 0 Tryz.underlying35
 go_enter Tryz.func57,Tryz.ntmps57;have hown0:al (w.alloc (.cells #[] 106)) w.heap.size 106 9 (.slice (some ⟨w.heap.size,0,none⟩) 0 0) []:=⟨bF.nil 9,rfl,Or.inr ⟨_,0,#[],rfl,Nat.le_refl _,(by repeat' (first| (refine ai _ _ _ ?_;(first|rfl| (simp;done) | (simp;omega))) | (refine am _ _ _ _ ?_))),Nat.le_refl _,by unfold maxLen;omega,rfl,rfl⟩⟩;have HOWN:=ae hown0;clear hown0;go_wp2_with (at_builtin;refine ar rfl (.tmp 5) (.tmp 6) 35 rfl w.heap.size 106 i0 _ 9 72 Tryz.underlying35 HI.out HZ0.out HZ1.out HZ2.out rfl (by decide) _ [] _ rfl HOWN.out b off n c HLEN.out.symm rfl (HC.out.still ((Below.refl _ _).alloc (Nat.le_refl _) _) hbw) (tP _) (by rw[HLEN.out];simp;unfold maxLen;omega) (by rw[HLEN.out];simp;omega) (by simp) ?_;intro v' w1 hown hgrow halt);go_ret;refine⟨⟨v',rfl,hown⟩,?_⟩;exact((Below.refl _ _).alloc (Nat.le_refl _) _).grown hgrow (by simp) (fun k hk=>by injection hk with hk;subst hk;exact Nat.le_refl _)
open Go.RowKit
theorem xE (w:World):Calls Tryz.prog 116 #[.int .u64 1] w fun e w'=>e=.returned (.int .i64 1)/\w=w':=by
 go_enter Tryz.func116,Tryz.ntmps116;go_wp2_with fail;go_ret;exact⟨congrArg Ending.returned (congrArg (Value.int IntKind.i64) (by kernel_rfl)),rfl⟩
theorem wx (w:World):Calls Tryz.prog 84 #[.int .u64 1] w fun e w'=>e=.returned (.int .i64 1)/\w=w':=by
 go_enter Tryz.func84,Tryz.ntmps84;go_wp2_with fail;refine(xE _).mono ?_;rintro r w1 ⟨rfl,rfl⟩;go_wp2_with fail;go_ret;exact⟨rfl,rfl⟩
theorem uP (a:Option Addr) (c:Nat) (f:Value) (w:World):Calls Tryz.prog 107 #[.slice a 1 c,.int .i64 0,.int .i64 1,f] w fun e w'=>e=.returned (.tuple #[])/\Below w.heap.size w w':=by
 go_enter Tryz.func107,Tryz.ntmps107;go_wp2_with fail;refine wp_loop_rounds 1 ?_;rw[rounds_succ];go_wp2_with fail;go_end0;exact⟨rfl,by(repeat' (first| (with_reducible first|exact Below.refl _ _|assumption|refine Below.alloc ?_ ?_ _|refine Below.drew ?_ |refine below_drewN ?_ _|refine Below.setCell ?_ ?_ _|refine below_setRow ?_ ?_ _) |go_size))⟩
theorem zC (a:Option Addr) (c:Nat) (f:Value) (w:World):Calls Tryz.prog 119 #[.slice a 1 c,.int .i64 0,.int .i64 1,f] w fun e w'=>e=.returned (.tuple #[])/\Below w.heap.size w w':=by
 go_enter Tryz.func119,Tryz.ntmps119;go_wp2_with fail;refine wp_loop_rounds 1 ?_;rw[rounds_succ];go_wp2_with fail;go_end0;exact⟨rfl,by(repeat' (first| (with_reducible first|exact Below.refl _ _|assumption|refine Below.alloc ?_ ?_ _|refine Below.drew ?_ |refine below_drewN ?_ _|refine Below.setCell ?_ ?_ _|refine below_setRow ?_ ?_ _) |go_size))⟩
theorem vY (a:Option Addr) (c:Nat) (f:Value) (w:World):Calls Tryz.prog 83 #[.slice a 1 c,.int .i64 0,.int .i64 1,.int .i64 1,f] w fun e w'=>e=.returned (.tuple #[])/\Below w.heap.size w w':=by
 go_enter Tryz.func83,Tryz.ntmps83;go_wp2_with fail;refine wp_loop_rounds 1 ?_;rw[rounds_succ];go_wp2_with fail;refine(uP _ _ _ _).mono ?_;rintro r w1 ⟨rfl,hb⟩;go_wp2_with fail;refine bodyPost_ret (results_none rfl _ _ _) rfl ?_;exact⟨rfl,by(repeat' (first| (with_reducible first|exact Below.refl _ _|assumption|refine Below.alloc ?_ ?_ _|refine Below.drew ?_ |refine below_drewN ?_ _|refine Below.setCell ?_ ?_ _|refine below_setRow ?_ ?_ _) |go_size))⟩
theorem xK (a:Option Addr) (c:Nat) (f:Value) (w:World):Calls Tryz.prog 90 #[.slice a 1 c,.int .i64 0,.int .i64 1,.int .i64 1,f] w fun e w'=>e=.returned (.tuple #[])/\Below w.heap.size w w':=by
 go_enter Tryz.func90,Tryz.ntmps90;go_wp2_with fail;refine wp_loop_rounds 1 ?_;rw[rounds_succ];go_wp2_with fail;refine(zC _ _ _ _).mono ?_;rintro r w1 ⟨rfl,hb⟩;go_wp2_with fail;refine bodyPost_ret (results_none rfl _ _ _) rfl ?_;exact⟨rfl,by(repeat' (first| (with_reducible first|exact Below.refl _ _|assumption|refine Below.alloc ?_ ?_ _|refine Below.drew ?_ |refine below_drewN ?_ _|refine Below.setCell ?_ ?_ _|refine below_setRow ?_ ?_ _) |go_size))⟩
theorem mn (a:Option Addr) (c:Nat) (f:Value) (w:World):Calls Tryz.prog 59 #[.slice a 1 c,f] w fun e w'=>e=.returned (.tuple #[])/\Below w.heap.size w w':=by
 go_enter Tryz.func59,Tryz.ntmps59;go_wp2_with fail;refine(wx _).mono ?_;rintro r w1 ⟨rfl,rfl⟩;go_wp2_with fail;refine(vY _ _ _ _).mono ?_;rintro r w1 ⟨rfl,hb⟩;go_wp2_with fail;go_end0;exact⟨rfl,by(repeat' (first| (with_reducible first|exact Below.refl _ _|assumption|refine Below.alloc ?_ ?_ _|refine Below.drew ?_ |refine below_drewN ?_ _|refine Below.setCell ?_ ?_ _|refine below_setRow ?_ ?_ _) |go_size))⟩
theorem uX (a:Option Addr) (c:Nat) (f:Value) (w:World):Calls Tryz.prog 66 #[.slice a 1 c,f] w fun e w'=>e=.returned (.tuple #[])/\Below w.heap.size w w':=by
 go_enter Tryz.func66,Tryz.ntmps66;go_wp2_with fail;refine(wx _).mono ?_;rintro r w1 ⟨rfl,rfl⟩;go_wp2_with fail;refine(xK _ _ _ _).mono ?_;rintro r w1 ⟨rfl,hb⟩;go_wp2_with fail;go_end0;exact⟨rfl,by(repeat' (first| (with_reducible first|exact Below.refl _ _|assumption|refine Below.alloc ?_ ?_ _|refine Below.drew ?_ |refine below_drewN ?_ _|refine Below.setCell ?_ ?_ _|refine below_setRow ?_ ?_ _) |go_size))⟩
open Go.RowKit
def bN (n:Int) (L:Nat):Int:=min ((n+268435456)/2 ^ (29-L)) (2 ^ L-1)
theorem lN (n:Int) (L:Nat) (hL:L<=12) (hn: -268435456<=n/\n<=268435456) (w:World):
 Calls Tryz.prog 89 #[.int .i64 n,.int .i64 L] w fun e w'=>e=.returned (.int .i64 (bN n L))/\Below w.heap.size w w':=by
 match L,hL with
 |0,_=>
  have hv:bN n 0=min ((n+268435456)/536870912) 0:=rfl;have HV:=ae hv;clear hv;go_enter Tryz.func89,Tryz.ntmps89;go_wp2_with fail
  all_goals(go_ret;refine⟨?_,Below.refl _ _⟩;show Ending.returned (Value.int .i64 _)=Ending.returned (Value.int .i64 _);rw[HV.out];congr 2;omega)
 |1,_=>
  have hv:bN n 1=min ((n+268435456)/268435456) 1:=rfl;have HV:=ae hv;clear hv;go_enter Tryz.func89,Tryz.ntmps89;go_wp2_with fail
  all_goals(go_ret;refine⟨?_,Below.refl _ _⟩;show Ending.returned (Value.int .i64 _)=Ending.returned (Value.int .i64 _);rw[HV.out];congr 2;omega)
 |2,_=>
  have hv:bN n 2=min ((n+268435456)/134217728) 3:=rfl;have HV:=ae hv;clear hv;go_enter Tryz.func89,Tryz.ntmps89;go_wp2_with fail
  all_goals(go_ret;refine⟨?_,Below.refl _ _⟩;show Ending.returned (Value.int .i64 _)=Ending.returned (Value.int .i64 _);rw[HV.out];congr 2;omega)
 |3,_=>
  have hv:bN n 3=min ((n+268435456)/67108864) 7:=rfl;have HV:=ae hv;clear hv;go_enter Tryz.func89,Tryz.ntmps89;go_wp2_with fail
  all_goals(go_ret;refine⟨?_,Below.refl _ _⟩;show Ending.returned (Value.int .i64 _)=Ending.returned (Value.int .i64 _);rw[HV.out];congr 2;omega)
 |4,_=>
  have hv:bN n 4=min ((n+268435456)/33554432) 15:=rfl;have HV:=ae hv;clear hv;go_enter Tryz.func89,Tryz.ntmps89;go_wp2_with fail
  all_goals(go_ret;refine⟨?_,Below.refl _ _⟩;show Ending.returned (Value.int .i64 _)=Ending.returned (Value.int .i64 _);rw[HV.out];congr 2;omega)
 |5,_=>
  have hv:bN n 5=min ((n+268435456)/16777216) 31:=rfl;have HV:=ae hv;clear hv;go_enter Tryz.func89,Tryz.ntmps89;go_wp2_with fail
  all_goals(go_ret;refine⟨?_,Below.refl _ _⟩;show Ending.returned (Value.int .i64 _)=Ending.returned (Value.int .i64 _);rw[HV.out];congr 2;omega)
 |6,_=>
  have hv:bN n 6=min ((n+268435456)/8388608) 63:=rfl;have HV:=ae hv;clear hv;go_enter Tryz.func89,Tryz.ntmps89;go_wp2_with fail
  all_goals(go_ret;refine⟨?_,Below.refl _ _⟩;show Ending.returned (Value.int .i64 _)=Ending.returned (Value.int .i64 _);rw[HV.out];congr 2;omega)
 |7,_=>
  have hv:bN n 7=min ((n+268435456)/4194304) 127:=rfl;have HV:=ae hv;clear hv;go_enter Tryz.func89,Tryz.ntmps89;go_wp2_with fail
  all_goals(go_ret;refine⟨?_,Below.refl _ _⟩;show Ending.returned (Value.int .i64 _)=Ending.returned (Value.int .i64 _);rw[HV.out];congr 2;omega)
 |8,_=>
  have hv:bN n 8=min ((n+268435456)/2097152) 255:=rfl;have HV:=ae hv;clear hv;go_enter Tryz.func89,Tryz.ntmps89;go_wp2_with fail
  all_goals(go_ret;refine⟨?_,Below.refl _ _⟩;show Ending.returned (Value.int .i64 _)=Ending.returned (Value.int .i64 _);rw[HV.out];congr 2;omega)
 |9,_=>
  have hv:bN n 9=min ((n+268435456)/1048576) 511:=rfl;have HV:=ae hv;clear hv;go_enter Tryz.func89,Tryz.ntmps89;go_wp2_with fail
  all_goals(go_ret;refine⟨?_,Below.refl _ _⟩;show Ending.returned (Value.int .i64 _)=Ending.returned (Value.int .i64 _);rw[HV.out];congr 2;omega)
 |10,_=>
  have hv:bN n 10=min ((n+268435456)/524288) 1023:=rfl;have HV:=ae hv;clear hv;go_enter Tryz.func89,Tryz.ntmps89;go_wp2_with fail
  all_goals(go_ret;refine⟨?_,Below.refl _ _⟩;show Ending.returned (Value.int .i64 _)=Ending.returned (Value.int .i64 _);rw[HV.out];congr 2;omega)
 |11,_=>
  have hv:bN n 11=min ((n+268435456)/262144) 2047:=rfl;have HV:=ae hv;clear hv;go_enter Tryz.func89,Tryz.ntmps89;go_wp2_with fail
  all_goals(go_ret;refine⟨?_,Below.refl _ _⟩;show Ending.returned (Value.int .i64 _)=Ending.returned (Value.int .i64 _);rw[HV.out];congr 2;omega)
 |12,_=>
  have hv:bN n 12=min ((n+268435456)/131072) 4095:=rfl;have HV:=ae hv;clear hv;go_enter Tryz.func89,Tryz.ntmps89;go_wp2_with fail
  all_goals(go_ret;refine⟨?_,Below.refl _ _⟩;show Ending.returned (Value.int .i64 _)=Ending.returned (Value.int .i64 _);rw[HV.out];congr 2;omega)
 |L+13,h=>omega
theorem oV (n:Int) (L:Nat) (hL:L<=12) (hn: -268435456<=n/\n<=268435456) (w:World):
 Calls Tryz.prog 131 #[.int .i64 n,.int .i64 L] w fun e w'=>e=.returned (.int .i64 (bN n L))/\Below w.heap.size w w':=by
 match L,hL with
 |0,_=>
  have hv:bN n 0=min ((n+268435456)/536870912) 0:=rfl;have HV:=ae hv;clear hv;go_enter Tryz.func131,Tryz.ntmps131;go_wp2_with fail;refine wp_region_quiet_below (by kernel_rfl) (by kernel_rfl) ?_
  repeat(first|go_big_quiet_step (fail) |quiet_step (fail))
  refine wpQuiet_nil ?_;intro _ hw';obtain⟨⟨dq,osq⟩,hw2⟩:=hw';subst hw2;have hbq:=below_regrown w dq osq;go_wp2_with fail
  all_goals(go_ret;refine⟨?_,hbq⟩;show Ending.returned (Value.int .i64 _)=Ending.returned (Value.int .i64 _);rw[HV.out];congr 2;omega)
 |1,_=>
  have hv:bN n 1=min ((n+268435456)/268435456) 1:=rfl;have HV:=ae hv;clear hv;go_enter Tryz.func131,Tryz.ntmps131;go_wp2_with fail;refine wp_region_quiet_below (by kernel_rfl) (by kernel_rfl) ?_
  repeat(first|go_big_quiet_step (fail) |quiet_step (fail))
  refine wpQuiet_nil ?_;intro _ hw';obtain⟨⟨dq,osq⟩,hw2⟩:=hw';subst hw2;have hbq:=below_regrown w dq osq;go_wp2_with fail
  all_goals(go_ret;refine⟨?_,hbq⟩;show Ending.returned (Value.int .i64 _)=Ending.returned (Value.int .i64 _);rw[HV.out];congr 2;omega)
 |2,_=>
  have hv:bN n 2=min ((n+268435456)/134217728) 3:=rfl;have HV:=ae hv;clear hv;go_enter Tryz.func131,Tryz.ntmps131;go_wp2_with fail;refine wp_region_quiet_below (by kernel_rfl) (by kernel_rfl) ?_
  repeat(first|go_big_quiet_step (fail) |quiet_step (fail))
  refine wpQuiet_nil ?_;intro _ hw';obtain⟨⟨dq,osq⟩,hw2⟩:=hw';subst hw2;have hbq:=below_regrown w dq osq;go_wp2_with fail
  all_goals(go_ret;refine⟨?_,hbq⟩;show Ending.returned (Value.int .i64 _)=Ending.returned (Value.int .i64 _);rw[HV.out];congr 2;omega)
 |3,_=>
  have hv:bN n 3=min ((n+268435456)/67108864) 7:=rfl;have HV:=ae hv;clear hv;go_enter Tryz.func131,Tryz.ntmps131;go_wp2_with fail;refine wp_region_quiet_below (by kernel_rfl) (by kernel_rfl) ?_
  repeat(first|go_big_quiet_step (fail) |quiet_step (fail))
  refine wpQuiet_nil ?_;intro _ hw';obtain⟨⟨dq,osq⟩,hw2⟩:=hw';subst hw2;have hbq:=below_regrown w dq osq;go_wp2_with fail
  all_goals(go_ret;refine⟨?_,hbq⟩;show Ending.returned (Value.int .i64 _)=Ending.returned (Value.int .i64 _);rw[HV.out];congr 2;omega)
 |4,_=>
  have hv:bN n 4=min ((n+268435456)/33554432) 15:=rfl;have HV:=ae hv;clear hv;go_enter Tryz.func131,Tryz.ntmps131;go_wp2_with fail;refine wp_region_quiet_below (by kernel_rfl) (by kernel_rfl) ?_
  repeat(first|go_big_quiet_step (fail) |quiet_step (fail))
  refine wpQuiet_nil ?_;intro _ hw';obtain⟨⟨dq,osq⟩,hw2⟩:=hw';subst hw2;have hbq:=below_regrown w dq osq;go_wp2_with fail
  all_goals(go_ret;refine⟨?_,hbq⟩;show Ending.returned (Value.int .i64 _)=Ending.returned (Value.int .i64 _);rw[HV.out];congr 2;omega)
 |5,_=>
  have hv:bN n 5=min ((n+268435456)/16777216) 31:=rfl;have HV:=ae hv;clear hv;go_enter Tryz.func131,Tryz.ntmps131;go_wp2_with fail;refine wp_region_quiet_below (by kernel_rfl) (by kernel_rfl) ?_
  repeat(first|go_big_quiet_step (fail) |quiet_step (fail))
  refine wpQuiet_nil ?_;intro _ hw';obtain⟨⟨dq,osq⟩,hw2⟩:=hw';subst hw2;have hbq:=below_regrown w dq osq;go_wp2_with fail
  all_goals(go_ret;refine⟨?_,hbq⟩;show Ending.returned (Value.int .i64 _)=Ending.returned (Value.int .i64 _);rw[HV.out];congr 2;omega)
 |6,_=>
  have hv:bN n 6=min ((n+268435456)/8388608) 63:=rfl;have HV:=ae hv;clear hv;go_enter Tryz.func131,Tryz.ntmps131;go_wp2_with fail;refine wp_region_quiet_below (by kernel_rfl) (by kernel_rfl) ?_
  repeat(first|go_big_quiet_step (fail) |quiet_step (fail))
  refine wpQuiet_nil ?_;intro _ hw';obtain⟨⟨dq,osq⟩,hw2⟩:=hw';subst hw2;have hbq:=below_regrown w dq osq;go_wp2_with fail
  all_goals(go_ret;refine⟨?_,hbq⟩;show Ending.returned (Value.int .i64 _)=Ending.returned (Value.int .i64 _);rw[HV.out];congr 2;omega)
 |7,_=>
  have hv:bN n 7=min ((n+268435456)/4194304) 127:=rfl;have HV:=ae hv;clear hv;go_enter Tryz.func131,Tryz.ntmps131;go_wp2_with fail;refine wp_region_quiet_below (by kernel_rfl) (by kernel_rfl) ?_
  repeat(first|go_big_quiet_step (fail) |quiet_step (fail))
  refine wpQuiet_nil ?_;intro _ hw';obtain⟨⟨dq,osq⟩,hw2⟩:=hw';subst hw2;have hbq:=below_regrown w dq osq;go_wp2_with fail
  all_goals(go_ret;refine⟨?_,hbq⟩;show Ending.returned (Value.int .i64 _)=Ending.returned (Value.int .i64 _);rw[HV.out];congr 2;omega)
 |8,_=>
  have hv:bN n 8=min ((n+268435456)/2097152) 255:=rfl;have HV:=ae hv;clear hv;go_enter Tryz.func131,Tryz.ntmps131;go_wp2_with fail;refine wp_region_quiet_below (by kernel_rfl) (by kernel_rfl) ?_
  repeat(first|go_big_quiet_step (fail) |quiet_step (fail))
  refine wpQuiet_nil ?_;intro _ hw';obtain⟨⟨dq,osq⟩,hw2⟩:=hw';subst hw2;have hbq:=below_regrown w dq osq;go_wp2_with fail
  all_goals(go_ret;refine⟨?_,hbq⟩;show Ending.returned (Value.int .i64 _)=Ending.returned (Value.int .i64 _);rw[HV.out];congr 2;omega)
 |9,_=>
  have hv:bN n 9=min ((n+268435456)/1048576) 511:=rfl;have HV:=ae hv;clear hv;go_enter Tryz.func131,Tryz.ntmps131;go_wp2_with fail;refine wp_region_quiet_below (by kernel_rfl) (by kernel_rfl) ?_
  repeat(first|go_big_quiet_step (fail) |quiet_step (fail))
  refine wpQuiet_nil ?_;intro _ hw';obtain⟨⟨dq,osq⟩,hw2⟩:=hw';subst hw2;have hbq:=below_regrown w dq osq;go_wp2_with fail
  all_goals(go_ret;refine⟨?_,hbq⟩;show Ending.returned (Value.int .i64 _)=Ending.returned (Value.int .i64 _);rw[HV.out];congr 2;omega)
 |10,_=>
  have hv:bN n 10=min ((n+268435456)/524288) 1023:=rfl;have HV:=ae hv;clear hv;go_enter Tryz.func131,Tryz.ntmps131;go_wp2_with fail;refine wp_region_quiet_below (by kernel_rfl) (by kernel_rfl) ?_
  repeat(first|go_big_quiet_step (fail) |quiet_step (fail))
  refine wpQuiet_nil ?_;intro _ hw';obtain⟨⟨dq,osq⟩,hw2⟩:=hw';subst hw2;have hbq:=below_regrown w dq osq;go_wp2_with fail
  all_goals(go_ret;refine⟨?_,hbq⟩;show Ending.returned (Value.int .i64 _)=Ending.returned (Value.int .i64 _);rw[HV.out];congr 2;omega)
 |11,_=>
  have hv:bN n 11=min ((n+268435456)/262144) 2047:=rfl;have HV:=ae hv;clear hv;go_enter Tryz.func131,Tryz.ntmps131;go_wp2_with fail;refine wp_region_quiet_below (by kernel_rfl) (by kernel_rfl) ?_
  repeat(first|go_big_quiet_step (fail) |quiet_step (fail))
  refine wpQuiet_nil ?_;intro _ hw';obtain⟨⟨dq,osq⟩,hw2⟩:=hw';subst hw2;have hbq:=below_regrown w dq osq;go_wp2_with fail
  all_goals(go_ret;refine⟨?_,hbq⟩;show Ending.returned (Value.int .i64 _)=Ending.returned (Value.int .i64 _);rw[HV.out];congr 2;omega)
 |12,_=>
  have hv:bN n 12=min ((n+268435456)/131072) 4095:=rfl;have HV:=ae hv;clear hv;go_enter Tryz.func131,Tryz.ntmps131;go_wp2_with fail;refine wp_region_quiet_below (by kernel_rfl) (by kernel_rfl) ?_
  repeat(first|go_big_quiet_step (fail) |quiet_step (fail))
  refine wpQuiet_nil ?_;intro _ hw';obtain⟨⟨dq,osq⟩,hw2⟩:=hw';subst hw2;have hbq:=below_regrown w dq osq;go_wp2_with fail
  all_goals(go_ret;refine⟨?_,hbq⟩;show Ending.returned (Value.int .i64 _)=Ending.returned (Value.int .i64 _);rw[HV.out];congr 2;omega)
 |L+13,h=>omega
-- CELLS
theorem ku:(Tryz.prog.info? 99).map (·.size)=some 4:=by kernel_rfl
def fx (L:Nat) (x y z:Int):Array Value:=#[.int .i64 (L:Int),.int .i64 (bN x L),.int .i64 (bN y L),.int .i64 (bN z L)]
theorem qm (id x y zl zh wd nm of cl:Int) (L:Nat) (hL:L<=12) (hx: -268435456<=x/\x<=268435456) (hy: -268435456<=y/\y<=268435456) (hz: -268435456<=zl/\zl<=268435456) (w:World):
 Calls Tryz.prog 65 #[.agg #[.int .i64 id,.int .i64 x,.int .i64 y,.int .i64 zl,.int .i64 zh,.int .i64 wd,.int .i64 nm,.int .i64 of,.int .i64 cl],.int .i64 L] w fun e w'=>e=.returned (.agg (fx L x y zl))/\Below w.heap.size w w':=by
 have M5:=ae (fun W=>lN x L hL hx W);have NH:=ae (fun W=>lN y L hL hy W);have NG:=ae (fun W=>lN zl L hL hz W);go_enter Tryz.func65,Tryz.ntmps65;go_wp2_with fail;refine au (fun V hV=>?_);have YP:=ae (show V.heap[w.heap.size]? =some (.cells #[.int .i64 id,.int .i64 x,.int .i64 y,.int .i64 zl,.int .i64 zh,.int .i64 wd,.int .i64 nm,.int .i64 of,.int .i64 cl] 106) by rw[hV];exact am _ _ _ _ (ai _ _ _ rfl));have YK:=ae (show V.heap[w.heap.size+1]? =some (.cells #[.int .i64 0,.int .i64 0,.int .i64 0,.int .i64 0] 99) by rw[hV];exact ai _ _ _ (by simp));have YW:=ae (show Below w.heap.size w V by rw[hV];(repeat' (first| (with_reducible first|exact Below.refl _ _|assumption|refine Below.alloc ?_ ?_ _|refine Below.drew ?_ |refine below_drewN ?_ _|refine Below.setCell ?_ ?_ _|refine below_setRow ?_ ?_ _) |go_size)));have YZ:V.heap.size=w.heap.size+1+1:=by rw[hV];simp
 clear hV;refine bf (fun A0 hA=>?_);refine fN (by kernel_rfl) (by kernel_rfl) [some 5,some 6,some 7,some 8,some 9,some 10,some 11,some 12,some 13,some 14,some 15,some 16,some 17,some 18,some 19,none] rfl (by decide) 15 rfl (by kernel_rfl) (by kernel_rfl)
  [aw (.int .i64 (L:Int)),aw (.pointer (some ⟨w.heap.size,1,none⟩)),aw (.int .i64 x),aw (.int .i64 (L:Int)),aw (.int .i64 (bN x L)),aw (.pointer (some ⟨w.heap.size,2,none⟩)),aw (.int .i64 y),aw (.int .i64 (L:Int)),aw (.int .i64 (bN y L)),aw (.pointer (some ⟨w.heap.size,3,none⟩)),aw (.pointer (some ⟨w.heap.size,3,none⟩)),aw (.int .i64 zl),aw (.int .i64 (L:Int)),aw (.int .i64 (bN zl L)),aw (.agg #[.int .i64 (L:Int),.int .i64 (bN x L),.int .i64 (bN y L),.int .i64 (bN zl L)])]
  ⟨aw.stb _,aw.stb _,aw.stb _,aw.stb _,aw.stb _,aw.stb _,aw.stb _,aw.stb _,aw.stb _,aw.stb _,aw.stb _,aw.stb _,aw.stb _,aw.stb _,aw.stb _,trivial⟩ ?hs1_1_V7 ?hlast_1_V7
 case hs1_1_V7=>
  refine⟨?_,?_,?_,?_,?_,?_,?_,?_,?_,?_,?_,?_,?_,?_,?_,trivial⟩
  iterate 2 (·intro K us W ak hB hd;have hK:=ae ak;clear ak;have aA:=ae hB;have fg:=hB.size;have GB:=ae (YW.out.trans (hB.mono YW.out.size));clear hd;simp only[ah];rw[hA];go_frame;go_wp2_with fail;exact hK.out _ _ _ (by rw[hA];simp only[ah];kernel_rfl) (Below.refl _ _) rfl)
  ·intro K us W ak hB hd;have hK:=ae ak;clear ak;have aA:=ae hB;have fg:=hB.size;have GB:=ae (YW.out.trans (hB.mono YW.out.size));have e1:us 1=_:=hd ⟨1,Ground.data⟩ (by simp) rfl;clear hd;have G0:=ae (aj hB YP.out);have c0:W.cell? ⟨w.heap.size,1,none⟩=some (.int .i64 x):=(af (j:=1) G0.out).trans rfl;simp only[ah];rw[hA,e1];go_frame;go_wp2_with fail;exact hK.out _ _ _ (by rw[hA];simp only[ah];rw[e1];kernel_rfl) (Below.refl _ _) rfl
  ·intro K us W ak hB hd;have hK:=ae ak;clear ak;have aA:=ae hB;have fg:=hB.size;have GB:=ae (YW.out.trans (hB.mono YW.out.size));clear hd;simp only[ah];rw[hA];go_frame;go_wp2_with fail;exact hK.out _ _ _ (by rw[hA];simp only[ah];kernel_rfl) (Below.refl _ _) rfl
  ·intro K us W ak hB hd;have hK:=ae ak;clear ak;have aA:=ae hB;have fg:=hB.size;have GB:=ae (YW.out.trans (hB.mono YW.out.size));have e2:us 2=_:=hd ⟨2,Ground.data⟩ (by simp) rfl;have e3:us 3=_:=hd ⟨3,Ground.data⟩ (by simp) rfl;clear hd;simp only[ah];rw[hA,e2,e3];go_frame;go_wp2_with fail;refine(M5.out W).mono ?_;rintro r W' ⟨rfl,hb⟩;go_wp2_with fail;exact hK.out _ _ _ (by rw[hA];simp only[ah];rw[e2,e3];kernel_rfl) hb rfl
  ·intro K us W ak hB hd;have hK:=ae ak;clear ak;have aA:=ae hB;have fg:=hB.size;have GB:=ae (YW.out.trans (hB.mono YW.out.size));clear hd;simp only[ah];rw[hA];go_frame;go_wp2_with fail;exact hK.out _ _ _ (by rw[hA];simp only[ah];kernel_rfl) (Below.refl _ _) rfl
  ·intro K us W ak hB hd;have hK:=ae ak;clear ak;have aA:=ae hB;have fg:=hB.size;have GB:=ae (YW.out.trans (hB.mono YW.out.size));have e5:us 5=_:=hd ⟨5,Ground.data⟩ (by simp) rfl;clear hd;have G0:=ae (aj hB YP.out);have c0:W.cell? ⟨w.heap.size,2,none⟩=some (.int .i64 y):=(af (j:=2) G0.out).trans rfl;simp only[ah];rw[hA,e5];go_frame;go_wp2_with fail;exact hK.out _ _ _ (by rw[hA];simp only[ah];rw[e5];kernel_rfl) (Below.refl _ _) rfl
  ·intro K us W ak hB hd;have hK:=ae ak;clear ak;have aA:=ae hB;have fg:=hB.size;have GB:=ae (YW.out.trans (hB.mono YW.out.size));clear hd;simp only[ah];rw[hA];go_frame;go_wp2_with fail;exact hK.out _ _ _ (by rw[hA];simp only[ah];kernel_rfl) (Below.refl _ _) rfl
  ·intro K us W ak hB hd;have hK:=ae ak;clear ak;have aA:=ae hB;have fg:=hB.size;have GB:=ae (YW.out.trans (hB.mono YW.out.size));have e6:us 6=_:=hd ⟨6,Ground.data⟩ (by simp) rfl;have e7:us 7=_:=hd ⟨7,Ground.data⟩ (by simp) rfl;clear hd;simp only[ah];rw[hA,e6,e7];go_frame;go_wp2_with fail;refine(NH.out W).mono ?_;rintro r W' ⟨rfl,hb⟩;go_wp2_with fail;exact hK.out _ _ _ (by rw[hA];simp only[ah];rw[e6,e7];kernel_rfl) hb rfl
  ·intro K us W ak hB hd;have hK:=ae ak;clear ak;have aA:=ae hB;have fg:=hB.size;have GB:=ae (YW.out.trans (hB.mono YW.out.size));clear hd;simp only[ah];rw[hA];go_frame;go_wp2_with fail;exact hK.out _ _ _ (by rw[hA];simp only[ah];kernel_rfl) (Below.refl _ _) rfl
  ·intro K us W ak hB hd;have hK:=ae ak;clear ak;have aA:=ae hB;have fg:=hB.size;have GB:=ae (YW.out.trans (hB.mono YW.out.size));have e9:us 9=_:=hd ⟨9,Ground.data⟩ (by simp) rfl;clear hd;simp only[ah];rw[hA,e9];go_frame;go_wp2_with fail;exact hK.out _ _ _ (by rw[hA];simp only[ah];rw[e9];kernel_rfl) (Below.refl _ _) rfl
  ·intro K us W ak hB hd;have hK:=ae ak;clear ak;have aA:=ae hB;have fg:=hB.size;have GB:=ae (YW.out.trans (hB.mono YW.out.size));have e10:us 10=_:=hd ⟨10,Ground.data⟩ (by simp) rfl;clear hd;have G0:=ae (aj hB YP.out);have c0:W.cell? ⟨w.heap.size,3,none⟩=some (.int .i64 zl):=(af (j:=3) G0.out).trans rfl;simp only[ah];rw[hA,e10];go_frame;go_wp2_with fail;exact hK.out _ _ _ (by rw[hA];simp only[ah];rw[e10];kernel_rfl) (Below.refl _ _) rfl
  ·intro K us W ak hB hd;have hK:=ae ak;clear ak;have aA:=ae hB;have fg:=hB.size;have GB:=ae (YW.out.trans (hB.mono YW.out.size));clear hd;simp only[ah];rw[hA];go_frame;go_wp2_with fail;exact hK.out _ _ _ (by rw[hA];simp only[ah];kernel_rfl) (Below.refl _ _) rfl
  ·intro K us W ak hB hd;have hK:=ae ak;clear ak;have aA:=ae hB;have fg:=hB.size;have GB:=ae (YW.out.trans (hB.mono YW.out.size));have e11:us 11=_:=hd ⟨11,Ground.data⟩ (by simp) rfl;have e12:us 12=_:=hd ⟨12,Ground.data⟩ (by simp) rfl;clear hd;simp only[ah];rw[hA,e11,e12];go_frame;go_wp2_with fail;refine(NG.out W).mono ?_;rintro r W' ⟨rfl,hb⟩;go_wp2_with fail;exact hK.out _ _ _ (by rw[hA];simp only[ah];rw[e11,e12];kernel_rfl) hb rfl
  ·intro K us W ak hB hd;have hK:=ae ak;clear ak;have aA:=ae hB;have fg:=hB.size;have GB:=ae (YW.out.trans (hB.mono YW.out.size));have e0:us 0=_:=hd ⟨0,Ground.data⟩ (by simp) rfl;have e4:us 4=_:=hd ⟨4,Ground.data⟩ (by simp) rfl;have e8:us 8=_:=hd ⟨8,Ground.data⟩ (by simp) rfl;have e13:us 13=_:=hd ⟨13,Ground.data⟩ (by simp) rfl;clear hd;simp only[ah];rw[hA,e0,e4,e8,e13];go_frame;go_wp2_with fail;exact hK.out _ _ _ (by rw[hA];simp only[ah];rw[e0,e4,e8,e13];kernel_rfl) (Below.refl _ _) rfl
 intro K us V7 ak hB hp;have hK:=ae ak;clear ak;have e14:us 14=_:=hp 14 (by decide);have He:=ae (YW.out.trans (hB.mono YW.out.size));have AE:=ae (fun n x=>@aj _ _ n x hB);have L2:=hB.size;have Ns:=ae hB;clear hp;simp only[ah];rw[hA,e14]
 skip
 go_frame;go_wp2_with (refine aC rfl 99 (.tmp 4) (.tmp 19) rfl rfl rfl (AE.out _ _ YK.out) ku rfl rfl rfl ?_);refine hK.out undef _ _ (by rw[hA];simp only[ah];rw[e14];kernel_rfl) ?_;clear hK hB hA e14;go_wp2_with fail;refine bodyPost_ret (cV rfl rfl (setRow_heap _ _ _ _ _ _ (AE.out _ _ YK.out)) Tryz.underlying99 rfl ku rfl) rfl ⟨rfl,below_setRow He.out (by omega) _⟩
theorem jr (id x y zl zh wd nm of cl:Int) (L:Nat) (hL:L<=12) (hx: -268435456<=x/\x<=268435456) (hy: -268435456<=y/\y<=268435456) (hz: -268435456<=zl/\zl<=268435456) (w:World):
 Calls Tryz.prog 93 #[.agg #[.int .i64 id,.int .i64 x,.int .i64 y,.int .i64 zl,.int .i64 zh,.int .i64 wd,.int .i64 nm,.int .i64 of,.int .i64 cl],.int .i64 L] w fun e w'=>e=.returned (.agg (fx L x y zl))/\Below w.heap.size w w':=by
 have M5:=ae (fun W=>oV x L hL hx W);have NH:=ae (fun W=>oV y L hL hy W);have NG:=ae (fun W=>oV zl L hL hz W);go_enter Tryz.func93,Tryz.ntmps93;go_wp2_with fail;refine au (fun V hV=>?_);have YP:=ae (show V.heap[w.heap.size]? =some (.cells #[.int .i64 id,.int .i64 x,.int .i64 y,.int .i64 zl,.int .i64 zh,.int .i64 wd,.int .i64 nm,.int .i64 of,.int .i64 cl] 106) by rw[hV];exact am _ _ _ _ (ai _ _ _ rfl));have YK:=ae (show V.heap[w.heap.size+1]? =some (.cells #[.int .i64 0,.int .i64 0,.int .i64 0,.int .i64 0] 99) by rw[hV];exact ai _ _ _ (by simp));have YW:=ae (show Below w.heap.size w V by rw[hV];(repeat' (first| (with_reducible first|exact Below.refl _ _|assumption|refine Below.alloc ?_ ?_ _|refine Below.drew ?_ |refine below_drewN ?_ _|refine Below.setCell ?_ ?_ _|refine below_setRow ?_ ?_ _) |go_size)));have YZ:V.heap.size=w.heap.size+1+1:=by rw[hV];simp
 clear hV;refine bf (fun A0 hA=>?_);refine fN (by kernel_rfl) (by kernel_rfl) [some 5,some 6,some 7,some 8,some 9,some 10,some 11,some 12,some 13,some 14,some 15,some 16,some 17,some 18,some 19,none] rfl (by decide) 15 rfl (by kernel_rfl) (by kernel_rfl)
  [aw (.int .i64 (L:Int)),aw (.pointer (some ⟨w.heap.size,1,none⟩)),aw (.int .i64 x),aw (.int .i64 (L:Int)),aw (.int .i64 (bN x L)),aw (.pointer (some ⟨w.heap.size,2,none⟩)),aw (.int .i64 y),aw (.int .i64 (L:Int)),aw (.int .i64 (bN y L)),aw (.pointer (some ⟨w.heap.size,3,none⟩)),aw (.pointer (some ⟨w.heap.size,3,none⟩)),aw (.int .i64 zl),aw (.int .i64 (L:Int)),aw (.int .i64 (bN zl L)),aw (.agg #[.int .i64 (L:Int),.int .i64 (bN x L),.int .i64 (bN y L),.int .i64 (bN zl L)])]
  ⟨aw.stb _,aw.stb _,aw.stb _,aw.stb _,aw.stb _,aw.stb _,aw.stb _,aw.stb _,aw.stb _,aw.stb _,aw.stb _,aw.stb _,aw.stb _,aw.stb _,aw.stb _,trivial⟩ ?hs1_1_V7 ?hlast_1_V7
 case hs1_1_V7=>
  refine⟨?_,?_,?_,?_,?_,?_,?_,?_,?_,?_,?_,?_,?_,?_,?_,trivial⟩
  iterate 2 (·intro K us W ak hB hd;have hK:=ae ak;clear ak;have aA:=ae hB;have fg:=hB.size;have GB:=ae (YW.out.trans (hB.mono YW.out.size));clear hd;simp only[ah];rw[hA];go_frame;go_wp2_with fail;exact hK.out _ _ _ (by rw[hA];simp only[ah];kernel_rfl) (Below.refl _ _) rfl)
  ·intro K us W ak hB hd;have hK:=ae ak;clear ak;have aA:=ae hB;have fg:=hB.size;have GB:=ae (YW.out.trans (hB.mono YW.out.size));have e1:us 1=_:=hd ⟨1,Ground.data⟩ (by simp) rfl;clear hd;have G0:=ae (aj hB YP.out);have c0:W.cell? ⟨w.heap.size,1,none⟩=some (.int .i64 x):=(af (j:=1) G0.out).trans rfl;simp only[ah];rw[hA,e1];go_frame;go_wp2_with fail;exact hK.out _ _ _ (by rw[hA];simp only[ah];rw[e1];kernel_rfl) (Below.refl _ _) rfl
  ·intro K us W ak hB hd;have hK:=ae ak;clear ak;have aA:=ae hB;have fg:=hB.size;have GB:=ae (YW.out.trans (hB.mono YW.out.size));clear hd;simp only[ah];rw[hA];go_frame;go_wp2_with fail;exact hK.out _ _ _ (by rw[hA];simp only[ah];kernel_rfl) (Below.refl _ _) rfl
  ·intro K us W ak hB hd;have hK:=ae ak;clear ak;have aA:=ae hB;have fg:=hB.size;have GB:=ae (YW.out.trans (hB.mono YW.out.size));have e2:us 2=_:=hd ⟨2,Ground.data⟩ (by simp) rfl;have e3:us 3=_:=hd ⟨3,Ground.data⟩ (by simp) rfl;clear hd;simp only[ah];rw[hA,e2,e3];go_frame;go_wp2_with fail;refine(M5.out W).mono ?_;rintro r W' ⟨rfl,hb⟩;go_wp2_with fail;exact hK.out _ _ _ (by rw[hA];simp only[ah];rw[e2,e3];kernel_rfl) hb rfl
  ·intro K us W ak hB hd;have hK:=ae ak;clear ak;have aA:=ae hB;have fg:=hB.size;have GB:=ae (YW.out.trans (hB.mono YW.out.size));clear hd;simp only[ah];rw[hA];go_frame;go_wp2_with fail;exact hK.out _ _ _ (by rw[hA];simp only[ah];kernel_rfl) (Below.refl _ _) rfl
  ·intro K us W ak hB hd;have hK:=ae ak;clear ak;have aA:=ae hB;have fg:=hB.size;have GB:=ae (YW.out.trans (hB.mono YW.out.size));have e5:us 5=_:=hd ⟨5,Ground.data⟩ (by simp) rfl;clear hd;have G0:=ae (aj hB YP.out);have c0:W.cell? ⟨w.heap.size,2,none⟩=some (.int .i64 y):=(af (j:=2) G0.out).trans rfl;simp only[ah];rw[hA,e5];go_frame;go_wp2_with fail;exact hK.out _ _ _ (by rw[hA];simp only[ah];rw[e5];kernel_rfl) (Below.refl _ _) rfl
  ·intro K us W ak hB hd;have hK:=ae ak;clear ak;have aA:=ae hB;have fg:=hB.size;have GB:=ae (YW.out.trans (hB.mono YW.out.size));clear hd;simp only[ah];rw[hA];go_frame;go_wp2_with fail;exact hK.out _ _ _ (by rw[hA];simp only[ah];kernel_rfl) (Below.refl _ _) rfl
  ·intro K us W ak hB hd;have hK:=ae ak;clear ak;have aA:=ae hB;have fg:=hB.size;have GB:=ae (YW.out.trans (hB.mono YW.out.size));have e6:us 6=_:=hd ⟨6,Ground.data⟩ (by simp) rfl;have e7:us 7=_:=hd ⟨7,Ground.data⟩ (by simp) rfl;clear hd;simp only[ah];rw[hA,e6,e7];go_frame;go_wp2_with fail;refine(NH.out W).mono ?_;rintro r W' ⟨rfl,hb⟩;go_wp2_with fail;exact hK.out _ _ _ (by rw[hA];simp only[ah];rw[e6,e7];kernel_rfl) hb rfl
  ·intro K us W ak hB hd;have hK:=ae ak;clear ak;have aA:=ae hB;have fg:=hB.size;have GB:=ae (YW.out.trans (hB.mono YW.out.size));clear hd;simp only[ah];rw[hA];go_frame;go_wp2_with fail;exact hK.out _ _ _ (by rw[hA];simp only[ah];kernel_rfl) (Below.refl _ _) rfl
  ·intro K us W ak hB hd;have hK:=ae ak;clear ak;have aA:=ae hB;have fg:=hB.size;have GB:=ae (YW.out.trans (hB.mono YW.out.size));have e9:us 9=_:=hd ⟨9,Ground.data⟩ (by simp) rfl;clear hd;simp only[ah];rw[hA,e9];go_frame;go_wp2_with fail;exact hK.out _ _ _ (by rw[hA];simp only[ah];rw[e9];kernel_rfl) (Below.refl _ _) rfl
  ·intro K us W ak hB hd;have hK:=ae ak;clear ak;have aA:=ae hB;have fg:=hB.size;have GB:=ae (YW.out.trans (hB.mono YW.out.size));have e10:us 10=_:=hd ⟨10,Ground.data⟩ (by simp) rfl;clear hd;have G0:=ae (aj hB YP.out);have c0:W.cell? ⟨w.heap.size,3,none⟩=some (.int .i64 zl):=(af (j:=3) G0.out).trans rfl;simp only[ah];rw[hA,e10];go_frame;go_wp2_with fail;exact hK.out _ _ _ (by rw[hA];simp only[ah];rw[e10];kernel_rfl) (Below.refl _ _) rfl
  ·intro K us W ak hB hd;have hK:=ae ak;clear ak;have aA:=ae hB;have fg:=hB.size;have GB:=ae (YW.out.trans (hB.mono YW.out.size));clear hd;simp only[ah];rw[hA];go_frame;go_wp2_with fail;exact hK.out _ _ _ (by rw[hA];simp only[ah];kernel_rfl) (Below.refl _ _) rfl
  ·intro K us W ak hB hd;have hK:=ae ak;clear ak;have aA:=ae hB;have fg:=hB.size;have GB:=ae (YW.out.trans (hB.mono YW.out.size));have e11:us 11=_:=hd ⟨11,Ground.data⟩ (by simp) rfl;have e12:us 12=_:=hd ⟨12,Ground.data⟩ (by simp) rfl;clear hd;simp only[ah];rw[hA,e11,e12];go_frame;go_wp2_with fail;refine(NG.out W).mono ?_;rintro r W' ⟨rfl,hb⟩;go_wp2_with fail;exact hK.out _ _ _ (by rw[hA];simp only[ah];rw[e11,e12];kernel_rfl) hb rfl
  ·intro K us W ak hB hd;have hK:=ae ak;clear ak;have aA:=ae hB;have fg:=hB.size;have GB:=ae (YW.out.trans (hB.mono YW.out.size));have e0:us 0=_:=hd ⟨0,Ground.data⟩ (by simp) rfl;have e4:us 4=_:=hd ⟨4,Ground.data⟩ (by simp) rfl;have e8:us 8=_:=hd ⟨8,Ground.data⟩ (by simp) rfl;have e13:us 13=_:=hd ⟨13,Ground.data⟩ (by simp) rfl;clear hd;simp only[ah];rw[hA,e0,e4,e8,e13];go_frame;go_wp2_with fail;exact hK.out _ _ _ (by rw[hA];simp only[ah];rw[e0,e4,e8,e13];kernel_rfl) (Below.refl _ _) rfl
 intro K us V7 ak hB hp;have hK:=ae ak;clear ak;have e14:us 14=_:=hp 14 (by decide);have He:=ae (YW.out.trans (hB.mono YW.out.size));have AE:=ae (fun n x=>@aj _ _ n x hB);have L2:=hB.size;have Ns:=ae hB;clear hp;simp only[ah];rw[hA,e14]
 skip
 go_frame;go_wp2_with (refine aC rfl 99 (.tmp 4) (.tmp 19) rfl rfl rfl (AE.out _ _ YK.out) ku rfl rfl rfl ?_);refine hK.out undef _ _ (by rw[hA];simp only[ah];rw[e14];kernel_rfl) ?_;clear hK hB hA e14;go_wp2_with fail;refine bodyPost_ret (cV rfl rfl (setRow_heap _ _ _ _ _ _ (AE.out _ _ YK.out)) Tryz.underlying99 rfl ku rfl) rfl ⟨rfl,below_setRow He.out (by omega) _⟩
open Go.RowKit
def md (L:Int):Int:=2 ^ L.toNat
theorem wA {L:Int} (h:0<=L/\L<=12):1<=md L/\md L<=4096:=by
 obtain⟨l,rfl⟩:=Int.eq_ofNat_of_zero_le h.1
 match l,h.2 with
 |0,_|1,_|2,_|3,_|4,_|5,_|6,_|7,_|8,_|9,_|10,_|11,_|12,_=>decide
 |l+13,h=>omega
theorem Kl {L:Int} (h:0<=L/\L<=12):binOp .shl 3 (.int .i64 1) (.int .i64 L)=pure (.int .i64 (md L)):=by
 obtain⟨l,rfl⟩:=Int.eq_ofNat_of_zero_le h.1
 match l,h.2 with
 |0,_|1,_|2,_|3,_|4,_|5,_|6,_|7,_|8,_|9,_|10,_|11,_|12,_=>rfl
 |l+13,h=>omega
def kt (L x y z:Int):Bool:=dY 0 12 L && (dY 0 (md L-1) x && dY 0 (md L-1) y && dY 0 (md L-1) z)
theorem AB {L x y z:Int} (h:¬(0<=L/\L<=12)):kt L x y z=false:=by
 unfold kt;rw[show dY 0 12 L=false by simp[dY];omega];rfl
theorem qd {L x y z:Int} (h:0<=L/\L<=12):kt L x y z=(dY 0 (md L-1) x && dY 0 (md L-1) y && dY 0 (md L-1) z):=by
 unfold kt;rw[show dY 0 12 L=true by simp[dY];omega];rfl
theorem oA (L x y z:Int) (w:World):
 Calls Tryz.prog 132 #[.agg #[.int .i64 L,.int .i64 x,.int .i64 y,.int .i64 z]] w fun e w'=>e=.returned (.bool (kt L x y z))/\Below w.heap.size w w':=by
 by_cases hL:0<=L/\L<=12
 ·have hsh:=Kl hL;have HV:=ae (qd (x:=x) (y:=y) (z:=z) hL);have hpb:=wA hL;have hin:dY 0 12 L=true:=by simp[dY];omega
  have qL:=ae hin;clear hin;generalize md L=p at*;obtain⟨m,rfl⟩:∃m,p=m+1:=⟨p-1,by omega⟩;simp only[Int.add_sub_cancel] at HV;go_enter Tryz.func132,Tryz.ntmps132;go_wp2_with fail;refine(aG _ _ _ _).mono ?_;rintro r w1 ⟨rfl,rfl⟩;rw[qL.out];go_wp2_with fail;by_cases h1:dY 0 m x=true
  ·by_cases h2:dY 0 m y=true
   ·have HS:=ae (show kt L x y z=dY 0 m z by simp[HV.out,h1,h2]);have H1:=ae h1;have H2:=ae h2;clear h1 h2;go_wp2_with fail;refine(aG _ _ _ _).mono ?_;rintro r w1 ⟨rfl,rfl⟩;rw[H1.out];go_wp2_with fail;refine(aG _ _ _ _).mono ?_;rintro r w1 ⟨rfl,rfl⟩;rw[H2.out];go_wp2_with fail;refine(aG _ _ _ _).mono ?_;rintro r w1 ⟨rfl,rfl⟩;go_wp2_with fail;go_ret;refine⟨by rw[HS.out];rfl,?_⟩
    (try have hB0:=HB.out)
    (repeat' (first| (with_reducible first|exact Below.refl _ _|assumption|refine Below.alloc ?_ ?_ _|refine Below.drew ?_ |refine below_drewN ?_ _|refine Below.setCell ?_ ?_ _|refine below_setRow ?_ ?_ _) |go_size))
   ·have HS:=ae (show kt L x y z=false by simp[HV.out,h1,h2]);have H1:=ae h1;have H2:=ae (Bool.eq_false_iff.2 h2);clear h1 h2;go_wp2_with fail;refine(aG _ _ _ _).mono ?_;rintro r w1 ⟨rfl,rfl⟩;rw[H1.out];go_wp2_with fail;refine(aG _ _ _ _).mono ?_;rintro r w1 ⟨rfl,rfl⟩;rw[H2.out];go_wp2_with fail;go_ret;refine⟨by rw[HS.out];rfl,?_⟩
    (try have hB0:=HB.out)
    (repeat' (first| (with_reducible first|exact Below.refl _ _|assumption|refine Below.alloc ?_ ?_ _|refine Below.drew ?_ |refine below_drewN ?_ _|refine Below.setCell ?_ ?_ _|refine below_setRow ?_ ?_ _) |go_size))
  ·have HS:=ae (show kt L x y z=false by simp[HV.out,h1]);have H1:=ae (Bool.eq_false_iff.2 h1);clear h1;go_wp2_with fail;refine(aG _ _ _ _).mono ?_;rintro r w1 ⟨rfl,rfl⟩;rw[H1.out];go_wp2_with fail;go_ret;refine⟨by rw[HS.out];rfl,?_⟩
   (try have hB0:=HB.out)
   (repeat' (first| (with_reducible first|exact Below.refl _ _|assumption|refine Below.alloc ?_ ?_ _|refine Below.drew ?_ |refine below_drewN ?_ _|refine Below.setCell ?_ ?_ _|refine below_setRow ?_ ?_ _) |go_size))
 ·have HV:=ae (AB (x:=x) (y:=y) (z:=z) hL);have hin:dY 0 12 L=false:=by simp[dY];omega
  have qL:=ae hin;clear hin;go_enter Tryz.func132,Tryz.ntmps132;go_wp2_with fail;refine(aG _ _ _ _).mono ?_;rintro r w1 ⟨rfl,rfl⟩;rw[qL.out];go_wp2_with fail;go_ret;exact⟨by rw[HV.out];rfl,by(repeat' (first| (with_reducible first|exact Below.refl _ _|assumption|refine Below.alloc ?_ ?_ _|refine Below.drew ?_ |refine below_drewN ?_ _|refine Below.setCell ?_ ?_ _|refine below_setRow ?_ ?_ _) |go_size))⟩
open Go.RowKit
theorem sy {L x y z:Int} (h:kt L x y z=true):(0<=L/\L<=12)/\(0<=x/\x<4096)/\(0<=y/\y<4096)/\(0<=z/\z<4096):=by
 unfold kt at h;simp[dY] at h;have:=wA (L:=L) (by omega);omega
open Go.RowKit
theorem qO {id x y zl zh wd nm of cl:Int} (h:(bX id x y zl zh wd nm of && dY 0 255 cl)=true):(-268435456<=x/\x<=268435456)/\(-268435456<=y/\y<=268435456)/\(-268435456<=zl/\zl<=268435456):=by
 simp[bX,gM,dY] at h;omega
open Go.RowKit
end Go.Proofs.YtcclpdfmmdonpaaGreat
