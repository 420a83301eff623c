/- A fix read: what the program's reader returns. The reference's integers with a sign. The reference's rational numbers: made from a numerator and a denominator. The reference's integers and rational numbers: negation, rounding, conversion. The reference's integers back as machine numbers, and whole numbers as rational ones. The reference's rational numbers: negation, rounding, products, quotients. The reference's rational numbers: rounded down and up. The reference's rational numbers: products. The reference's rational numbers: quotients. -/
import Derived.Test.YteoikaedpgianaaRReader
import Derived.Test.YteoikaedpgianaaRTrack
import Derived.LoopN
import Derived.Test.YteoikaedpgianaaRLimb6
import Derived.Test.YteoikaedpgianaaRReg
namespace Go.Proofs.Yteoikaedpgianaa
open Go.RowKit

theorem heap_row_other {w : World} {g k : Nat} {cs : Array Value} (hne : k ≠ g) : (w.setRow g cs).heap[k]? = w.heap[k]? := by
  show (w.heap.modify g _)[k]? = _
  rw [Array.getElem?_modify, if_neg (by omega)]
end Go.Proofs.Yteoikaedpgianaa
namespace Go.Proofs.Yteoikaedpgianaa
open Go.RowKit Limb

/-- of so many limbs at most -/
def LenLe (m k : Nat) : Prop := (natL m).length ≤ k
theorem LenLe.le {m k : Nat} (h : LenLe m k) : (natL m).length ≤ k := h
theorem LenLe.wide {m k k' : Nat} (h : LenLe m k) (hk : k ≤ k') : LenLe m k' := Nat.le_trans h hk
/-- an integer in memory, of so many limbs at most -/
def IntAt (W : World) (v : Value) (z : Int) (k : Nat) : Prop := ∃ l, v = .agg #[.bool (decide (z < 0)), l] ∧ NatAt W l z.natAbs ∧ LenLe z.natAbs k
theorem IntAt.grow {W W' : World} {v : Value} {z : Int} {k : Nat} (h : IntAt W v z k) (hB : Below W.heap.size W W') : IntAt W' v z k := by
  obtain ⟨l, h1, h2, h3⟩ := h
  exact ⟨l, h1, h2.grow hB, h3⟩
theorem natL_mul {x y p q : Nat} (hx : LenLe x p) (hy : LenLe y q) : LenLe (x * y) (p + q) := by
  refine natL_length_le.2 ?_
  rw [Nat.pow_add]
  exact Nat.mul_lt_mul_of_lt_of_lt (natL_length_le.1 hx) (natL_length_le.1 hy)
theorem natL_add {x y p q : Nat} (hx : LenLe x p) (hy : LenLe y q) : LenLe (x + y) (p + q + 1) := by
  refine natL_length_le.2 ?_
  have h1 := natL_length_le.1 hx
  have h2 := natL_length_le.1 hy
  have h3 : 65536 ^ p ≤ 65536 ^ (p + q) := Nat.pow_le_pow_right (by decide) (by omega)
  have h4 : 65536 ^ q ≤ 65536 ^ (p + q) := Nat.pow_le_pow_right (by decide) (by omega)
  rw [Nat.pow_succ]
  omega
theorem NatIn.set {W : World} {B g m : Nat} {v : Value} {cs : Array Value} (h : NatIn B W v m) (hg : g < B) : NatAt (W.setRow g cs) v m := own_base3 (own_set h hg) (Nat.zero_le _)

set_option maxRecDepth 100000 in
set_option maxHeartbeats 800000 in
theorem imul_any (a b : Int) (ka kb : Nat) (va vb : Value) (w : World) (ha : IntAt w va a ka) (hb : IntAt w vb b kb) (hka : ka ≤ 20000) (hkb : kb ≤ 20000) :
    Calls Try.prog 80 #[va, vb] w fun r w' => (∃ v, r = .returned v ∧ IntAt w' v (a * b) (ka + kb)) ∧ Below w.heap.size w w' := by
  obtain ⟨la, rfl, hna, hla⟩ := ha
  obtain ⟨la, ca, rfl, _, _⟩ := NatAt.open hna
  obtain ⟨lb, rfl, hnb, hlb⟩ := hb
  obtain ⟨lb, cb, rfl, _, _⟩ := NatAt.open hnb
  have HSG := hid (@mul_sign a b)
  have HM := hid (fun w hx hy => mul_any a.natAbs b.natAbs (.slice la (natL a.natAbs).length ca) (.slice lb (natL b.natAbs).length cb) w hx hy (hla.wide (by omega)).le (hlb.wide (by omega)).le)
  have HK := hid (natL_mul hla hlb)
  have HNA := hid hna
  have HNB := hid hnb
  clear hna hnb hla hlb hka hkb
  generalize decide (a < 0) = sa at *
  generalize decide (b < 0) = sb at *
  generalize (natL a.natAbs).length = p at *
  generalize (natL b.natAbs).length = q at *
  go_enter Try.func80, Try.ntmps80
  go_wp2_with fail
  refine (HM.out _ (HNA.out.grow (by (repeat' (first | (with_reducible exact Below.refl _ _) | (with_reducible assumption) | (with_reducible refine Below.alloc ?_ ?_ _) | (with_reducible refine Below.drew ?_) | (with_reducible refine below_drewN ?_ _) | (with_reducible refine Below.setCell ?_ ?_ _) | (with_reducible refine below_setRow ?_ ?_ _) | go_size)))) (HNB.out.grow (by (repeat' (first | (with_reducible exact Below.refl _ _) | (with_reducible assumption) | (with_reducible refine Below.alloc ?_ ?_ _) | (with_reducible refine Below.drew ?_) | (with_reducible refine below_drewN ?_ _) | (with_reducible refine Below.setCell ?_ ?_ _) | (with_reducible refine below_setRow ?_ ?_ _) | go_size))))).mono ?_
  rintro r w1 ⟨⟨l, rfl, hl⟩, hb⟩
  have F2 := hid (heap_below hb (by first | (simp; done) | (simp; omega)) (by repeat' (first | (refine heap_alloc_at _ _ _ ?_; (first | rfl | (simp; done) | (simp; omega))) | (refine heap_alloc_past _ _ _ _ ?_))) : w1.heap[w.heap.size + 1 + 1]? = some (.cells #[.bool false, .slice none 0 0] 33))
  have F0 := hid (heap_below hb (by first | (simp; done) | (simp; omega)) (by repeat' (first | (refine heap_alloc_at _ _ _ ?_; (first | rfl | (simp; done) | (simp; omega))) | (refine heap_alloc_past _ _ _ _ ?_))) : w1.heap[w.heap.size]? = some (.cells #[.bool sa, .slice la p ca] 33))
  have F1 := hid (heap_below hb (by first | (simp; done) | (simp; omega)) (by repeat' (first | (refine heap_alloc_at _ _ _ ?_; (first | rfl | (simp; done) | (simp; omega))) | (refine heap_alloc_past _ _ _ _ ?_))) : w1.heap[w.heap.size + 1]? = some (.cells #[.bool sb, .slice lb q cb] 33))
  have c0 : w1.cell? ⟨w.heap.size, 0, none⟩ = some (.bool sa) := (cell_row (j := 0) F0.out).trans rfl
  have c1 : w1.cell? ⟨w.heap.size + 1, 0, none⟩ = some (.bool sb) := (cell_row (j := 0) F1.out).trans rfl
  have HB1 := hid ((by refine Below.trans ?_ (hb.mono ?_); (focus ((repeat' (first | (with_reducible exact Below.refl _ _) | (with_reducible assumption) | (with_reducible refine Below.alloc ?_ ?_ _) | (with_reducible refine Below.drew ?_) | (with_reducible refine below_drewN ?_ _) | (with_reducible refine Below.setCell ?_ ?_ _) | (with_reducible refine below_setRow ?_ ?_ _) | go_size)); done)); (focus (first | (simp; done) | (simp; omega)))) : Below w.heap.size w w1)
  have HL := hid hl
  obtain ⟨al, cl, rfl, _, _⟩ := own_open hl
  clear hb hl
  by_cases hz : a.natAbs * b.natAbs = 0
  · have hl0 : (natL (a.natAbs * b.natAbs)).length = 0 := by rw [hz, natL_zero]; rfl
    have HZ := hid (show decide (a * b < 0) = false by rw [HSG.out, hz]; simp)
    rw [hl0] at HL ⊢
    clear hl0 hz HSG
    cases sa <;> cases sb
    all_goals
      go_wp2_with (refine wpList_store_at rfl 33 (.tmp 4) (.tmp 22) rfl rfl rfl (F2.out) size33 rfl rfl rfl ?_)
      refine bodyPost_ret (results_at1 rfl rfl (setRow_heap _ _ _ _ _ _ (F2.out)) Try.underlying33 rfl size33 rfl) rfl ?_
      refine ⟨⟨_, rfl, _, by rw [HZ.out], ?_, by rw [Int.natAbs_mul]; exact HK.out⟩, below_setRow HB1.out (by omega) _⟩
      rw [Int.natAbs_mul]
      exact NatIn.set HL.out (by simp)
  · have hlp : 0 < (natL (a.natAbs * b.natAbs)).length := length_pos (by omega)
    have HZ := hid (show decide (a * b < 0) = (sa != sb) by rw [HSG.out]; simp [hz])
    clear hz HSG
    generalize (natL (a.natAbs * b.natAbs)).length = n at *
    cases sa <;> cases sb
    all_goals
      go_wp2_with (refine wpList_store_at rfl 33 (.tmp 4) (.tmp 22) rfl rfl rfl (F2.out) size33 rfl rfl rfl ?_)
      refine bodyPost_ret (results_at1 rfl rfl (setRow_heap _ _ _ _ _ _ (F2.out)) Try.underlying33 rfl size33 rfl) rfl ?_
      refine ⟨⟨_, rfl, _, by rw [HZ.out]; rfl, ?_, by rw [Int.natAbs_mul]; exact HK.out⟩, below_setRow HB1.out (by omega) _⟩
      rw [Int.natAbs_mul]
      exact NatIn.set HL.out (by simp)
end Go.Proofs.Yteoikaedpgianaa
namespace Go.Proofs.Yteoikaedpgianaa
open Go.RowKit Limb

/-- a rational number in memory, of so many limbs at most above and below -/
def QAt (W : World) (v : Value) (q : Rat) (k : Nat) : Prop := ∃ ln ld, v = .agg #[.bool (decide (q.num < 0)), ln, ld] ∧ NatAt W ln q.num.natAbs ∧ NatAt W ld q.den ∧ LenLe q.num.natAbs k ∧ LenLe q.den k
theorem QAt.grow {W W' : World} {v : Value} {q : Rat} {k : Nat} (h : QAt W v q k) (hB : Below W.heap.size W W') : QAt W' v q k := by
  obtain ⟨l, l', h1, h2, h3, h4⟩ := h
  exact ⟨l, l', h1, h2.grow hB, h3.grow hB, h4⟩
theorem QAt.wide {W : World} {v : Value} {q : Rat} {k k' : Nat} (h : QAt W v q k) (hk : k ≤ k') : QAt W v q k' := by
  obtain ⟨l, l', h1, h2, h3, h4, h5⟩ := h
  exact ⟨l, l', h1, h2, h3, h4.wide hk, h5.wide hk⟩
theorem NatAt.row {W : World} {g m : Nat} {v : Value} {t : TypeId} {fr : Nat × Nat} {old cs : Array Value} (h : NatAt W v m) (hg : W.heap[g]? = some (.cells old t fr)) (ht : t ≠ 3) : NatAt (W.setRow g cs) v m := by
  obtain ⟨h1, h2⟩ := h
  refine ⟨h1, ?_⟩
  rcases h2 with h2 | ⟨g', cap, cur, hv, hg', hr, h3⟩
  · exact Or.inl h2
  · refine Or.inr ⟨g', cap, cur, hv, hg', ?_, h3⟩
    have hne : g ≠ g' := by
      rintro rfl
      rw [hg] at hr
      simp only [Option.some.injEq, Obj.cells.injEq] at hr
      exact ht hr.2.1
    show (W.heap.modify g _)[g']? = _
    rw [Array.getElem?_modify, if_neg hne]
    exact hr
theorem LenLe.mono {m n k : Nat} (h : LenLe n k) (hmn : m ≤ n) : LenLe m k := Nat.le_trans (natL_length_mono hmn) h
theorem size35 : (Try.prog.info? 35).map (·.size) = some 3 := by kernel_rfl
set_option maxRecDepth 100000 in
set_option maxHeartbeats 800000 in
theorem frac_any (n : Int) (d k : Nat) (va : Value) (vb : Value) (w : World) (ha : IntAt w va n k) (hb : IntAt w vb (d : Int) k) (hk : k ≤ 40000) (hd : 0 < d) :
    Calls Try.prog 79 #[va, vb] w fun r w' => (∃ v, r = .returned v ∧ QAt w' v (mkRat n d) k) ∧ Below w.heap.size w w' := by
  obtain ⟨la, rfl, hna, hla⟩ := ha
  obtain ⟨la, ca, rfl, _, _⟩ := NatAt.open hna
  obtain ⟨lb, rfl, hnb, hlb⟩ := hb
  obtain ⟨lb, cb, rfl, _, _⟩ := NatAt.open hnb
  rw [Int.natAbs_natCast] at hnb hlb ⊢
  rw [show decide ((d : Int) < 0) = false by simp]
  have hg : 0 < Nat.gcd n.natAbs d := Nat.gcd_pos_of_pos_right _ hd
  have HG := hid (fun w hx hy => gcd_any n.natAbs d (.slice la (natL n.natAbs).length ca) (.slice lb (natL d).length cb) w hx hy (hla.wide (by omega)).le (hlb.wide (by omega)).le)
  have HD1 := hid (fun w vb hx hy => divide_any n.natAbs (Nat.gcd n.natAbs d) (.slice la (natL n.natAbs).length ca) vb w hx hy (hla.wide (by omega)).le hg)
  have HD2 := hid (fun w vb hx hy => divide_any d (Nat.gcd n.natAbs d) (.slice lb (natL d).length cb) vb w hx hy (hlb.wide (by omega)).le hg)
  have HNUM := hid (rat_num (n := n) (Nat.ne_of_gt hd))
  have HDEN := hid (rat_den (n := n) (Nat.ne_of_gt hd))
  have HNEG := hid (show decide ((mkRat n d).num < 0) = decide (n < 0) from decide_eq_decide.2 (rat_neg (Nat.ne_of_gt hd)))
  have HK1 := hid (show LenLe (n.natAbs / Nat.gcd n.natAbs d) k from hla.mono (Nat.div_le_self _ _))
  have HK2 := hid (show LenLe (d / Nat.gcd n.natAbs d) k from hlb.mono (Nat.div_le_self _ _))
  have HNA := hid hna
  have HNB := hid hnb
  have HZ := hid (show n.natAbs / Nat.gcd n.natAbs d = 0 → decide (n < 0) = false by
    intro h
    have h2 := Nat.div_mul_cancel (Nat.gcd_dvd_left n.natAbs d)
    rw [h, Nat.zero_mul] at h2
    simp; omega)
  clear hna hnb hla hlb hk hd hg
  generalize decide (n < 0) = sa at *
  generalize (natL n.natAbs).length = p at *
  generalize (natL d).length = q at *
  go_enter Try.func79, Try.ntmps79
  go_wp2_with fail
  have F0 := hid (show (((w.alloc (.cells #[.bool sa, .slice la p ca] 33)).alloc (.cells #[.bool false, .slice lb q cb] 33)).alloc (.cells #[.bool false, .slice none 0 0, .slice none 0 0] 35)).heap[w.heap.size]? = some (.cells #[.bool sa, .slice la p ca] 33) from (by repeat' (first | (refine heap_alloc_at _ _ _ ?_; (first | rfl | (simp; done) | (simp; omega))) | (refine heap_alloc_past _ _ _ _ ?_))))
  have F1 := hid (show (((w.alloc (.cells #[.bool sa, .slice la p ca] 33)).alloc (.cells #[.bool false, .slice lb q cb] 33)).alloc (.cells #[.bool false, .slice none 0 0, .slice none 0 0] 35)).heap[w.heap.size + 1]? = some (.cells #[.bool false, .slice lb q cb] 33) from (by repeat' (first | (refine heap_alloc_at _ _ _ ?_; (first | rfl | (simp; done) | (simp; omega))) | (refine heap_alloc_past _ _ _ _ ?_))))
  have F2 := hid (show (((w.alloc (.cells #[.bool sa, .slice la p ca] 33)).alloc (.cells #[.bool false, .slice lb q cb] 33)).alloc (.cells #[.bool false, .slice none 0 0, .slice none 0 0] 35)).heap[w.heap.size + 1 + 1]? = some (.cells #[.bool false, .slice none 0 0, .slice none 0 0] 35) from (by repeat' (first | (refine heap_alloc_at _ _ _ ?_; (first | rfl | (simp; done) | (simp; omega))) | (refine heap_alloc_past _ _ _ _ ?_))))
  refine (HG.out _ (HNA.out.grow (by (repeat' (first | (with_reducible exact Below.refl _ _) | (with_reducible assumption) | (with_reducible refine Below.alloc ?_ ?_ _) | (with_reducible refine Below.drew ?_) | (with_reducible refine below_drewN ?_ _) | (with_reducible refine Below.setCell ?_ ?_ _) | (with_reducible refine below_setRow ?_ ?_ _) | go_size)))) (HNB.out.grow (by (repeat' (first | (with_reducible exact Below.refl _ _) | (with_reducible assumption) | (with_reducible refine Below.alloc ?_ ?_ _) | (with_reducible refine Below.drew ?_) | (with_reducible refine below_drewN ?_ _) | (with_reducible refine Below.setCell ?_ ?_ _) | (with_reducible refine below_setRow ?_ ?_ _) | go_size))))).mono ?_
  rintro r w1 ⟨⟨gv, rfl, hgv⟩, hb⟩
  have HB1 := hid ((by refine Below.trans ?_ (hb.mono ?_); (focus ((repeat' (first | (with_reducible exact Below.refl _ _) | (with_reducible assumption) | (with_reducible refine Below.alloc ?_ ?_ _) | (with_reducible refine Below.drew ?_) | (with_reducible refine below_drewN ?_ _) | (with_reducible refine Below.setCell ?_ ?_ _) | (with_reducible refine below_setRow ?_ ?_ _) | go_size)); done)); (focus (first | (simp; done) | (simp; omega)))) : Below w.heap.size w w1)
  replace F0 := hid (heap_below hb (by first | (simp; done) | (simp; omega)) F0.out)
  replace F1 := hid (heap_below hb (by first | (simp; done) | (simp; omega)) F1.out)
  replace F2 := hid (heap_below hb (by first | (simp; done) | (simp; omega)) F2.out)
  have c0 : w1.cell? ⟨w.heap.size, 0, none⟩ = some (.bool sa) := (cell_row (j := 0) F0.out).trans rfl
  have c1 : w1.cell? ⟨w.heap.size, 1, none⟩ = some (.slice la p ca) := (cell_row (j := 1) F0.out).trans rfl
  have c2 : w1.cell? ⟨w.heap.size + 1, 1, none⟩ = some (.slice lb q cb) := (cell_row (j := 1) F1.out).trans rfl
  have HGV := hid hgv
  clear hb hgv
  go_wp2_with fail
  refine (HD1.out _ _ (HNA.out.grow HB1.out) HGV.out).mono ?_
  rintro r w2 ⟨⟨qv, sv, rfl, hq, _⟩, hb⟩
  have HB2 := hid (HB1.out.trans (hb.mono HB1.out.size))
  clear c0 c1 c2
  replace F0 := hid (heap_still hb F0.out)
  replace F1 := hid (heap_still hb F1.out)
  replace F2 := hid (heap_still hb F2.out)
  have c0 : w2.cell? ⟨w.heap.size, 0, none⟩ = some (.bool sa) := (cell_row (j := 0) F0.out).trans rfl
  have c1 : w2.cell? ⟨w.heap.size, 1, none⟩ = some (.slice la p ca) := (cell_row (j := 1) F0.out).trans rfl
  have c2 : w2.cell? ⟨w.heap.size + 1, 1, none⟩ = some (.slice lb q cb) := (cell_row (j := 1) F1.out).trans rfl
  have HGV2 := hid (HGV.out.grow hb)
  have HQ := hid hq
  obtain ⟨aq, cq, rfl, _, _⟩ := hq.open
  clear hb hq
  go_wp2_with fail
  refine (HD2.out _ _ (HNB.out.grow HB2.out) HGV2.out).mono ?_
  rintro r w3 ⟨⟨qv2, sv2, rfl, hq2, _⟩, hb⟩
  have HB3 := hid (HB2.out.trans (hb.mono HB2.out.size))
  clear c0 c1 c2
  replace F0 := hid (heap_still hb F0.out)
  replace F1 := hid (heap_still hb F1.out)
  replace F2 := hid (heap_still hb F2.out)
  have c0 : w3.cell? ⟨w.heap.size, 0, none⟩ = some (.bool sa) := (cell_row (j := 0) F0.out).trans rfl
  have c1 : w3.cell? ⟨w.heap.size, 1, none⟩ = some (.slice la p ca) := (cell_row (j := 1) F0.out).trans rfl
  have c2 : w3.cell? ⟨w.heap.size + 1, 1, none⟩ = some (.slice lb q cb) := (cell_row (j := 1) F1.out).trans rfl
  have HQ1 := hid (HQ.out.grow hb)
  have HQ2 := hid hq2
  obtain ⟨aq2, cq2, rfl, _, _⟩ := hq2.open
  clear hb hq2
  by_cases hz : n.natAbs / Nat.gcd n.natAbs d = 0
  · have hsa := HZ.out hz
    have hl0 : (natL (n.natAbs / Nat.gcd n.natAbs d)).length = 0 := by rw [hz, natL_zero]; rfl
    subst hsa
    rw [hl0] at HQ1 ⊢
    clear hz hl0
    go_wp2_with (refine wpList_store_at rfl 35 (.tmp 4) (.tmp 39) rfl rfl rfl (F2.out) size35 rfl rfl rfl ?_)
    refine bodyPost_ret (results_at1 rfl rfl (setRow_heap _ _ _ _ _ _ (F2.out)) Try.underlying35 rfl size35 rfl) rfl ?_
    refine ⟨⟨_, rfl, _, _, by rw [HNEG.out], ?_, ?_, by rw [HNUM.out]; exact HK1.out, by rw [HDEN.out]; exact HK2.out⟩, below_setRow HB3.out (by omega) _⟩
    · rw [HNUM.out]; exact HQ1.out.row F2.out (by decide)
    · rw [HDEN.out]; exact HQ2.out.row F2.out (by decide)
  · have hlp : 0 < (natL (n.natAbs / Nat.gcd n.natAbs d)).length := length_pos (Nat.pos_of_ne_zero hz)
    generalize (natL (n.natAbs / Nat.gcd n.natAbs d)).length = nn at *
    clear hz
    cases sa
    all_goals
      go_wp2_with (refine wpList_store_at rfl 35 (.tmp 4) (.tmp 39) rfl rfl rfl (F2.out) size35 rfl rfl rfl ?_)
      refine bodyPost_ret (results_at1 rfl rfl (setRow_heap _ _ _ _ _ _ (F2.out)) Try.underlying35 rfl size35 rfl) rfl ?_
      refine ⟨⟨_, rfl, _, _, by rw [HNEG.out], ?_, ?_, by rw [HNUM.out]; exact HK1.out, by rw [HDEN.out]; exact HK2.out⟩, below_setRow HB3.out (by omega) _⟩
      · rw [HNUM.out]; exact HQ1.out.row F2.out (by decide)
      · rw [HDEN.out]; exact HQ2.out.row F2.out (by decide)
end Go.Proofs.Yteoikaedpgianaa
namespace Go.Proofs.Yteoikaedpgianaa
open Go.RowKit Limb

theorem neg_sign {a : Int} : decide (-a < 0) = (!decide (a < 0) && decide (a.natAbs ≠ 0)) := by
  by_cases h1 : a < 0 <;> by_cases h2 : a = 0 <;> simp [h1, h2] <;> omega
set_option maxRecDepth 100000 in
theorem iminus_any (a : Int) (k : Nat) (va : Value) (w : World) (ha : IntAt w va a k) :
    Calls Try.prog 158 #[va] w fun r w' => (∃ v, r = .returned v ∧ IntAt w' v (-a) k) ∧ Below w.heap.size w w' := by
  obtain ⟨la, rfl, hna, hla⟩ := ha
  obtain ⟨la, ca, rfl, _, _⟩ := NatAt.open hna
  have HSG := hid (@neg_sign a)
  have HK := hid hla
  have HNA := hid (fun o o' => hna.grow (((Below.refl w.heap.size w).alloc (Nat.le_refl _) o).alloc (by simp) o'))
  clear hna hla
  by_cases hz : a.natAbs = 0
  · have hl0 : (natL a.natAbs).length = 0 := by rw [hz, natL_zero]; rfl
    have HZ := hid (show decide (-a < 0) = false by rw [HSG.out, hz]; simp)
    rw [hl0] at HNA ⊢
    generalize decide (a < 0) = sa at *
    clear hl0 hz HSG
    cases sa
    all_goals
      go_enter Try.func158, Try.ntmps158
      go_wp2_with (refine wpList_store_at rfl 33 (.tmp 2) (.tmp 14) rfl rfl rfl ((heap_alloc_at _ _ _ (by simp))) size33 rfl rfl rfl ?_)
      refine bodyPost_ret (results_at1 rfl rfl (setRow_heap _ _ _ _ _ _ ((heap_alloc_at _ _ _ (by simp)))) Try.underlying33 rfl size33 rfl) rfl ?_
      refine ⟨⟨_, rfl, _, by rw [HZ.out], ?_, by rw [Int.natAbs_neg]; exact HK.out⟩, ?_⟩
      · rw [Int.natAbs_neg]
        exact (HNA.out _ _).row (t := 33) (by repeat' (first | (refine heap_alloc_at _ _ _ ?_; (first | rfl | (simp; done) | (simp; omega))) | (refine heap_alloc_past _ _ _ _ ?_))) (by decide)
      · refine below_setRow (by (repeat' (first | (with_reducible exact Below.refl _ _) | (with_reducible assumption) | (with_reducible refine Below.alloc ?_ ?_ _) | (with_reducible refine Below.drew ?_) | (with_reducible refine below_drewN ?_ _) | (with_reducible refine Below.setCell ?_ ?_ _) | (with_reducible refine below_setRow ?_ ?_ _) | go_size))) (by omega) _
  · have hlp : 0 < (natL a.natAbs).length := length_pos (Nat.pos_of_ne_zero hz)
    have HZ := hid (show decide (-a < 0) = !decide (a < 0) by rw [HSG.out]; simp [hz])
    generalize decide (a < 0) = sa at *
    generalize (natL a.natAbs).length = n at *
    clear hz HSG
    cases sa
    all_goals
      go_enter Try.func158, Try.ntmps158
      go_wp2_with (refine wpList_store_at rfl 33 (.tmp 2) (.tmp 14) rfl rfl rfl ((heap_alloc_at _ _ _ (by simp))) size33 rfl rfl rfl ?_)
      refine bodyPost_ret (results_at1 rfl rfl (setRow_heap _ _ _ _ _ _ ((heap_alloc_at _ _ _ (by simp)))) Try.underlying33 rfl size33 rfl) rfl ?_
      refine ⟨⟨_, rfl, _, by rw [HZ.out]; rfl, ?_, by rw [Int.natAbs_neg]; exact HK.out⟩, ?_⟩
      · rw [Int.natAbs_neg]
        exact (HNA.out _ _).row (t := 33) (by repeat' (first | (refine heap_alloc_at _ _ _ ?_; (first | rfl | (simp; done) | (simp; omega))) | (refine heap_alloc_past _ _ _ _ ?_))) (by decide)
      · refine below_setRow (by (repeat' (first | (with_reducible exact Below.refl _ _) | (with_reducible assumption) | (with_reducible refine Below.alloc ?_ ?_ _) | (with_reducible refine Below.drew ?_) | (with_reducible refine below_drewN ?_ _) | (with_reducible refine Below.setCell ?_ ?_ _) | (with_reducible refine below_setRow ?_ ?_ _) | go_size))) (by omega) _

theorem nat_sign (x : Nat) : decide ((x : Int) < 0) = false := by simp
theorem down_lt {a : Int} {d : Nat} (hd : 0 < d) (ha : a < 0) : decide (a / (d : Int) < 0) = true := by
  simp only [decide_eq_true_eq]
  exact Int.ediv_neg_of_neg_of_pos ha (by omega)
set_option maxRecDepth 100000 in
set_option maxHeartbeats 800000 in
theorem down_any (a : Int) (d k : Nat) (va vb : Value) (w : World) (ha : IntAt w va a k) (hb : IntAt w vb (d : Int) k) (hk : k ≤ 40000) (hd : 0 < d) :
    Calls Try.prog 105 #[va, vb] w fun r w' => (∃ v, r = .returned v ∧ IntAt w' v (a / (d : Int)) (k + 2)) ∧ Below w.heap.size w w' := by
  obtain ⟨la, rfl, hna, hla⟩ := ha
  obtain ⟨la, ca, rfl, _, _⟩ := NatAt.open hna
  obtain ⟨lb, rfl, hnb, hlb⟩ := hb
  obtain ⟨lb, cb, rfl, _, _⟩ := NatAt.open hnb
  rw [Int.natAbs_natCast] at hnb hlb ⊢
  rw [show decide ((d : Int) < 0) = false by simp]
  have HD := hid (fun w hx hy => divide_any a.natAbs d (.slice la (natL a.natAbs).length ca) (.slice lb (natL d).length cb) w hx hy (hla.wide (by omega)).le hd)
  have HK1 := hid (show LenLe (a.natAbs / d) k from hla.mono (Nat.div_le_self _ _))
  have HKK := hid hk
  have HNA := hid hna
  have HNB := hid hnb
  have HP := hid (fun h => @down_pos a d h)
  have HN := hid (fun h => @down_neg a d hd h)
  have HS := hid (show decide (a < 0) = true → a < 0 by simp)
  have HS' := hid (show decide (a < 0) = false → 0 ≤ a by simp)
  have HLT := hid (fun h => @down_lt a d hd h)
  have HZ := hid (show a < 0 → a.natAbs % d = 0 → 0 < a.natAbs / d by
    intro h h2
    have h3 := Nat.div_add_mod a.natAbs d
    rcases Nat.eq_zero_or_pos (a.natAbs / d) with h4 | h4
    · rw [h4, h2] at h3; simp at h3; omega
    · exact h4)
  clear hna hnb hla hlb hk hd
  generalize decide (a < 0) = sa at *
  generalize (natL a.natAbs).length = p at *
  generalize (natL d).length = q at *
  go_enter Try.func105, Try.ntmps105
  go_wp2_with fail
  have F0 := hid (show (((w.alloc (.cells #[.bool sa, .slice la p ca] 33)).alloc (.cells #[.bool false, .slice lb q cb] 33)).alloc (.cells #[.bool false, .slice none 0 0] 33)).heap[w.heap.size]? = some (.cells #[.bool sa, .slice la p ca] 33) from (by repeat' (first | (refine heap_alloc_at _ _ _ ?_; (first | rfl | (simp; done) | (simp; omega))) | (refine heap_alloc_past _ _ _ _ ?_))))
  have F2 := hid (show (((w.alloc (.cells #[.bool sa, .slice la p ca] 33)).alloc (.cells #[.bool false, .slice lb q cb] 33)).alloc (.cells #[.bool false, .slice none 0 0] 33)).heap[w.heap.size + 1 + 1]? = some (.cells #[.bool false, .slice none 0 0] 33) from (by repeat' (first | (refine heap_alloc_at _ _ _ ?_; (first | rfl | (simp; done) | (simp; omega))) | (refine heap_alloc_past _ _ _ _ ?_))))
  refine (HD.out _ (HNA.out.grow (by (repeat' (first | (with_reducible exact Below.refl _ _) | (with_reducible assumption) | (with_reducible refine Below.alloc ?_ ?_ _) | (with_reducible refine Below.drew ?_) | (with_reducible refine below_drewN ?_ _) | (with_reducible refine Below.setCell ?_ ?_ _) | (with_reducible refine below_setRow ?_ ?_ _) | go_size)))) (HNB.out.grow (by (repeat' (first | (with_reducible exact Below.refl _ _) | (with_reducible assumption) | (with_reducible refine Below.alloc ?_ ?_ _) | (with_reducible refine Below.drew ?_) | (with_reducible refine below_drewN ?_ _) | (with_reducible refine Below.setCell ?_ ?_ _) | (with_reducible refine below_setRow ?_ ?_ _) | go_size))))).mono ?_
  rintro r w1 ⟨⟨qv, sv, rfl, hq, hs⟩, hb⟩
  have HB1 := hid ((by refine Below.trans ?_ (hb.mono ?_); (focus ((repeat' (first | (with_reducible exact Below.refl _ _) | (with_reducible assumption) | (with_reducible refine Below.alloc ?_ ?_ _) | (with_reducible refine Below.drew ?_) | (with_reducible refine below_drewN ?_ _) | (with_reducible refine Below.setCell ?_ ?_ _) | (with_reducible refine below_setRow ?_ ?_ _) | go_size)); done)); (focus (first | (simp; done) | (simp; omega)))) : Below w.heap.size w w1)
  replace F0 := hid (heap_below hb (by first | (simp; done) | (simp; omega)) F0.out)
  replace F2 := hid (heap_below hb (by first | (simp; done) | (simp; omega)) F2.out)
  have c0 : w1.cell? ⟨w.heap.size, 0, none⟩ = some (.bool sa) := (cell_row (j := 0) F0.out).trans rfl
  have HQ := hid hq
  obtain ⟨aq, cq, rfl, _, _⟩ := hq.open
  obtain ⟨a9, c9, rfl, _, _⟩ := hs.open
  clear hb hq hs
  have hsz := HB1.out.size
  cases hsa : sa
  · subst hsa
    have HP2 := hid (HP.out (HS'.out rfl))
    generalize (natL (a.natAbs / d)).length = n1 at *
    go_wp2_with (refine wpList_store_at rfl 33 (.tmp 4) (.tmp 19) rfl rfl rfl (F2.out) size33 rfl rfl rfl ?_)
    refine bodyPost_ret (results_at1 rfl rfl (setRow_heap _ _ _ _ _ _ (F2.out)) Try.underlying33 rfl size33 rfl) rfl ?_
    refine ⟨⟨_, rfl, _, by rw [HP2.out, nat_sign], ?_, by rw [HP2.out, Int.natAbs_natCast]; exact HK1.out.wide (by omega)⟩, below_setRow HB1.out (by omega) _⟩
    rw [HP2.out, Int.natAbs_natCast]
    exact HQ.out.row F2.out (by decide)
  · subst hsa
    have hneg := HS.out rfl
    have HL := hid (HLT.out hneg)
    by_cases hr : a.natAbs % d = 0
    · have hl0 : (natL (a.natAbs % d)).length = 0 := by rw [hr, natL_zero]; rfl
      have hlp : 0 < (natL (a.natAbs / d)).length := length_pos (HZ.out hneg hr)
      have HV := hid (show (a / (d : Int)).natAbs = a.natAbs / d by rw [HN.out hneg, if_pos hr, Int.natAbs_neg, Int.natAbs_natCast, Nat.add_zero])
      rw [hl0]
      generalize (natL (a.natAbs / d)).length = n1 at *
      clear hr hl0 hneg
      go_wp2_with (refine wpList_store_at rfl 33 (.tmp 4) (.tmp 30) rfl rfl rfl (F2.out) size33 rfl rfl rfl ?_)
      refine bodyPost_ret (results_at1 rfl rfl (setRow_heap _ _ _ _ _ _ (F2.out)) Try.underlying33 rfl size33 rfl) rfl ?_
      refine ⟨⟨_, rfl, _, by rw [HL.out], ?_, by rw [HV.out]; exact HK1.out.wide (by omega)⟩, below_setRow HB1.out (by omega) _⟩
      rw [HV.out]
      exact HQ.out.row F2.out (by decide)
    · have hlp : 0 < (natL (a.natAbs % d)).length := length_pos (Nat.pos_of_ne_zero hr)
      have HV := hid (show (a / (d : Int)).natAbs = a.natAbs / d + 1 by rw [HN.out hneg, if_neg hr, Int.natAbs_neg, Int.natAbs_natCast])
      generalize (natL (a.natAbs % d)).length = n2 at *
      have HPL := hid (fun w vb hx hy => plus_any (a.natAbs / d) 1 (.slice aq (natL (a.natAbs / d)).length cq) vb w hx hy (HK1.out.wide (by have := HKK.out; omega)).le (by rw [natL_single (by decide) (by decide)]; decide))
      generalize (natL (a.natAbs / d)).length = n1 at *
      clear hr hneg
      go_wp2_with fail
      have hb0 := (Below.refl w1.heap.size w1).alloc (Nat.le_refl _) (.cells #[.int .i64 1] 3)
      refine (HPL.out _ _ (HQ.out.grow hb0) (nat_limb (x := 1) rfl (by decide) (by decide) (by repeat' (first | (refine heap_alloc_at _ _ _ ?_; (first | rfl | (simp; done) | (simp; omega))) | (refine heap_alloc_past _ _ _ _ ?_))))).mono ?_
      rintro r w2 ⟨⟨pv, rfl, hp⟩, hb⟩
      have hbb := hb0.trans (hb.mono (by simp))
      have HB2 := hid (HB1.out.trans (hbb.mono hsz))
      clear c0
      replace F0 := hid (heap_still hbb F0.out)
      replace F2 := hid (heap_still hbb F2.out)
      have c0 : w2.cell? ⟨w.heap.size, 0, none⟩ = some (.bool true) := (cell_row (j := 0) F0.out).trans rfl
      have HPP := hid hp
      obtain ⟨ap, cp, rfl, _, _⟩ := own_open hp
      have hlp2 : 0 < (natL (a.natAbs / d + 1)).length := length_pos (Nat.succ_pos _)
      generalize (natL (a.natAbs / d + 1)).length = n3 at *
      clear hb0 hb hbb hp
      go_wp2_with (refine wpList_store_at rfl 33 (.tmp 4) (.tmp 30) rfl rfl rfl (F2.out) size33 rfl rfl rfl ?_)
      refine bodyPost_ret (results_at1 rfl rfl (setRow_heap _ _ _ _ _ _ (F2.out)) Try.underlying33 rfl size33 rfl) rfl ?_
      refine ⟨⟨_, rfl, _, by rw [HL.out], ?_, by rw [HV.out]; exact natL_add HK1.out (show LenLe 1 1 by unfold LenLe; rw [natL_single (by decide) (by decide)]; decide)⟩, below_setRow HB2.out (by omega) _⟩
      rw [HV.out]
      exact HPP.out.at.row F2.out (by decide)
end Go.Proofs.Yteoikaedpgianaa
namespace Go.Proofs.Yteoikaedpgianaa
open Go.RowKit Limb

theorem div_pow_step (m j : Nat) : m / 65536 ^ (j + 1) * 65536 + m / 65536 ^ j % 65536 = m / 65536 ^ j := by
  rw [Nat.pow_succ, ← Nat.div_div_eq_div_mul]
  omega
set_option maxRecDepth 100000 in
set_option maxHeartbeats 800000 in
theorem fits_any (a : Int) (k : Nat) (va : Value) (w : World) (ha : IntAt w va a k) (hf : -4611686018427387904 ≤ a ∧ a ≤ 4611686018427387904) :
    Calls Try.prog 56 #[va] w fun r w' => r = .returned (.tuple #[.int .i64 a, .bool true]) ∧ Below w.heap.size w w' := by
  obtain ⟨la, rfl, hna, hla⟩ := ha
  obtain ⟨la, ca, rfl, _, _⟩ := NatAt.open hna
  obtain ⟨a', ca', hv, hsh, hrd⟩ := hna.open
  obtain ⟨rfl, _, rfl⟩ : la = a' ∧ True ∧ ca = ca' := by cases hv; exact ⟨rfl, trivial, rfl⟩
  have HR := hid hrd
  have hp : (natL a.natAbs).length ≤ 4 := natL_length_le.2 (by omega)
  have HT := hid (show a.natAbs / 65536 ^ (natL a.natAbs).length = 0 from natL_digit_high _ _ (Nat.le_refl _))
  have HTOP := hid (show a.natAbs / 65536 ^ 3 % 65536 ≤ 16384 by omega)
  have HMI := hid (show ((a.natAbs : Nat) : Int) ≤ 4611686018427387904 by omega)
  have HS := hid (show decide (a < 0) = true → -((a.natAbs : Nat) : Int) = a by intro h; simp at h; omega)
  have HS' := hid (show decide (a < 0) = false → ((a.natAbs : Nat) : Int) = a by intro h; simp at h; omega)
  have HDM := hid (fun j => div_pow_step a.natAbs j)
  have HDL := hid (fun j => digit_lt a.natAbs j)
  have HLE := hid (fun j => Nat.div_le_self a.natAbs (65536 ^ j))
  have HFI := hid hf
  generalize decide (a < 0) = sa at *
  generalize (natL a.natAbs).length = p at *
  clear hna hla hrd hf
  generalize a.natAbs = m at *
  go_enter Try.func56, Try.ntmps56
  by_cases h4 : p = 4
  · subst h4
    obtain ⟨g, hg4, hg, hc⟩ := HR.out (w.alloc (.cells #[.bool sa, .slice la 4 ca] 33)) ((Below.refl _ _).alloc (Nat.le_refl _) _) 3 (by decide)
    have htop := HTOP.out
    subst hg4
    simp only at hc
    generalize m / 65536 ^ 3 % 65536 = x at *
    clear htop
    have htop : (x : Int) ≤ 16384 := by have := HTOP.out; omega
    have hp : 4 ≤ 4 := by decide
    go_wp2_with fail
    clear hc htop
    go_loop [4, 5] (fun nv iv => ∃ j : Nat, j ≤ 4 ∧ iv = .int .i64 ((j : Int) - 1) ∧ nv = .int .i64 (m / 65536 ^ j : Nat)) (fun _ iv => (intOf iv + 1).toNat)
    case atStart => exact ⟨4, Nat.le_refl _, by go_num, by rw [HT.out]; rfl⟩
    case round =>
      obtain ⟨j, hj, rfl, rfl⟩ := hrel
      rcases Nat.eq_zero_or_pos j with rfl | hj0
      · rw [Nat.pow_zero, Nat.div_one]
        have hmi := HMI.out
        cases sa
        · have HV := hid (HS'.out rfl)
          go_wp2_with fail
          go_ret2
          exact ⟨by rw [← HV.out]; rfl, by (repeat' (first | (with_reducible exact Below.refl _ _) | (with_reducible assumption) | (with_reducible refine Below.alloc ?_ ?_ _) | (with_reducible refine Below.drew ?_) | (with_reducible refine below_drewN ?_ _) | (with_reducible refine Below.setCell ?_ ?_ _) | (with_reducible refine below_setRow ?_ ?_ _) | go_size))⟩
        · have HV := hid (HS.out rfl)
          go_wp2_with fail
          go_ret2
          exact ⟨by rw [← HV.out]; rfl, by (repeat' (first | (with_reducible exact Below.refl _ _) | (with_reducible assumption) | (with_reducible refine Below.alloc ?_ ?_ _) | (with_reducible refine Below.drew ?_) | (with_reducible refine below_drewN ?_ _) | (with_reducible refine Below.setCell ?_ ?_ _) | (with_reducible refine below_setRow ?_ ?_ _) | go_size))⟩
      · obtain ⟨i, rfl⟩ : ∃ i, j = i + 1 := ⟨j - 1, by omega⟩
        obtain ⟨g9, hg9, hg, hc⟩ := HR.out (w.alloc (.cells #[.bool sa, .slice (some ⟨g, 0, none⟩) 4 ca] 33)) ((Below.refl _ _).alloc (Nat.le_refl _) _) i (by omega)
        have HD1 := hid (HDM.out i)
        have HL1 := hid (HLE.out i)
        have HL2 := hid (HLE.out (i + 1))
        have hd1 := HDL.out i
        (first | subst hg9 | cases hg9)
        simp only at hc
        have hx1 : ((m / 65536 ^ i % 65536 : Nat) : Int) ≤ 65535 := by omega
        have hx2 : ((m / 65536 ^ (i + 1) : Nat) : Int) * 65536 + ((m / 65536 ^ i % 65536 : Nat) : Int) = ((m / 65536 ^ i : Nat) : Int) := by have := HD1.out; omega
        have hx3 : ((m / 65536 ^ i : Nat) : Int) ≤ 4611686018427387904 := by have := HL1.out; have := HMI.out; omega
        have HX2 := hid hx2
        clear hd1 hx2
        generalize m / 65536 ^ (i + 1) = n1 at *
        generalize m / 65536 ^ i % 65536 = x1 at *
        have hx4 : ((n1 : Nat) : Int) * 65536 + x1 ≤ 4611686018427387904 := by have := HX2.out; omega
        go_wp2_with fail
        go_round
        case rel => exact ⟨i, by omega, by go_num, by first | (rw [HX2.out]; done) | (exact congrArg (Value.int .i64) HX2.out) | go_num⟩
        case measure => (try simp [intOf]); (try omega)
  · have h4' : ((p : Int) == 4) = false := by simp; omega
    clear h4
    have hp3 : (p : Int) ≤ 4 := by omega
    go_wp2_with fail
    go_loop [4, 5] (fun nv iv => ∃ j : Nat, j ≤ p ∧ iv = .int .i64 ((j : Int) - 1) ∧ nv = .int .i64 (m / 65536 ^ j : Nat)) (fun _ iv => (intOf iv + 1).toNat)
    case atStart => exact ⟨p, Nat.le_refl _, by go_num, by rw [HT.out]; rfl⟩
    case round =>
      obtain ⟨j, hj, rfl, rfl⟩ := hrel
      rcases Nat.eq_zero_or_pos j with rfl | hj0
      · rw [Nat.pow_zero, Nat.div_one]
        have hmi := HMI.out
        cases sa
        · have HV := hid (HS'.out rfl)
          go_wp2_with fail
          go_ret2
          exact ⟨by rw [← HV.out]; rfl, by (repeat' (first | (with_reducible exact Below.refl _ _) | (with_reducible assumption) | (with_reducible refine Below.alloc ?_ ?_ _) | (with_reducible refine Below.drew ?_) | (with_reducible refine below_drewN ?_ _) | (with_reducible refine Below.setCell ?_ ?_ _) | (with_reducible refine below_setRow ?_ ?_ _) | go_size))⟩
        · have HV := hid (HS.out rfl)
          go_wp2_with fail
          go_ret2
          exact ⟨by rw [← HV.out]; rfl, by (repeat' (first | (with_reducible exact Below.refl _ _) | (with_reducible assumption) | (with_reducible refine Below.alloc ?_ ?_ _) | (with_reducible refine Below.drew ?_) | (with_reducible refine below_drewN ?_ _) | (with_reducible refine Below.setCell ?_ ?_ _) | (with_reducible refine below_setRow ?_ ?_ _) | go_size))⟩
      · obtain ⟨i, rfl⟩ : ∃ i, j = i + 1 := ⟨j - 1, by omega⟩
        obtain ⟨g9, hg9, hg, hc⟩ := HR.out (w.alloc (.cells #[.bool sa, .slice la p ca] 33)) ((Below.refl _ _).alloc (Nat.le_refl _) _) i (by omega)
        have HD1 := hid (HDM.out i)
        have HL1 := hid (HLE.out i)
        have HL2 := hid (HLE.out (i + 1))
        have hd1 := HDL.out i
        (first | subst hg9 | cases hg9)
        simp only at hc
        have hx1 : ((m / 65536 ^ i % 65536 : Nat) : Int) ≤ 65535 := by omega
        have hx2 : ((m / 65536 ^ (i + 1) : Nat) : Int) * 65536 + ((m / 65536 ^ i % 65536 : Nat) : Int) = ((m / 65536 ^ i : Nat) : Int) := by have := HD1.out; omega
        have hx3 : ((m / 65536 ^ i : Nat) : Int) ≤ 4611686018427387904 := by have := HL1.out; have := HMI.out; omega
        have HX2 := hid hx2
        clear hd1 hx2
        generalize m / 65536 ^ (i + 1) = n1 at *
        generalize m / 65536 ^ i % 65536 = x1 at *
        have hx4 : ((n1 : Nat) : Int) * 65536 + x1 ≤ 4611686018427387904 := by have := HX2.out; omega
        go_wp2_with fail
        go_round
        case rel => exact ⟨i, by omega, by go_num, by first | (rw [HX2.out]; done) | (exact congrArg (Value.int .i64) HX2.out) | go_num⟩
        case measure => (try simp [intOf]); (try omega)

set_option maxRecDepth 100000 in
theorem whole_any (z : Int) (w : World) (hz : -9223372036854775808 ≤ z ∧ z ≤ 9223372036854775807) :
    Calls Try.prog 25 #[.int .i64 z] w fun r w' => (∃ v, r = .returned v ∧ QAt w' v (z : Rat) 4) ∧ Below w.heap.size w w' := by
  have HS := hid (fun w => small_any z w hz)
  have HK := hid (show LenLe z.natAbs 4 from natL4 (by omega))
  clear hz
  go_enter Try.func25, Try.ntmps25
  go_wp2_with fail
  refine (HS.out _).mono ?_
  rintro r w1 ⟨⟨l, rfl, hl⟩, hb⟩
  have F2 := hid (heap_below hb (by first | (simp; done) | (simp; omega)) (by repeat' (first | (refine heap_alloc_at _ _ _ ?_; (first | rfl | (simp; done) | (simp; omega))) | (refine heap_alloc_past _ _ _ _ ?_))) : w1.heap[w.heap.size]? = some (.cells #[.bool false, .slice none 0 0, .slice none 0 0] 35))
  have HB1 := hid ((by refine Below.trans ?_ (hb.mono ?_); (focus ((repeat' (first | (with_reducible exact Below.refl _ _) | (with_reducible assumption) | (with_reducible refine Below.alloc ?_ ?_ _) | (with_reducible refine Below.drew ?_) | (with_reducible refine below_drewN ?_ _) | (with_reducible refine Below.setCell ?_ ?_ _) | (with_reducible refine below_setRow ?_ ?_ _) | go_size)); done)); (focus (first | (simp; done) | (simp; omega)))) : Below w.heap.size w w1)
  have HL := hid hl.at
  obtain ⟨al, cl, rfl, _, _⟩ := own_open hl
  have hsz := HB1.out.size
  generalize hdd : decide (z < 0) = sz at *
  have HDD := hid hdd
  generalize (natL z.natAbs).length = n at *
  clear hb hl hdd
  go_wp2_with (refine wpList_store_at rfl 35 (.tmp 2) (.tmp 6) rfl rfl rfl ((heap_alloc_past _ _ _ _ F2.out)) size35 rfl rfl rfl ?_)
  refine bodyPost_ret (results_at1 rfl rfl (setRow_heap _ _ _ _ _ _ ((heap_alloc_past _ _ _ _ F2.out))) Try.underlying35 rfl size35 rfl) rfl ?_
  refine ⟨⟨_, rfl, _, _, by rw [Rat.num_intCast, HDD.out], ?_, ?_, by rw [Rat.num_intCast]; exact HK.out, by rw [Rat.den_intCast]; exact (show LenLe 1 4 by unfold LenLe; rw [natL_single (by decide) (by decide)]; decide)⟩, ?_⟩
  · rw [Rat.num_intCast]
    exact (HL.out.grow ((Below.refl _ _).alloc (Nat.le_refl _) _)).row (heap_alloc_past _ _ _ _ F2.out) (by decide)
  · rw [Rat.den_intCast]
    exact (nat_limb (x := 1) rfl (by decide) (by decide) (by repeat' (first | (refine heap_alloc_at _ _ _ ?_; (first | rfl | (simp; done) | (simp; omega))) | (refine heap_alloc_past _ _ _ _ ?_)))).row (heap_alloc_past _ _ _ _ F2.out) (by decide)
  · exact below_setRow (HB1.out.alloc hsz _) (Nat.le_refl _) _
end Go.Proofs.Yteoikaedpgianaa
namespace Go.Proofs.Yteoikaedpgianaa
open Go.RowKit Limb

theorem IntAt.stb (z : Int) (k : Nat) : Stb (fun W v => IntAt W v z k) := fun _ _ _ hB h => h.grow hB
theorem QAt.stb (q : Rat) (k : Nat) : Stb (fun W v => QAt W v q k) := fun _ _ _ hB h => h.grow hB
theorem NatAt.stb (m : Nat) : Stb (fun W v => NatAt W v m) := fun _ _ _ hB h => h.grow hB
/-- what a region with one store at its end leaves: the result in its block -/
def QFin (w : World) (g : Nat) (q : Rat) (k : Nat) (W : World) : Prop := ∃ cs, W.heap[g]? = some (.cells cs 35) ∧ QAt W (.agg cs) q k ∧ Below w.heap.size w W
theorem QAt.cells {W : World} {v : Value} {q : Rat} {k : Nat} (h : QAt W v q k) : ∃ cs, v = .agg cs ∧ cs.size = 3 ∧ cs.toList.all (·.oneCell') = true := by
  obtain ⟨_, _, h1, h2, h3, _⟩ := h
  obtain ⟨_, _, rfl, _, _⟩ := h2.open
  obtain ⟨_, _, rfl, _, _⟩ := h3.open
  exact ⟨_, h1, rfl, rfl⟩
theorem QAt.row {W : World} {g k : Nat} {v : Value} {q : Rat} {t : TypeId} {fr : Nat × Nat} {old cs : Array Value} (h : QAt W v q k) (hg : W.heap[g]? = some (.cells old t fr)) (ht : t ≠ 3) : QAt (W.setRow g cs) v q k := by
  obtain ⟨l, l', h1, h2, h3, h4⟩ := h
  exact ⟨l, l', h1, h2.row hg ht, h3.row hg ht, h4⟩

set_option maxRecDepth 100000 in
set_option maxHeartbeats 800000 in
theorem qminus_any (q : Rat) (k : Nat) (va : Value) (w : World) (ha : QAt w va q k) :
    Calls Try.prog 134 #[va] w fun r w' => (∃ v, r = .returned v ∧ QAt w' v (-q) k) ∧ Below w.heap.size w w' := by
  obtain ⟨ln, ld, rfl, hn, hd, hkn, hkd⟩ := ha
  obtain ⟨a, ca, rfl, _, _⟩ := hn.open
  obtain ⟨b, cb, rfl, _, _⟩ := hd.open
  have HN := hid hn
  have HD := hid hd
  have HKN := hid hkn
  have HKD := hid hkd
  obtain ⟨z, hz⟩ : ∃ z, z = -q.num := ⟨_, rfl⟩
  have HZ := hid hz
  have HI := hid (fun W h => iminus_any q.num k (.agg #[.bool (decide (q.num < 0)), .slice a (natL q.num.natAbs).length ca]) W h)
  rw [← hz] at HI
  clear hz
  have HIA := hid (show ∀ W, Below w.heap.size w W → IntAt W (.agg #[.bool (decide (q.num < 0)), .slice a (natL q.num.natAbs).length ca]) q.num k from fun W hW => ⟨_, rfl, hn.grow hW, hkn⟩)
  generalize decide (q.num < 0) = s at *
  generalize (natL q.num.natAbs).length = p at *
  generalize (natL q.den).length = r at *
  clear hn hd hkn hkd
  go_enter Try.func134, Try.ntmps134
  go_wp2_with fail
  refine gen_world (fun W0 hW0 => ?_)
  have HB0 := hid (show Below w.heap.size w W0 by rw [hW0]; (repeat' (first | (with_reducible exact Below.refl _ _) | (with_reducible assumption) | (with_reducible refine Below.alloc ?_ ?_ _) | (with_reducible refine Below.drew ?_) | (with_reducible refine below_drewN ?_ _) | (with_reducible refine Below.setCell ?_ ?_ _) | (with_reducible refine below_setRow ?_ ?_ _) | go_size)))
  have F0 := hid (show W0.heap[w.heap.size]? = some (.cells #[.bool s, .slice a p ca, .slice b r cb] 35) by rw [hW0]; exact (by repeat' (first | (refine heap_alloc_at _ _ _ ?_; (first | rfl | (simp; done) | (simp; omega))) | (refine heap_alloc_past _ _ _ _ ?_))))
  have F1 := hid (show W0.heap[w.heap.size + 1]? = some (.cells #[.bool false, .slice none 0 0, .slice none 0 0] 35) by rw [hW0]; exact (by repeat' (first | (refine heap_alloc_at _ _ _ ?_; (first | rfl | (simp; done) | (simp; omega))) | (refine heap_alloc_past _ _ _ _ ?_))))
  clear hW0
  refine gen_act (fun A0 hA => ?_)
  refine wp_region_two (by kernel_rfl) (by kernel_rfl) [some 3, some 4, some 5, some 6, some 7, some 8, none] rfl (by decide) 6 (by decide) (by kernel_rfl) (by kernel_rfl)
    [IsV (.pointer (some ⟨w.heap.size, 0, none⟩)), IsV (.agg #[.bool s, .slice a p ca]), fun W v => IntAt W v z k, IsV (.pointer (some ⟨w.heap.size, 2, none⟩)), IsV (.slice b r cb), fun W v => QAt W v (-q) k]
    ⟨IsV.stb _, IsV.stb _, IntAt.stb _ _, IsV.stb _, IsV.stb _, QAt.stb _ _, trivial⟩
    (fun L us W => (L 6 = false → Below W0.heap.size W0 W ∧ QAt W (us 5) (-q) k) ∧ (L 6 = true → QFin w (w.heap.size + 1) (-q) k W)) ?h12 ?hs1 ?hs2 ?hend (by decide)
  case h12 =>
    intro L us W h1 h2 hB hp
    exact ⟨fun _ => ⟨hB, hp 5 (by decide)⟩, fun h => by rw [h2 6 (by decide) (by decide)] at h; cases h⟩
  case hs1 =>
    refine ⟨?_, ?_, ?_, ?_, ?_, ?_, trivial⟩
    · intro K us W hK0 hB hd
      have hK := hid hK0; clear hK0
      have HBW := hid hB
      have hsW := hB.size
      (try simp [Region.binds] at hd)
      simp only [putF]
      rw [hA]
      go_frame
      go_wp2_with fail
      exact hK.out _ _ _ (by rw [hA]; kernel_rfl) (Below.refl _ _) rfl
    · intro K us W hK0 hB hd
      have hK := hid hK0; clear hK0
      have HBW := hid hB
      have hsW := hB.size
      (try simp [Region.binds] at hd)
      have e0 : us 0 = _ := hd
      have G0 := hid (heap_still hB F0.out)
      have c0 : W.cell? ⟨w.heap.size, 0, none⟩ = some (.bool s) := (cell_row (j := 0) G0.out).trans rfl
      have c1 : W.cell? ⟨w.heap.size, 1, none⟩ = some (.slice a p ca) := (cell_row (j := 1) G0.out).trans rfl
      simp only [putF]
      rw [hA]
      rw [e0]
      go_frame
      go_wp2_with fail
      exact hK.out _ _ _ (by rw [hA]; simp only [putF]; rw [e0]; kernel_rfl) (Below.refl _ _) rfl
    · intro K us W hK0 hB hd
      have hK := hid hK0; clear hK0
      have HBW := hid hB
      have hsW := hB.size
      (try simp [Region.binds] at hd)
      have e0 : us 1 = _ := hd
      simp only [putF]
      rw [hA]
      rw [e0]
      go_frame
      go_wp2_with fail
      refine (HI.out W (HIA.out W (HB0.out.trans (hB.mono HB0.out.size)))).mono ?_
      rintro r W' ⟨⟨v, rfl, hv⟩, hb⟩
      go_wp2_with fail
      exact hK.out _ _ _ (by rw [hA]; simp only [putF]; rw [e0]; kernel_rfl) hb hv
    · intro K us W hK0 hB hd
      have hK := hid hK0; clear hK0
      have HBW := hid hB
      have hsW := hB.size
      (try simp [Region.binds] at hd)
      simp only [putF]
      rw [hA]
      go_frame
      go_wp2_with fail
      exact hK.out _ _ _ (by rw [hA]; kernel_rfl) (Below.refl _ _) rfl
    · intro K us W hK0 hB hd
      have hK := hid hK0; clear hK0
      have HBW := hid hB
      have hsW := hB.size
      (try simp [Region.binds] at hd)
      have e0 : us 3 = _ := hd
      have G0 := hid (heap_still hB F0.out)
      have c0 : W.cell? ⟨w.heap.size, 2, none⟩ = some (.slice b r cb) := (cell_row (j := 2) G0.out).trans rfl
      simp only [putF]
      rw [hA]
      rw [e0]
      go_frame
      go_wp2_with fail
      exact hK.out _ _ _ (by rw [hA]; simp only [putF]; rw [e0]; kernel_rfl) (Below.refl _ _) rfl
    · intro K us W hK0 hB hd
      have hK := hid hK0; clear hK0
      have HBW := hid hB
      have hsW := hB.size
      (try simp [Region.binds] at hd)
      obtain ⟨l, e0, hl, hk⟩ := hd.1
      have e1 : us 4 = _ := hd.2
      have HL := hid hl
      obtain ⟨al, cl, rfl, _, _⟩ := hl.open
      clear hl
      simp only [putF]
      rw [hA]
      rw [e0, e1]
      go_frame
      go_wp2_with fail
      exact hK.out _ _ _ (by rw [hA]; simp only [putF]; rw [e0, e1]; kernel_rfl) (Below.refl _ _) ⟨_, _, by rw [Rat.neg_num, ← HZ.out], by rw [Rat.neg_num, ← HZ.out]; exact HL.out, (HD.out.grow (HB0.out.trans (HBW.out.mono HB0.out.size))), by rw [Rat.neg_num, ← HZ.out]; exact hk, HKD.out⟩
  case hs2 =>
    refine ⟨?_, trivial⟩
    intro K L us W hK0 hL hd hR
    have hK := hid hK0; clear hK0
    obtain ⟨hB, hq⟩ := hR.1 hL
    have HQ := hid hq
    obtain ⟨cs, e0, hcs, hco⟩ := hq.cells
    have G1 := hid (heap_still hB F1.out)
    have HBW := hid hB
    have hsW := hB.size
    have hs0 := HB0.out.size
    rw [e0] at HQ
    simp only [putF]
    rw [hA, e0]
    go_frame
    go_wp2_with (refine wpList_store_at rfl 35 (.tmp 2) (.tmp 8) rfl rfl rfl (G1.out) size35 hcs rfl hco ?_)
    refine hK.out undef _ _ (by rw [hA]; simp only [putF]; rw [e0]; kernel_rfl) ⟨fun h => by simp at h, fun _ => ⟨cs, setRow_heap _ _ _ _ _ _ G1.out, HQ.out.row G1.out (by decide), below_setRow (HB0.out.trans (HBW.out.mono hs0)) (by omega) _⟩⟩
  case hend =>
    intro L us W hL hR
    obtain ⟨cs, hh, hq, hb⟩ := hR.2 (hL 6 (by decide))
    obtain ⟨cs', e0, hcs, hco⟩ := hq.cells
    cases e0
    have HQ := hid hq
    have HBW := hid hb
    have HH := hid hh
    clear hq hb hh
    simp only [putF]
    rw [hA]
    go_frame
    go_wp2_with fail
    refine bodyPost_ret (results_at1 rfl rfl HH.out Try.underlying35 rfl size35 hcs) rfl ?_
    exact ⟨⟨_, rfl, HQ.out⟩, HBW.out⟩
end Go.Proofs.Yteoikaedpgianaa
namespace Go.Proofs.Yteoikaedpgianaa
open Go.RowKit Limb

theorem IntAt.row {W : World} {g k : Nat} {v : Value} {z : Int} {t : TypeId} {fr : Nat × Nat} {old cs : Array Value} (h : IntAt W v z k) (hg : W.heap[g]? = some (.cells old t fr)) (ht : t ≠ 3) : IntAt (W.setRow g cs) v z k := by
  obtain ⟨l, h1, h2, h3⟩ := h
  exact ⟨l, h1, h2.row hg ht, h3⟩
theorem IntAt.cells {W : World} {v : Value} {z : Int} {k : Nat} (h : IntAt W v z k) : ∃ cs, v = .agg cs ∧ cs.size = 2 ∧ cs.toList.all (·.oneCell') = true := by
  obtain ⟨_, h1, h2, _⟩ := h
  obtain ⟨_, _, rfl, _, _⟩ := h2.open
  exact ⟨_, h1, rfl, rfl⟩
set_option maxRecDepth 100000 in
set_option maxHeartbeats 800000 in
theorem qfloor_any (q : Rat) (k : Nat) (va : Value) (w : World) (ha : QAt w va q k) (hk : k ≤ 40000) :
    Calls Try.prog 55 #[va] w fun r w' => (∃ v, r = .returned v ∧ IntAt w' v q.floor (k + 2)) ∧ Below w.heap.size w w' := by
  obtain ⟨ln, ld, rfl, hn, hd, hkn, hkd⟩ := ha
  obtain ⟨a, ca, rfl, _, _⟩ := hn.open
  obtain ⟨b, cb, rfl, _, _⟩ := hd.open
  have HFL := hid (Rat.floor_def q)
  have HDN := hid (fun W v v' h h' => down_any q.num q.den k v v' W h h' hk (Nat.pos_of_ne_zero q.den_nz))
  have HIA := hid (show ∀ W, Below w.heap.size w W → IntAt W (.agg #[.bool (decide (q.num < 0)), .slice a (natL q.num.natAbs).length ca]) q.num k from fun W hW => ⟨_, rfl, hn.grow hW, hkn⟩)
  have HID := hid (show ∀ W, Below w.heap.size w W → IntAt W (.agg #[.bool false, .slice b (natL q.den).length cb]) (q.den : Int) k from fun W hW => ⟨_, by rw [nat_sign], by rw [Int.natAbs_natCast]; exact hd.grow hW, by rw [Int.natAbs_natCast]; exact hkd⟩)
  generalize decide (q.num < 0) = s at *
  generalize (natL q.num.natAbs).length = p at *
  generalize (natL q.den).length = r at *
  clear hn hd hkn hkd hk
  go_enter Try.func55, Try.ntmps55
  go_wp2_with fail
  refine (HDN.out _ _ _ (HIA.out _ (by (repeat' (first | (with_reducible exact Below.refl _ _) | (with_reducible assumption) | (with_reducible refine Below.alloc ?_ ?_ _) | (with_reducible refine Below.drew ?_) | (with_reducible refine below_drewN ?_ _) | (with_reducible refine Below.setCell ?_ ?_ _) | (with_reducible refine below_setRow ?_ ?_ _) | go_size)))) (HID.out _ (by (repeat' (first | (with_reducible exact Below.refl _ _) | (with_reducible assumption) | (with_reducible refine Below.alloc ?_ ?_ _) | (with_reducible refine Below.drew ?_) | (with_reducible refine below_drewN ?_ _) | (with_reducible refine Below.setCell ?_ ?_ _) | (with_reducible refine below_setRow ?_ ?_ _) | go_size))))).mono ?_
  rintro r w1 ⟨⟨v, rfl, hv⟩, hb⟩
  have F2 := hid (heap_below hb (by first | (simp; done) | (simp; omega)) (by repeat' (first | (refine heap_alloc_at _ _ _ ?_; (first | rfl | (simp; done) | (simp; omega))) | (refine heap_alloc_past _ _ _ _ ?_))) : w1.heap[w.heap.size + 1]? = some (.cells #[.bool false, .slice none 0 0] 33))
  have HB1 := hid ((by refine Below.trans ?_ (hb.mono ?_); (focus ((repeat' (first | (with_reducible exact Below.refl _ _) | (with_reducible assumption) | (with_reducible refine Below.alloc ?_ ?_ _) | (with_reducible refine Below.drew ?_) | (with_reducible refine below_drewN ?_ _) | (with_reducible refine Below.setCell ?_ ?_ _) | (with_reducible refine below_setRow ?_ ?_ _) | go_size)); done)); (focus (first | (simp; done) | (simp; omega)))) : Below w.heap.size w w1)
  have HV := hid hv
  obtain ⟨cs, rfl, hcs, hco⟩ := hv.cells
  clear hb hv
  go_wp2_with (refine wpList_store_at rfl 33 (.tmp 2) (.tmp 8) rfl rfl rfl (F2.out) size33 hcs rfl hco ?_)
  refine bodyPost_ret (results_at1 rfl rfl (setRow_heap _ _ _ _ _ _ (F2.out)) Try.underlying33 rfl size33 hcs) rfl ?_
  refine ⟨⟨_, rfl, ?_⟩, below_setRow HB1.out (by omega) _⟩
  rw [HFL.out]
  exact HV.out.row F2.out (by decide)
set_option maxRecDepth 100000 in
set_option maxHeartbeats 800000 in
theorem qceil_any (q : Rat) (k : Nat) (va : Value) (w : World) (ha : QAt w va q k) (hk : k ≤ 40000) :
    Calls Try.prog 144 #[va] w fun r w' => (∃ v, r = .returned v ∧ IntAt w' v q.ceil (k + 2)) ∧ Below w.heap.size w w' := by
  obtain ⟨cq, rfl, hcq, hcqo⟩ := ha.cells
  have HA := hid ha
  have HCL := hid (Rat.ceil_eq_neg_floor_neg q)
  have HK := hid hk
  clear ha hk
  match cq, hcq with
  | ⟨[x0, x1, x2]⟩, _ =>
  go_enter Try.func144, Try.ntmps144
  go_wp2_with (refine wpList_load_at rfl 35 (.tmp 1) rfl rfl (heap_alloc_past _ _ _ _ (heap_alloc_at _ _ _ rfl)) Try.underlying35 rfl size35 rfl ?_)
  refine (qminus_any q k _ _ (HA.out.grow (by (repeat' (first | (with_reducible exact Below.refl _ _) | (with_reducible assumption) | (with_reducible refine Below.alloc ?_ ?_ _) | (with_reducible refine Below.drew ?_) | (with_reducible refine below_drewN ?_ _) | (with_reducible refine Below.setCell ?_ ?_ _) | (with_reducible refine below_setRow ?_ ?_ _) | go_size))))).mono ?_
  rintro r w1 ⟨⟨v1, rfl, hv1⟩, hb1⟩
  have F1 := hid (heap_below hb1 (by first | (simp; done) | (simp; omega)) (by repeat' (first | (refine heap_alloc_at _ _ _ ?_; (first | rfl | (simp; done) | (simp; omega))) | (refine heap_alloc_past _ _ _ _ ?_))) : w1.heap[w.heap.size + 1]? = some (.cells #[.bool false, .slice none 0 0] 33))
  have HB1 := hid ((by refine Below.trans ?_ (hb1.mono ?_); (focus ((repeat' (first | (with_reducible exact Below.refl _ _) | (with_reducible assumption) | (with_reducible refine Below.alloc ?_ ?_ _) | (with_reducible refine Below.drew ?_) | (with_reducible refine below_drewN ?_ _) | (with_reducible refine Below.setCell ?_ ?_ _) | (with_reducible refine below_setRow ?_ ?_ _) | go_size)); done)); (focus (first | (simp; done) | (simp; omega)))) : Below w.heap.size w w1)
  have HV1 := hid hv1
  clear hb1 hv1
  go_wp2_with fail
  refine (qfloor_any (-q) k _ _ HV1.out HK.out).mono ?_
  rintro r w2 ⟨⟨v2, rfl, hv2⟩, hb2⟩
  have F2 := hid (heap_still hb2 F1.out)
  have HB2 := hid (HB1.out.trans (hb2.mono HB1.out.size))
  have HV2 := hid hv2
  clear hb2 hv2
  go_wp2_with fail
  refine (iminus_any (-q).floor (k + 2) _ _ HV2.out).mono ?_
  rintro r w3 ⟨⟨v3, rfl, hv3⟩, hb3⟩
  have F3 := hid (heap_still hb3 F2.out)
  have HB3 := hid (HB2.out.trans (hb3.mono HB2.out.size))
  have HV3 := hid hv3
  obtain ⟨cs, rfl, hcs, hco⟩ := hv3.cells
  clear hb3 hv3
  go_wp2_with (refine wpList_store_at rfl 33 (.tmp 2) (.tmp 6) rfl rfl rfl (F3.out) size33 hcs rfl hco ?_)
  refine bodyPost_ret (results_at1 rfl rfl (setRow_heap _ _ _ _ _ _ (F3.out)) Try.underlying33 rfl size33 hcs) rfl ?_
  refine ⟨⟨_, rfl, ?_⟩, below_setRow HB3.out (by omega) _⟩
  rw [HCL.out]
  exact HV3.out.row F3.out (by decide)
end Go.Proofs.Yteoikaedpgianaa
namespace Go.Proofs.Yteoikaedpgianaa
open Go.RowKit Limb

set_option maxRecDepth 100000 in
set_option maxHeartbeats 1600000 in
theorem qmul_any (x y : Rat) (k : Nat) (va vb : Value) (w : World) (ha : QAt w va x k) (hb : QAt w vb y k) (hk : k ≤ 10000) :
    Calls Try.prog 28 #[va, vb] w fun r w' => (∃ v, r = .returned v ∧ QAt w' v (x * y) (k + k)) ∧ Below w.heap.size w w' := by
  obtain ⟨n1, d1, rfl, hn1, hd1, hkn1, hkd1⟩ := ha
  obtain ⟨n2, d2, rfl, hn2, hd2, hkn2, hkd2⟩ := hb
  obtain ⟨a1, ca1, rfl, _, _⟩ := hn1.open
  obtain ⟨b1, cb1, rfl, _, _⟩ := hd1.open
  obtain ⟨a2, ca2, rfl, _, _⟩ := hn2.open
  obtain ⟨b2, cb2, rfl, _, _⟩ := hd2.open
  have HQ := hid (Rat.mul_def' x y)
  obtain ⟨z, hz⟩ : ∃ z, z = x.num * y.num := ⟨_, rfl⟩
  obtain ⟨dd, hdd⟩ : ∃ dd, dd = x.den * y.den := ⟨_, rfl⟩
  rw [← hz, ← hdd] at HQ
  obtain ⟨q, hq⟩ : ∃ q, q = mkRat z dd := ⟨_, rfl⟩
  rw [← hq] at HQ
  have HIM := hid (fun W h h' => imul_any x.num y.num k k (.agg #[.bool (decide (x.num < 0)), .slice a1 (natL x.num.natAbs).length ca1]) (.agg #[.bool (decide (y.num < 0)), .slice a2 (natL y.num.natAbs).length ca2]) W h h' (by omega) (by omega))
  have HDM := hid (fun W h h' => mul_any x.den y.den (.slice b1 (natL x.den).length cb1) (.slice b2 (natL y.den).length cb2) W h h' (hkd1.wide (by omega)).le (hkd2.wide (by omega)).le)
  have HKD := hid (show LenLe dd (k + k) by rw [hdd]; exact natL_mul hkd1 hkd2)
  have HFR := hid (fun W v v' h h' => frac_any z dd (k + k) v v' W h h' (by omega) (by rw [hdd]; exact Nat.mul_pos (Nat.pos_of_ne_zero x.den_nz) (Nat.pos_of_ne_zero y.den_nz)))
  rw [← hq] at HFR
  rw [← hz] at HIM
  rw [← hdd] at HDM
  have HI1 := hid (show ∀ W, Below w.heap.size w W → IntAt W (.agg #[.bool (decide (x.num < 0)), .slice a1 (natL x.num.natAbs).length ca1]) x.num k from fun W hW => ⟨_, rfl, hn1.grow hW, hkn1⟩)
  have HI2 := hid (show ∀ W, Below w.heap.size w W → IntAt W (.agg #[.bool (decide (y.num < 0)), .slice a2 (natL y.num.natAbs).length ca2]) y.num k from fun W hW => ⟨_, rfl, hn2.grow hW, hkn2⟩)
  have HD1 := hid hd1
  have HD2 := hid hd2
  rw [HQ.out]
  generalize decide (x.num < 0) = s1 at *
  generalize decide (y.num < 0) = s2 at *
  generalize (natL x.num.natAbs).length = p1 at *
  generalize (natL y.num.natAbs).length = p2 at *
  generalize (natL x.den).length = r1 at *
  generalize (natL y.den).length = r2 at *
  clear hn1 hd1 hkn1 hkd1 hn2 hd2 hkn2 hkd2 hz hdd hq hk
  go_enter Try.func28, Try.ntmps28
  go_wp2_with fail
  refine gen_world (fun W0 hW0 => ?_)
  have HB0 := hid (show Below w.heap.size w W0 by rw [hW0]; (repeat' (first | (with_reducible exact Below.refl _ _) | (with_reducible assumption) | (with_reducible refine Below.alloc ?_ ?_ _) | (with_reducible refine Below.drew ?_) | (with_reducible refine below_drewN ?_ _) | (with_reducible refine Below.setCell ?_ ?_ _) | (with_reducible refine below_setRow ?_ ?_ _) | go_size)))
  have F0 := hid (show W0.heap[w.heap.size]? = some (.cells #[.bool s1, .slice a1 p1 ca1, .slice b1 r1 cb1] 35) by rw [hW0]; exact (by repeat' (first | (refine heap_alloc_at _ _ _ ?_; (first | rfl | (simp; done) | (simp; omega))) | (refine heap_alloc_past _ _ _ _ ?_))))
  have F1 := hid (show W0.heap[w.heap.size + 1]? = some (.cells #[.bool s2, .slice a2 p2 ca2, .slice b2 r2 cb2] 35) by rw [hW0]; exact (by repeat' (first | (refine heap_alloc_at _ _ _ ?_; (first | rfl | (simp; done) | (simp; omega))) | (refine heap_alloc_past _ _ _ _ ?_))))
  have F2 := hid (show W0.heap[w.heap.size + 1 + 1]? = some (.cells #[.bool false, .slice none 0 0, .slice none 0 0] 35) by rw [hW0]; exact (by repeat' (first | (refine heap_alloc_at _ _ _ ?_; (first | rfl | (simp; done) | (simp; omega))) | (refine heap_alloc_past _ _ _ _ ?_))))
  clear hW0
  refine gen_act (fun A0 hA => ?_)
  refine wp_region_two (by kernel_rfl) (by kernel_rfl) [some 5, some 6, some 7, some 8, some 9, some 10, some 11, some 12, some 13, some 14, some 15, some 16, none] rfl (by decide) 12 (by decide) (by kernel_rfl) (by kernel_rfl)
    [IsV (.pointer (some ⟨w.heap.size, 0, none⟩)), IsV (.agg #[.bool s1, .slice a1 p1 ca1]), IsV (.pointer (some ⟨w.heap.size + 1, 0, none⟩)), IsV (.agg #[.bool s2, .slice a2 p2 ca2]), fun W v => IntAt W v z (k + k),
      IsV (.pointer (some ⟨w.heap.size, 2, none⟩)), IsV (.slice b1 r1 cb1), IsV (.pointer (some ⟨w.heap.size + 1, 2, none⟩)), IsV (.slice b2 r2 cb2), fun W v => NatAt W v dd, fun W v => IntAt W v (dd : Int) (k + k), fun W v => QAt W v q (k + k)]
    ⟨IsV.stb _, IsV.stb _, IsV.stb _, IsV.stb _, IntAt.stb _ _, IsV.stb _, IsV.stb _, IsV.stb _, IsV.stb _, NatAt.stb _, IntAt.stb _ _, QAt.stb _ _, trivial⟩
    (fun L us W => (L 12 = false → Below W0.heap.size W0 W ∧ QAt W (us 11) q (k + k)) ∧ (L 12 = true → QFin w (w.heap.size + 1 + 1) q (k + k) W)) ?h12 ?hs1 ?hs2 ?hend (by decide)
  case h12 =>
    intro L us W h1 h2 hB hp
    exact ⟨fun _ => ⟨hB, hp 11 (by decide)⟩, fun h => by rw [h2 12 (by decide) (by decide)] at h; cases h⟩
  case hs1 =>
    refine ⟨?_, ?_, ?_, ?_, ?_, ?_, ?_, ?_, ?_, ?_, ?_, ?_, trivial⟩
    · intro K us W hK0 hB hd
      have hK := hid hK0; clear hK0
      have HBW := hid hB
      have hsW := hB.size
      (try simp [Region.binds] at hd)
      simp only [putF]
      rw [hA]
      go_frame
      go_wp2_with fail
      exact hK.out _ _ _ (by rw [hA]; kernel_rfl) (Below.refl _ _) rfl
    · intro K us W hK0 hB hd
      have hK := hid hK0; clear hK0
      have HBW := hid hB
      have hsW := hB.size
      (try simp [Region.binds] at hd)
      have e0 : us 0 = _ := hd
      have G0 := hid (heap_still hB F0.out)
      have c0 : W.cell? ⟨w.heap.size, 0, none⟩ = some (.bool s1) := (cell_row (j := 0) G0.out).trans rfl
      have c1 : W.cell? ⟨w.heap.size, 1, none⟩ = some (.slice a1 p1 ca1) := (cell_row (j := 1) G0.out).trans rfl
      simp only [putF]
      rw [hA, e0]
      go_frame
      go_wp2_with fail
      exact hK.out _ _ _ (by rw [hA]; simp only [putF]; rw [e0]; kernel_rfl) (Below.refl _ _) rfl
    · intro K us W hK0 hB hd
      have hK := hid hK0; clear hK0
      have HBW := hid hB
      have hsW := hB.size
      (try simp [Region.binds] at hd)
      simp only [putF]
      rw [hA]
      go_frame
      go_wp2_with fail
      exact hK.out _ _ _ (by rw [hA]; kernel_rfl) (Below.refl _ _) rfl
    · intro K us W hK0 hB hd
      have hK := hid hK0; clear hK0
      have HBW := hid hB
      have hsW := hB.size
      (try simp [Region.binds] at hd)
      have e0 : us 2 = _ := hd
      have G0 := hid (heap_still hB F1.out)
      have c0 : W.cell? ⟨w.heap.size + 1, 0, none⟩ = some (.bool s2) := (cell_row (j := 0) G0.out).trans rfl
      have c1 : W.cell? ⟨w.heap.size + 1, 1, none⟩ = some (.slice a2 p2 ca2) := (cell_row (j := 1) G0.out).trans rfl
      simp only [putF]
      rw [hA, e0]
      go_frame
      go_wp2_with fail
      exact hK.out _ _ _ (by rw [hA]; simp only [putF]; rw [e0]; kernel_rfl) (Below.refl _ _) rfl
    · intro K us W hK0 hB hd
      have hK := hid hK0; clear hK0
      have HBW := hid hB
      have hsW := hB.size
      (try simp [Region.binds] at hd)
      have e0 : us 1 = _ := hd.1
      have e1 : us 3 = _ := hd.2
      simp only [putF]
      rw [hA, e0, e1]
      go_frame
      go_wp2_with fail
      refine (HIM.out W (HI1.out W (HB0.out.trans (hB.mono HB0.out.size))) (HI2.out W (HB0.out.trans (hB.mono HB0.out.size)))).mono ?_
      rintro r W' ⟨⟨v, rfl, hv⟩, hb⟩
      go_wp2_with fail
      exact hK.out _ _ _ (by rw [hA]; simp only [putF]; rw [e0, e1]; kernel_rfl) hb hv
    · intro K us W hK0 hB hd
      have hK := hid hK0; clear hK0
      have HBW := hid hB
      have hsW := hB.size
      (try simp [Region.binds] at hd)
      simp only [putF]
      rw [hA]
      go_frame
      go_wp2_with fail
      exact hK.out _ _ _ (by rw [hA]; kernel_rfl) (Below.refl _ _) rfl
    · intro K us W hK0 hB hd
      have hK := hid hK0; clear hK0
      have HBW := hid hB
      have hsW := hB.size
      (try simp [Region.binds] at hd)
      have e0 : us 5 = _ := hd
      have G0 := hid (heap_still hB F0.out)
      have c0 : W.cell? ⟨w.heap.size, 2, none⟩ = some (.slice b1 r1 cb1) := (cell_row (j := 2) G0.out).trans rfl
      simp only [putF]
      rw [hA, e0]
      go_frame
      go_wp2_with fail
      exact hK.out _ _ _ (by rw [hA]; simp only [putF]; rw [e0]; kernel_rfl) (Below.refl _ _) rfl
    · intro K us W hK0 hB hd
      have hK := hid hK0; clear hK0
      have HBW := hid hB
      have hsW := hB.size
      (try simp [Region.binds] at hd)
      simp only [putF]
      rw [hA]
      go_frame
      go_wp2_with fail
      exact hK.out _ _ _ (by rw [hA]; kernel_rfl) (Below.refl _ _) rfl
    · intro K us W hK0 hB hd
      have hK := hid hK0; clear hK0
      have HBW := hid hB
      have hsW := hB.size
      (try simp [Region.binds] at hd)
      have e0 : us 7 = _ := hd
      have G0 := hid (heap_still hB F1.out)
      have c0 : W.cell? ⟨w.heap.size + 1, 2, none⟩ = some (.slice b2 r2 cb2) := (cell_row (j := 2) G0.out).trans rfl
      simp only [putF]
      rw [hA, e0]
      go_frame
      go_wp2_with fail
      exact hK.out _ _ _ (by rw [hA]; simp only [putF]; rw [e0]; kernel_rfl) (Below.refl _ _) rfl
    · intro K us W hK0 hB hd
      have hK := hid hK0; clear hK0
      have HBW := hid hB
      have hsW := hB.size
      (try simp [Region.binds] at hd)
      have e0 : us 6 = _ := hd.1
      have e1 : us 8 = _ := hd.2.1
      simp only [putF]
      rw [hA, e0, e1]
      go_frame
      go_wp2_with fail
      refine (HDM.out W (HD1.out.grow (HB0.out.trans (hB.mono HB0.out.size))) (HD2.out.grow (HB0.out.trans (hB.mono HB0.out.size)))).mono ?_
      rintro r W' ⟨⟨v, rfl, hv⟩, hb⟩
      go_wp2_with fail
      exact hK.out _ _ _ (by rw [hA]; simp only [putF]; rw [e0, e1]; kernel_rfl) hb hv.at
    · intro K us W hK0 hB hd
      have hK := hid hK0; clear hK0
      have HBW := hid hB
      have hsW := hB.size
      (try simp [Region.binds] at hd)
      have hd0 : NatAt W (us 9) dd := hd
      obtain ⟨a9, c9, e0, _, _⟩ := hd0.open
      rw [e0] at hd0
      have HN9 := hid hd0
      generalize hlen9 : (natL dd).length = l9 at *
      clear hlen9 hd hd0
      simp only [putF]
      rw [hA, e0]
      go_frame
      go_wp2_with fail
      exact hK.out _ _ _ (by rw [hA]; simp only [putF]; rw [e0]; kernel_rfl) (Below.refl _ _) ⟨_, by rw [nat_sign], by rw [Int.natAbs_natCast]; exact HN9.out, by rw [Int.natAbs_natCast]; exact HKD.out⟩
    · intro K us W hK0 hB hd
      have hK := hid hK0; clear hK0
      have HBW := hid hB
      have hsW := hB.size
      (try simp [Region.binds] at hd)
      have hd1 : IntAt W (us 4) z (k + k) := hd.1
      have hd2 : IntAt W (us 10) (dd : Int) (k + k) := hd.2.1
      obtain ⟨cs1, e0, _, _⟩ := hd1.cells
      obtain ⟨cs2, e1, _, _⟩ := hd2.cells
      rw [e0] at hd1
      rw [e1] at hd2
      have HH1 := hid hd1
      have HH2 := hid hd2
      clear hd hd1 hd2
      simp only [putF]
      rw [hA, e0, e1]
      go_frame
      go_wp2_with fail
      refine (HFR.out W _ _ HH1.out HH2.out).mono ?_
      rintro r W' ⟨⟨v, rfl, hv⟩, hb⟩
      go_wp2_with fail
      exact hK.out _ _ _ (by rw [hA]; simp only [putF]; rw [e0, e1]; kernel_rfl) hb hv
  case hs2 =>
    refine ⟨?_, trivial⟩
    intro K L us W hK0 hL hd hR
    have hK := hid hK0; clear hK0
    obtain ⟨hB, hq⟩ := hR.1 hL
    have HQ := hid hq
    obtain ⟨cs, e0, hcs, hco⟩ := hq.cells
    have G1 := hid (heap_still hB F2.out)
    have HBW := hid hB
    have hs0 := HB0.out.size
    rw [e0] at HQ
    simp only [putF]
    rw [hA, e0]
    go_frame
    go_wp2_with (refine wpList_store_at rfl 35 (.tmp 4) (.tmp 16) rfl rfl rfl (G1.out) size35 hcs rfl hco ?_)
    refine hK.out undef _ _ (by rw [hA]; simp only [putF]; rw [e0]; kernel_rfl) ⟨fun h => by simp at h, fun _ => ⟨cs, setRow_heap _ _ _ _ _ _ G1.out, HQ.out.row G1.out (by decide), below_setRow (HB0.out.trans (HBW.out.mono hs0)) (by omega) _⟩⟩
  case hend =>
    intro L us W hL hR
    obtain ⟨cs, hh, hq, hb⟩ := hR.2 (hL 12 (by decide))
    obtain ⟨cs', e0, hcs, hco⟩ := hq.cells
    cases e0
    have HQ := hid hq
    have HBW := hid hb
    have HH := hid hh
    clear hq hb hh
    simp only [putF]
    rw [hA]
    go_frame
    go_wp2_with fail
    refine bodyPost_ret (results_at1 rfl rfl HH.out Try.underlying35 rfl size35 hcs) rfl ?_
    exact ⟨⟨_, rfl, HQ.out⟩, HBW.out⟩
end Go.Proofs.Yteoikaedpgianaa
namespace Go.Proofs.Yteoikaedpgianaa
open Go.RowKit Limb

/-- a quotient by signs and magnitudes -/
def divN (a b : Int) : Int := if b < 0 then -a else a
theorem rat_div (x y : Rat) (hy : y ≠ 0) : x / y = mkRat (divN (x.num * y.den) (y.num * x.den)) (y.num * x.den).natAbs := by
  have hy0 : y.num ≠ 0 := fun h => hy (Rat.num_eq_zero.1 h)
  have hz : y.num * (x.den : Int) ≠ 0 := Int.mul_ne_zero hy0 (by have := x.den_nz; omega)
  have h1 : x / y = Rat.divInt (x.num * y.den) (y.num * x.den) := by
    rw [Rat.div_def, Rat.inv_def]
    conv => lhs; lhs; rw [← Rat.num_divInt_den x]
    rw [Rat.divInt_mul_divInt, Int.mul_comm (x.den : Int) y.num]
  rw [h1]
  generalize x.num * (y.den : Int) = a at *
  generalize y.num * (x.den : Int) = b at *
  unfold divN
  split
  · rename_i h
    rw [← Rat.neg_divInt_neg, ← Rat.divInt_ofNat]
    congr 1
    omega
  · rw [← Rat.divInt_ofNat]
    congr 1
    omega
theorem divN_abs (a b : Int) : (divN a b).natAbs = a.natAbs := by unfold divN; split <;> simp
theorem divN_neg (a b : Int) (_ : b ≠ 0) : decide (divN a b < 0) = ((decide (a < 0) != decide (b < 0)) && decide (a.natAbs ≠ 0)) := by
  unfold divN
  by_cases h1 : a < 0 <;> by_cases h2 : b < 0 <;> by_cases h3 : a = 0 <;> simp [h1, h2, h3] <;> omega
/-- the cells of an aggregate -/
def cellsOf : Value → Array Value
  | .agg cs => cs
  | _ => #[]
def Z33 : Array Value := #[.bool false, .slice none 0 0]
/-- stays when a block of an integer is written -/
def StbR (p : World → Value → Prop) : Prop := ∀ W v g old cs, W.heap[g]? = some (.cells old 33) → p W v → p (W.setRow g cs) v
def StbRL : List (World → Value → Prop) → Prop
  | [] => True
  | p :: l => StbR p ∧ StbRL l
theorem StbRL.at : ∀ {l : List (World → Value → Prop)}, StbRL l → ∀ j W v g old cs, W.heap[g]? = some (.cells old 33) → l.getD j (fun _ _ => True) W v → l.getD j (fun _ _ => True) (W.setRow g cs) v
  | [], _, j, W, v, g, old, cs, _, _ => by simp
  | p :: l, h, 0, W, v, g, old, cs, hg, hp => h.1 W v g old cs hg hp
  | p :: l, h, j + 1, W, v, g, old, cs, hg, hp => StbRL.at h.2 j W v g old cs hg hp
theorem IsV.stbR (x : Value) : StbR (IsV x) := fun _ _ _ _ _ _ h => h
theorem IntAt.stbR (z : Int) (k : Nat) : StbR (fun W v => IntAt W v z k) := fun _ _ _ _ _ hg h => h.row hg (by decide)
/-- what holds while the two integers are made and laid into their blocks -/
structure DivR (W0 : World) (ps : List (World → Value → Prop)) (L : Nat → Bool) (us : Nat → Value) (W : World) : Prop where
  grow : Below W0.heap.size W0 W
  vals : ∀ j, j < 12 → L j = true → ps.getD j (fun _ _ => True) W (us j)
  b12 : L 12 = true → ∃ g, us 12 = .pointer (some ⟨g, 0, none⟩) ∧ W0.heap.size ≤ g ∧ W.heap[g]? = some (.cells (if L 14 = true then cellsOf (us 5) else Z33) 33)
  b13 : L 13 = true → ∃ g, us 13 = .pointer (some ⟨g, 0, none⟩) ∧ W0.heap.size ≤ g ∧ W.heap[g]? = some (.cells (if L 15 = true then cellsOf (us 11) else Z33) 33)
  ne : L 12 = true → L 13 = true → us 12 ≠ us 13
  d14 : L 14 = true → L 12 = true ∧ L 5 = true
  d15 : L 15 = true → L 13 = true ∧ L 11 = true
theorem DivR.pure {W0 W W' : World} {ps : List (World → Value → Prop)} {L : Nat → Bool} {us : Nat → Value} {k : Nat} {v : Value} (hps : StbL ps) (h : DivR W0 ps L us W) (hk : k < 12) (hL : L k = false) (hB : Below W.heap.size W W')
    (hv : ps.getD k (fun _ _ => True) W' v) : DivR W0 ps (fun j => j == k || L j) (updF us k v) W' := by
  have o : ∀ j, 12 ≤ j → ((j == k || L j) = L j) ∧ updF us k v j = us j := fun j hj => by
    have hne : j ≠ k := by omega
    exact ⟨by rw [show (j == k) = false from beq_false_of_ne hne, Bool.false_or], by simp [updF, hne]⟩
  refine ⟨h.grow.trans (hB.mono h.grow.size), ?_, ?_, ?_, ?_, ?_, ?_⟩
  · intro j hj hLj
    by_cases hjk : j = k
    · subst hjk; simpa [updF] using hv
    · simp only [updF, hjk, if_false]
      exact hps.at j W W' _ hB (h.vals j hj (by simpa [hjk] using hLj))
  · intro h12
    rw [(o 12 (by omega)).1] at h12
    obtain ⟨g, e, hg, hh⟩ := h.b12 h12
    refine ⟨g, by rw [(o 12 (by omega)).2]; exact e, hg, ?_⟩
    rw [(o 14 (by omega)).1]
    have := heap_still hB hh
    by_cases h14 : L 14 = true
    · have h5 := (h.d14 h14).2
      have hne : (5 : Nat) ≠ k := by rintro rfl; rw [h5] at hL; cases hL
      rw [show updF us k v 5 = us 5 by simp [updF, hne]]
      exact this
    · rw [if_neg h14] at this ⊢
      exact this
  · intro h13
    rw [(o 13 (by omega)).1] at h13
    obtain ⟨g, e, hg, hh⟩ := h.b13 h13
    refine ⟨g, by rw [(o 13 (by omega)).2]; exact e, hg, ?_⟩
    rw [(o 15 (by omega)).1]
    have := heap_still hB hh
    by_cases h15 : L 15 = true
    · have h11 := (h.d15 h15).2
      have hne : (11 : Nat) ≠ k := by rintro rfl; rw [h11] at hL; cases hL
      rw [show updF us k v 11 = us 11 by simp [updF, hne]]
      exact this
    · rw [if_neg h15] at this ⊢
      exact this
  · intro h12 h13
    rw [(o 12 (by omega)).1] at h12
    rw [(o 13 (by omega)).1] at h13
    rw [(o 12 (by omega)).2, (o 13 (by omega)).2]
    exact h.ne h12 h13
  · intro h14
    rw [(o 14 (by omega)).1] at h14
    have := h.d14 h14
    exact ⟨by rw [(o 12 (by omega)).1]; exact this.1, by rw [this.2]; simp⟩
  · intro h15
    rw [(o 15 (by omega)).1] at h15
    have := h.d15 h15
    exact ⟨by rw [(o 13 (by omega)).1]; exact this.1, by rw [this.2]; simp⟩
theorem eqb_or {L : Nat → Bool} {j k : Nat} (h : j ≠ k) : (j == k || L j) = L j := by rw [show (j == k) = false from beq_false_of_ne h, Bool.false_or]
theorem updF_ne {us : Nat → Value} {j k : Nat} {v : Value} (h : j ≠ k) : updF us k v j = us j := by simp [updF, h]
theorem updF_at {us : Nat → Value} {k : Nat} {v : Value} : updF us k v k = v := by simp [updF]
theorem DivR.alloc12 {W0 W : World} {ps : List (World → Value → Prop)} {L : Nat → Bool} {us : Nat → Value} (hps : StbL ps) (h : DivR W0 ps L us W) (hL : L 12 = false) :
    DivR W0 ps (fun j => j == 12 || L j) (updF us 12 (.pointer (some ⟨W.heap.size, 0, none⟩))) (W.alloc (.cells Z33 33)) := by
  have hB := (Below.refl W.heap.size W).alloc (Nat.le_refl _) (.cells Z33 33)
  have h14 : L 14 = false := by
    cases h14 : L 14 with
    | false => rfl
    | true => have := (h.d14 h14).1; rw [this] at hL; cases hL
  refine ⟨h.grow.trans (hB.mono h.grow.size), ?_, ?_, ?_, ?_, ?_, ?_⟩
  · intro j hj hLj
    rw [eqb_or (by omega)] at hLj
    rw [updF_ne (by omega)]
    exact hps.at j W _ _ hB (h.vals j hj hLj)
  · intro _
    refine ⟨W.heap.size, updF_at, h.grow.size, ?_⟩
    rw [eqb_or (by decide), h14, if_neg (by decide)]
    exact heap_alloc_at _ _ _ rfl
  · intro h13
    rw [eqb_or (by decide)] at h13
    obtain ⟨g, e, hg, hh⟩ := h.b13 h13
    refine ⟨g, by rw [updF_ne (by decide)]; exact e, hg, ?_⟩
    rw [eqb_or (by decide), updF_ne (by decide)]
    exact heap_alloc_past _ _ _ _ hh
  · intro _ h13
    rw [eqb_or (by decide)] at h13
    obtain ⟨g, e, hg, hh⟩ := h.b13 h13
    rw [updF_at, updF_ne (by decide), e]
    intro h
    have hlt := (Array.getElem?_eq_some_iff.1 hh).1
    simp at h
    (try omega)
  · intro h'
    rw [eqb_or (by decide), h14] at h'
    cases h'
  · intro h15
    rw [eqb_or (by decide)] at h15
    have := h.d15 h15
    exact ⟨by rw [eqb_or (by decide)]; exact this.1, by rw [eqb_or (by decide)]; exact this.2⟩
theorem DivR.alloc13 {W0 W : World} {ps : List (World → Value → Prop)} {L : Nat → Bool} {us : Nat → Value} (hps : StbL ps) (h : DivR W0 ps L us W) (hL : L 13 = false) :
    DivR W0 ps (fun j => j == 13 || L j) (updF us 13 (.pointer (some ⟨W.heap.size, 0, none⟩))) (W.alloc (.cells Z33 33)) := by
  have hB := (Below.refl W.heap.size W).alloc (Nat.le_refl _) (.cells Z33 33)
  have h15 : L 15 = false := by
    cases h15 : L 15 with
    | false => rfl
    | true => have := (h.d15 h15).1; rw [this] at hL; cases hL
  refine ⟨h.grow.trans (hB.mono h.grow.size), ?_, ?_, ?_, ?_, ?_, ?_⟩
  · intro j hj hLj
    rw [eqb_or (by omega)] at hLj
    rw [updF_ne (by omega)]
    exact hps.at j W _ _ hB (h.vals j hj hLj)
  · intro h12
    rw [eqb_or (by decide)] at h12
    obtain ⟨g, e, hg, hh⟩ := h.b12 h12
    refine ⟨g, by rw [updF_ne (by decide)]; exact e, hg, ?_⟩
    rw [eqb_or (by decide), updF_ne (by decide)]
    exact heap_alloc_past _ _ _ _ hh
  · intro _
    refine ⟨W.heap.size, updF_at, h.grow.size, ?_⟩
    rw [eqb_or (by decide), h15, if_neg (by decide)]
    exact heap_alloc_at _ _ _ rfl
  · intro h12 _
    rw [eqb_or (by decide)] at h12
    obtain ⟨g, e, hg, hh⟩ := h.b12 h12
    rw [updF_at, updF_ne (by decide), e]
    intro h
    have hlt := (Array.getElem?_eq_some_iff.1 hh).1
    simp at h
    (try omega)
  · intro h14
    rw [eqb_or (by decide)] at h14
    have := h.d14 h14
    exact ⟨by rw [eqb_or (by decide)]; exact this.1, by rw [eqb_or (by decide)]; exact this.2⟩
  · intro h'
    rw [eqb_or (by decide), h15] at h'
    cases h'
theorem DivR.store14 {W0 W : World} {ps : List (World → Value → Prop)} {L : Nat → Bool} {us : Nat → Value} {g : Nat} {cs : Array Value} (hpr : StbRL ps) (h : DivR W0 ps L us W) (h12 : L 12 = true) (h5 : L 5 = true) (e : us 12 = .pointer (some ⟨g, 0, none⟩)) (hg : W0.heap.size ≤ g) (hh : W.heap[g]? = some (.cells Z33 33)) (hc : cellsOf (us 5) = cs) (v : Value) :
    DivR W0 ps (fun j => j == 14 || L j) (updF us 14 v) (W.setRow g cs) := by
  refine ⟨below_setRow h.grow hg _, ?_, ?_, ?_, ?_, ?_, ?_⟩
  · intro j hj hLj
    rw [eqb_or (by omega)] at hLj
    rw [updF_ne (by omega)]
    exact hpr.at j W _ g _ cs hh (h.vals j hj hLj)
  · intro _
    refine ⟨g, by rw [updF_ne (by decide)]; exact e, hg, ?_⟩
    rw [if_pos (by simp), updF_ne (by decide), hc]
    exact setRow_heap _ _ _ _ _ _ hh
  · intro h13
    rw [eqb_or (by decide)] at h13
    obtain ⟨g', e', hg', hh'⟩ := h.b13 h13
    have hne : g' ≠ g := by
      rintro rfl
      exact h.ne h12 h13 (e.trans e'.symm)
    refine ⟨g', by rw [updF_ne (by decide)]; exact e', hg', ?_⟩
    rw [eqb_or (by decide), updF_ne (by decide), heap_row_other hne]
    exact hh'
  · intro h12' h13
    rw [eqb_or (by decide)] at h12' h13
    rw [updF_ne (by decide), updF_ne (by decide)]
    exact h.ne h12' h13
  · intro _
    exact ⟨by rw [eqb_or (by decide)]; exact h12, by rw [eqb_or (by decide)]; exact h5⟩
  · intro h15
    rw [eqb_or (by decide)] at h15
    have := h.d15 h15
    exact ⟨by rw [eqb_or (by decide)]; exact this.1, by rw [eqb_or (by decide)]; exact this.2⟩
theorem DivR.store15 {W0 W : World} {ps : List (World → Value → Prop)} {L : Nat → Bool} {us : Nat → Value} {g : Nat} {cs : Array Value} (hpr : StbRL ps) (h : DivR W0 ps L us W) (h13 : L 13 = true) (h11 : L 11 = true) (e : us 13 = .pointer (some ⟨g, 0, none⟩)) (hg : W0.heap.size ≤ g) (hh : W.heap[g]? = some (.cells Z33 33)) (hc : cellsOf (us 11) = cs) (v : Value) :
    DivR W0 ps (fun j => j == 15 || L j) (updF us 15 v) (W.setRow g cs) := by
  refine ⟨below_setRow h.grow hg _, ?_, ?_, ?_, ?_, ?_, ?_⟩
  · intro j hj hLj
    rw [eqb_or (by omega)] at hLj
    rw [updF_ne (by omega)]
    exact hpr.at j W _ g _ cs hh (h.vals j hj hLj)
  · intro h12
    rw [eqb_or (by decide)] at h12
    obtain ⟨g', e', hg', hh'⟩ := h.b12 h12
    have hne : g' ≠ g := by
      rintro rfl
      exact h.ne h12 h13 (e'.trans e.symm)
    refine ⟨g', by rw [updF_ne (by decide)]; exact e', hg', ?_⟩
    rw [eqb_or (by decide), updF_ne (by decide), heap_row_other hne]
    exact hh'
  · intro _
    refine ⟨g, by rw [updF_ne (by decide)]; exact e, hg, ?_⟩
    rw [if_pos (by simp), updF_ne (by decide), hc]
    exact setRow_heap _ _ _ _ _ _ hh
  · intro h12 h13'
    rw [eqb_or (by decide)] at h12 h13'
    rw [updF_ne (by decide), updF_ne (by decide)]
    exact h.ne h12 h13'
  · intro h14
    rw [eqb_or (by decide)] at h14
    have := h.d14 h14
    exact ⟨by rw [eqb_or (by decide)]; exact this.1, by rw [eqb_or (by decide)]; exact this.2⟩
  · intro _
    exact ⟨by rw [eqb_or (by decide)]; exact h13, by rw [eqb_or (by decide)]; exact h11⟩

set_option maxRecDepth 100000 in
set_option maxHeartbeats 3200000 in
theorem qdiv_any (x y : Rat) (k : Nat) (va vb : Value) (w : World) (ha : QAt w va x k) (hb : QAt w vb y k) (hk : k ≤ 10000) (hy : y ≠ 0) :
    Calls Try.prog 54 #[va, vb] w fun r w' => (∃ v, r = .returned v ∧ QAt w' v (x / y) (k + k)) ∧ Below w.heap.size w w' := by
  obtain ⟨n1, d1, rfl, hn1, hd1, hkn1, hkd1⟩ := ha
  obtain ⟨n2, d2, rfl, hn2, hd2, hkn2, hkd2⟩ := hb
  obtain ⟨a1, ca1, rfl, _, _⟩ := hn1.open
  obtain ⟨b1, cb1, rfl, _, _⟩ := hd1.open
  obtain ⟨a2, ca2, rfl, _, _⟩ := hn2.open
  obtain ⟨b2, cb2, rfl, _, _⟩ := hd2.open
  have hy0 : y.num ≠ 0 := fun h => hy (Rat.num_eq_zero.1 h)
  have hz20 : y.num * (x.den : Int) ≠ 0 := Int.mul_ne_zero hy0 (by have := x.den_nz; omega)
  have HQ := hid (rat_div x y hy)
  obtain ⟨z1, hz1⟩ : ∃ z, z = x.num * (y.den : Int) := ⟨_, rfl⟩
  obtain ⟨z2, hz2⟩ : ∃ z, z = y.num * (x.den : Int) := ⟨_, rfl⟩
  rw [← hz1, ← hz2] at HQ
  rw [← hz2] at hz20
  have HIM := fun (a b : Int) (W : World) (v v' : Value) h h' => imul_any a b k k v v' W h h' (by omega) (by omega)
  have HIM1 := hid (fun W v v' h h' => HIM x.num (y.den : Int) W v v' h h')
  have HIM2 := hid (fun W v v' h h' => HIM y.num (x.den : Int) W v v' h h')
  rw [← hz1] at HIM1
  rw [← hz2] at HIM2
  have HKK := hid hk
  have HZ2 := hid hz20
  have HI1 := hid (show ∀ W, Below w.heap.size w W → IntAt W (.agg #[.bool (decide (x.num < 0)), .slice a1 (natL x.num.natAbs).length ca1]) x.num k from fun W hW => ⟨_, rfl, hn1.grow hW, hkn1⟩)
  have HI2 := hid (show ∀ W, Below w.heap.size w W → IntAt W (.agg #[.bool (decide (y.num < 0)), .slice a2 (natL y.num.natAbs).length ca2]) y.num k from fun W hW => ⟨_, rfl, hn2.grow hW, hkn2⟩)
  have HD1 := hid (show ∀ W, Below w.heap.size w W → IntAt W (.agg #[.bool false, .slice b1 (natL x.den).length cb1]) (x.den : Int) k from fun W hW => ⟨_, by rw [nat_sign], by rw [Int.natAbs_natCast]; exact hd1.grow hW, by rw [Int.natAbs_natCast]; exact hkd1⟩)
  have HD2 := hid (show ∀ W, Below w.heap.size w W → IntAt W (.agg #[.bool false, .slice b2 (natL y.den).length cb2]) (y.den : Int) k from fun W hW => ⟨_, by rw [nat_sign], by rw [Int.natAbs_natCast]; exact hd2.grow hW, by rw [Int.natAbs_natCast]; exact hkd2⟩)
  generalize decide (x.num < 0) = s1 at *
  generalize decide (y.num < 0) = s2 at *
  generalize (natL x.num.natAbs).length = p1 at *
  generalize (natL y.num.natAbs).length = p2 at *
  generalize (natL x.den).length = r1 at *
  generalize (natL y.den).length = r2 at *
  clear hn1 hd1 hkn1 hkd1 hn2 hd2 hkn2 hkd2 hz1 hz2 hk hy hy0 hz20 HIM
  go_enter Try.func54, Try.ntmps54
  go_wp2_with fail
  refine gen_world (fun W0 hW0 => ?_)
  have HB0 := hid (show Below w.heap.size w W0 by rw [hW0]; (repeat' (first | (with_reducible exact Below.refl _ _) | (with_reducible assumption) | (with_reducible refine Below.alloc ?_ ?_ _) | (with_reducible refine Below.drew ?_) | (with_reducible refine below_drewN ?_ _) | (with_reducible refine Below.setCell ?_ ?_ _) | (with_reducible refine below_setRow ?_ ?_ _) | go_size)))
  have F0 := hid (show W0.heap[w.heap.size]? = some (.cells #[.bool s1, .slice a1 p1 ca1, .slice b1 r1 cb1] 35) by rw [hW0]; exact (by repeat' (first | (refine heap_alloc_at _ _ _ ?_; (first | rfl | (simp; done) | (simp; omega))) | (refine heap_alloc_past _ _ _ _ ?_))))
  have F1 := hid (show W0.heap[w.heap.size + 1]? = some (.cells #[.bool s2, .slice a2 p2 ca2, .slice b2 r2 cb2] 35) by rw [hW0]; exact (by repeat' (first | (refine heap_alloc_at _ _ _ ?_; (first | rfl | (simp; done) | (simp; omega))) | (refine heap_alloc_past _ _ _ _ ?_))))
  have F2 := hid (show W0.heap[w.heap.size + 1 + 1]? = some (.cells #[.bool false, .slice none 0 0, .slice none 0 0] 35) by rw [hW0]; exact (by repeat' (first | (refine heap_alloc_at _ _ _ ?_; (first | rfl | (simp; done) | (simp; omega))) | (refine heap_alloc_past _ _ _ _ ?_))))
  have hsz0 : w.heap.size + 1 + 1 < W0.heap.size := (Array.getElem?_eq_some_iff.1 F2.out).1
  clear hW0
  refine gen_act (fun A0 hA => ?_)
  obtain ⟨ps, hpse⟩ : ∃ ps, ps = ([IsV (.pointer (some ⟨w.heap.size, 0, none⟩)), fun W v => IntAt W v x.num k, IsV (.pointer (some ⟨w.heap.size + 1, 2, none⟩)), IsV (.slice b2 r2 cb2), fun W v => IntAt W v (y.den : Int) k, fun W v => IntAt W v z1 (k + k),
      IsV (.pointer (some ⟨w.heap.size + 1, 0, none⟩)), fun W v => IntAt W v y.num k, IsV (.pointer (some ⟨w.heap.size, 2, none⟩)), IsV (.slice b1 r1 cb1), fun W v => IntAt W v (x.den : Int) k, fun W v => IntAt W v z2 (k + k)] : List (World → Value → Prop)) := ⟨_, rfl⟩
  have HPS := hid (show StbL ps by rw [hpse]; exact ⟨IsV.stb _, IntAt.stb _ _, IsV.stb _, IsV.stb _, IntAt.stb _ _, IntAt.stb _ _, IsV.stb _, IntAt.stb _ _, IsV.stb _, IsV.stb _, IntAt.stb _ _, IntAt.stb _ _, trivial⟩)
  have HPR := hid (show StbRL ps by rw [hpse]; exact ⟨IsV.stbR _, IntAt.stbR _ _, IsV.stbR _, IsV.stbR _, IntAt.stbR _ _, IntAt.stbR _ _, IsV.stbR _, IntAt.stbR _ _, IsV.stbR _, IsV.stbR _, IntAt.stbR _ _, IntAt.stbR _ _, trivial⟩)
  refine wp_region_by (by kernel_rfl) (by kernel_rfl) [some 7, some 8, some 9, some 10, some 11, some 12, some 13, some 14, some 15, some 16, some 17, some 18, some 5, some 6, none, none] rfl (by decide) (DivR W0 ps) (selfF A0 _) (putF_self A0 _)
    ⟨(Below.refl _ _).drew, fun _ _ h => (Bool.false_ne_true h).elim, fun h => (Bool.false_ne_true h).elim, fun h => (Bool.false_ne_true h).elim, fun h => (Bool.false_ne_true h).elim, fun h => (Bool.false_ne_true h).elim, fun h => (Bool.false_ne_true h).elim⟩ ?hs1 ?hend
  case hs1 =>
    subst hpse
    refine ⟨?_, ?_, ?_, ?_, ?_, ?_, ?_, ?_, ?_, ?_, ?_, ?_, ?_, ?_, ?_, ?_, trivial⟩
    · intro K L us W hK0 hL hd hR
      have hK := hid (fun v A' W' h1 h2 h3 => hK0 v A' W' h1 (hR.pure (by exact HPS.out) (by decide) hL h2 h3)); clear hK0
      have hB := hR.grow
      have HBW := hid hB
      have hsW := hB.size
      (try simp [Region.binds] at hd)
      simp only [putF]
      rw [hA]
      go_frame
      go_wp2_with fail
      exact hK.out _ _ _ (by rw [hA]; kernel_rfl) (Below.refl _ _) rfl
    · intro K L us W hK0 hL hd hR
      have hK := hid (fun v A' W' h1 h2 h3 => hK0 v A' W' h1 (hR.pure (by exact HPS.out) (by decide) hL h2 h3)); clear hK0
      have hB := hR.grow
      have HBW := hid hB
      have hsW := hB.size
      (try simp [Region.binds] at hd)
      have e0 : us 0 = _ := hR.vals 0 (by decide) hd
      have G0 := hid (heap_still hB F0.out)
      have c0 : W.cell? ⟨w.heap.size, 0, none⟩ = some (.bool s1) := (cell_row (j := 0) G0.out).trans rfl
      have c1 : W.cell? ⟨w.heap.size, 1, none⟩ = some (.slice a1 p1 ca1) := (cell_row (j := 1) G0.out).trans rfl
      simp only [putF]
      rw [hA, e0]
      go_frame
      go_wp2_with fail
      exact hK.out _ _ _ (by rw [hA]; simp only [putF]; rw [e0]; kernel_rfl) (Below.refl _ _) (HI1.out W (HB0.out.trans (HBW.out.mono HB0.out.size)))
    · intro K L us W hK0 hL hd hR
      have hK := hid (fun v A' W' h1 h2 h3 => hK0 v A' W' h1 (hR.pure (by exact HPS.out) (by decide) hL h2 h3)); clear hK0
      have hB := hR.grow
      have HBW := hid hB
      have hsW := hB.size
      (try simp [Region.binds] at hd)
      simp only [putF]
      rw [hA]
      go_frame
      go_wp2_with fail
      exact hK.out _ _ _ (by rw [hA]; kernel_rfl) (Below.refl _ _) rfl
    · intro K L us W hK0 hL hd hR
      have hK := hid (fun v A' W' h1 h2 h3 => hK0 v A' W' h1 (hR.pure (by exact HPS.out) (by decide) hL h2 h3)); clear hK0
      have hB := hR.grow
      have HBW := hid hB
      have hsW := hB.size
      (try simp [Region.binds] at hd)
      have e0 : us 2 = _ := hR.vals 2 (by decide) hd
      have G0 := hid (heap_still hB F1.out)
      have c0 : W.cell? ⟨w.heap.size + 1, 2, none⟩ = some (.slice b2 r2 cb2) := (cell_row (j := 2) G0.out).trans rfl
      simp only [putF]
      rw [hA, e0]
      go_frame
      go_wp2_with fail
      exact hK.out _ _ _ (by rw [hA]; simp only [putF]; rw [e0]; kernel_rfl) (Below.refl _ _) rfl
    · intro K L us W hK0 hL hd hR
      have hK := hid (fun v A' W' h1 h2 h3 => hK0 v A' W' h1 (hR.pure (by exact HPS.out) (by decide) hL h2 h3)); clear hK0
      have hB := hR.grow
      have HBW := hid hB
      have hsW := hB.size
      (try simp [Region.binds] at hd)
      have e0 : us 3 = _ := hR.vals 3 (by decide) hd
      simp only [putF]
      rw [hA, e0]
      go_frame
      go_wp2_with fail
      exact hK.out _ _ _ (by rw [hA]; simp only [putF]; rw [e0]; kernel_rfl) (Below.refl _ _) (HD2.out W (HB0.out.trans (HBW.out.mono HB0.out.size)))
    · intro K L us W hK0 hL hd hR
      have hK := hid (fun v A' W' h1 h2 h3 => hK0 v A' W' h1 (hR.pure (by exact HPS.out) (by decide) hL h2 h3)); clear hK0
      have hB := hR.grow
      have HBW := hid hB
      have hsW := hB.size
      (try simp [Region.binds] at hd)
      have hd1 : IntAt W (us 1) _ k := hR.vals 1 (by decide) hd.1
      have hd2 : IntAt W (us 4) _ k := hR.vals 4 (by decide) hd.2
      obtain ⟨cs1, e0, _, _⟩ := hd1.cells
      obtain ⟨cs2, e1, _, _⟩ := hd2.cells
      rw [e0] at hd1
      rw [e1] at hd2
      have HH1 := hid hd1
      have HH2 := hid hd2
      clear hd hd1 hd2 hR
      simp only [putF]
      rw [hA, e0, e1]
      go_frame
      go_wp2_with fail
      refine (HIM1.out W _ _ HH1.out HH2.out).mono ?_
      rintro r W' ⟨⟨v, rfl, hv⟩, hb⟩
      go_wp2_with fail
      exact hK.out _ _ _ (by rw [hA]; simp only [putF]; rw [e0, e1]; kernel_rfl) hb hv
    · intro K L us W hK0 hL hd hR
      have hK := hid (fun v A' W' h1 h2 h3 => hK0 v A' W' h1 (hR.pure (by exact HPS.out) (by decide) hL h2 h3)); clear hK0
      have hB := hR.grow
      have HBW := hid hB
      have hsW := hB.size
      (try simp [Region.binds] at hd)
      simp only [putF]
      rw [hA]
      go_frame
      go_wp2_with fail
      exact hK.out _ _ _ (by rw [hA]; kernel_rfl) (Below.refl _ _) rfl
    · intro K L us W hK0 hL hd hR
      have hK := hid (fun v A' W' h1 h2 h3 => hK0 v A' W' h1 (hR.pure (by exact HPS.out) (by decide) hL h2 h3)); clear hK0
      have hB := hR.grow
      have HBW := hid hB
      have hsW := hB.size
      (try simp [Region.binds] at hd)
      have e0 : us 6 = _ := hR.vals 6 (by decide) hd
      have G0 := hid (heap_still hB F1.out)
      have c0 : W.cell? ⟨w.heap.size + 1, 0, none⟩ = some (.bool s2) := (cell_row (j := 0) G0.out).trans rfl
      have c1 : W.cell? ⟨w.heap.size + 1, 1, none⟩ = some (.slice a2 p2 ca2) := (cell_row (j := 1) G0.out).trans rfl
      simp only [putF]
      rw [hA, e0]
      go_frame
      go_wp2_with fail
      exact hK.out _ _ _ (by rw [hA]; simp only [putF]; rw [e0]; kernel_rfl) (Below.refl _ _) (HI2.out W (HB0.out.trans (HBW.out.mono HB0.out.size)))
    · intro K L us W hK0 hL hd hR
      have hK := hid (fun v A' W' h1 h2 h3 => hK0 v A' W' h1 (hR.pure (by exact HPS.out) (by decide) hL h2 h3)); clear hK0
      have hB := hR.grow
      have HBW := hid hB
      have hsW := hB.size
      (try simp [Region.binds] at hd)
      simp only [putF]
      rw [hA]
      go_frame
      go_wp2_with fail
      exact hK.out _ _ _ (by rw [hA]; kernel_rfl) (Below.refl _ _) rfl
    · intro K L us W hK0 hL hd hR
      have hK := hid (fun v A' W' h1 h2 h3 => hK0 v A' W' h1 (hR.pure (by exact HPS.out) (by decide) hL h2 h3)); clear hK0
      have hB := hR.grow
      have HBW := hid hB
      have hsW := hB.size
      (try simp [Region.binds] at hd)
      have e0 : us 8 = _ := hR.vals 8 (by decide) hd
      have G0 := hid (heap_still hB F0.out)
      have c0 : W.cell? ⟨w.heap.size, 2, none⟩ = some (.slice b1 r1 cb1) := (cell_row (j := 2) G0.out).trans rfl
      simp only [putF]
      rw [hA, e0]
      go_frame
      go_wp2_with fail
      exact hK.out _ _ _ (by rw [hA]; simp only [putF]; rw [e0]; kernel_rfl) (Below.refl _ _) rfl
    · intro K L us W hK0 hL hd hR
      have hK := hid (fun v A' W' h1 h2 h3 => hK0 v A' W' h1 (hR.pure (by exact HPS.out) (by decide) hL h2 h3)); clear hK0
      have hB := hR.grow
      have HBW := hid hB
      have hsW := hB.size
      (try simp [Region.binds] at hd)
      have e0 : us 9 = _ := hR.vals 9 (by decide) hd
      simp only [putF]
      rw [hA, e0]
      go_frame
      go_wp2_with fail
      exact hK.out _ _ _ (by rw [hA]; simp only [putF]; rw [e0]; kernel_rfl) (Below.refl _ _) (HD1.out W (HB0.out.trans (HBW.out.mono HB0.out.size)))
    · intro K L us W hK0 hL hd hR
      have hK := hid (fun v A' W' h1 h2 h3 => hK0 v A' W' h1 (hR.pure (by exact HPS.out) (by decide) hL h2 h3)); clear hK0
      have hB := hR.grow
      have HBW := hid hB
      have hsW := hB.size
      (try simp [Region.binds] at hd)
      have hd1 : IntAt W (us 7) _ k := hR.vals 7 (by decide) hd.1
      have hd2 : IntAt W (us 10) _ k := hR.vals 10 (by decide) hd.2.1
      obtain ⟨cs1, e0, _, _⟩ := hd1.cells
      obtain ⟨cs2, e1, _, _⟩ := hd2.cells
      rw [e0] at hd1
      rw [e1] at hd2
      have HH1 := hid hd1
      have HH2 := hid hd2
      clear hd hd1 hd2 hR
      simp only [putF]
      rw [hA, e0, e1]
      go_frame
      go_wp2_with fail
      refine (HIM2.out W _ _ HH1.out HH2.out).mono ?_
      rintro r W' ⟨⟨v, rfl, hv⟩, hb⟩
      go_wp2_with fail
      exact hK.out _ _ _ (by rw [hA]; simp only [putF]; rw [e0, e1]; kernel_rfl) hb hv
    · intro K L us W hK0 hL hd hR
      have hK := hid hK0; clear hK0
      have hR2 := hid (hR.alloc12 HPS.out hL)
      simp only [putF]
      rw [hA]
      go_frame
      go_wp2_with fail
      exact hK.out (.pointer (some ⟨W.heap.size, 0, none⟩)) _ _ (by rw [hA]; kernel_rfl) hR2.out
    · intro K L us W hK0 hL hd hR
      have hK := hid hK0; clear hK0
      have hR2 := hid (hR.alloc13 HPS.out hL)
      simp only [putF]
      rw [hA]
      go_frame
      go_wp2_with fail
      exact hK.out (.pointer (some ⟨W.heap.size, 0, none⟩)) _ _ (by rw [hA]; kernel_rfl) hR2.out
    · intro K L us W hK0 hL hd hR
      have hK := hid hK0; clear hK0
      simp [Region.binds] at hd
      have h12 : L 12 = true := hd.1
      have h5 : L 5 = true := hd.2.1
      obtain ⟨g, e0, hg, hh⟩ := hR.b12 h12
      rw [hL, if_neg (by decide)] at hh
      have hi : IntAt W (us 5) z1 (k + k) := hR.vals 5 (by decide) h5
      obtain ⟨cs, e1, hcs, hco⟩ := hi.cells
      have hR2 := hid (hR.store14 (cs := cs) HPR.out h12 h5 e0 hg hh (by rw [e1]; rfl) undef)
      simp only [putF]
      rw [hA, e0, e1]
      go_frame
      go_wp2_with (refine wpList_store_at rfl 33 (.tmp 5) (.tmp 12) rfl rfl rfl hh size33 hcs rfl hco ?_)
      exact hK.out undef _ _ (by rw [hA]; simp only [putF]; rw [e0, e1]; kernel_rfl) hR2.out
    · intro K L us W hK0 hL hd hR
      have hK := hid hK0; clear hK0
      simp [Region.binds] at hd
      have h13 : L 13 = true := hd.1
      have h11 : L 11 = true := hd.2.1
      obtain ⟨g, e0, hg, hh⟩ := hR.b13 h13
      rw [hL, if_neg (by decide)] at hh
      have hi : IntAt W (us 11) z2 (k + k) := hR.vals 11 (by decide) h11
      obtain ⟨cs, e1, hcs, hco⟩ := hi.cells
      have hR2 := hid (hR.store15 (cs := cs) HPR.out h13 h11 e0 hg hh (by rw [e1]; rfl) undef)
      simp only [putF]
      rw [hA, e0, e1]
      go_frame
      go_wp2_with (refine wpList_store_at rfl 33 (.tmp 6) (.tmp 18) rfl rfl rfl hh size33 hcs rfl hco ?_)
      exact hK.out undef _ _ (by rw [hA]; simp only [putF]; rw [e0, e1]; kernel_rfl) hR2.out
  case hend =>
    intro L us W hL hR
    subst hpse
    obtain ⟨g5, e5, hg5, hh5⟩ := hR.b12 (hL 12 (by decide))
    obtain ⟨g6, e6, hg6, hh6⟩ := hR.b13 (hL 13 (by decide))
    rw [hL 14 (by decide), if_pos rfl] at hh5
    rw [hL 15 (by decide), if_pos rfl] at hh6
    obtain ⟨l1, i1, hn1, hk1⟩ : IntAt W (us 5) z1 (k + k) := hR.vals 5 (by decide) (hL 5 (by decide))
    obtain ⟨l2, i2, hn2, hk2⟩ : IntAt W (us 11) z2 (k + k) := hR.vals 11 (by decide) (hL 11 (by decide))
    obtain ⟨u1, cu1, rfl, _, _⟩ := hn1.open
    obtain ⟨u2, cu2, rfl, _, _⟩ := hn2.open
    rw [i1] at hh5
    rw [i2] at hh6
    have hhh5 : W.heap[g5]? = some (.cells #[.bool (decide (z1 < 0)), .slice u1 (natL z1.natAbs).length cu1] 33) := hh5
    have hhh6 : W.heap[g6]? = some (.cells #[.bool (decide (z2 < 0)), .slice u2 (natL z2.natAbs).length cu2] 33) := hh6
    have k0 : W.cell? ⟨g5, 0, none⟩ = some (.bool (decide (z1 < 0))) := (cell_row (j := 0) hhh5).trans rfl
    have k1 : W.cell? ⟨g5, 1, none⟩ = some (.slice u1 (natL z1.natAbs).length cu1) := (cell_row (j := 1) hhh5).trans rfl
    have k2 : W.cell? ⟨g6, 0, none⟩ = some (.bool (decide (z2 < 0))) := (cell_row (j := 0) hhh6).trans rfl
    have k3 : W.cell? ⟨g6, 1, none⟩ = some (.slice u2 (natL z2.natAbs).length cu2) := (cell_row (j := 1) hhh6).trans rfl
    have GR := hid (heap_still hR.grow F2.out)
    have HBR := hid (HB0.out.trans (hR.grow.mono HB0.out.size))
    have HN1 := hid hn1
    have HN2 := hid hn2
    have HK1 := hid hk1
    have HK2 := hid hk2
    have HFR := hid (fun W v v' h h' => frac_any (divN z1 z2) z2.natAbs (k + k) v v' W h h' (by have := HKK.out; omega) (by have := HZ2.out; omega))
    have HAB := hid (divN_abs z1 z2)
    have HSG := hid (divN_neg z1 z2 HZ2.out)
    have hszW := HBR.out.size
    simp only [putF, Nat.zero_add, Nat.reduceAdd]
    rw [hA, e5, e6]
    clear hh5 hh6 hhh5 hhh6 hn1 hn2 hk1 hk2 hR hL hA i1 i2 e5 e6
    by_cases hz : z1.natAbs = 0
    · have hl0 : (natL z1.natAbs).length = 0 := by rw [hz, natL_zero]; rfl
      replace HSG := hid (show decide (divN z1 z2 < 0) = false by rw [HSG.out, hz]; simp)
      rw [hl0] at k1 HN1
      generalize decide (z1 < 0) = t1 at *
      generalize decide (z2 < 0) = t2 at *
      generalize (natL z2.natAbs).length = m2 at *
      clear hl0 hz
      cases t1 <;> cases t2
      all_goals
        go_frame
        go_wp2_with fail
        refine (HFR.out _ _ _ ⟨_, by rw [HSG.out] <;> rfl, by rw [HAB.out]; exact HN1.out, by rw [HAB.out]; exact HK1.out⟩ ⟨_, by rw [nat_sign], by rw [Int.natAbs_natCast]; exact HN2.out, by rw [Int.natAbs_natCast]; exact HK2.out⟩).mono ?_
        rintro r W3 ⟨⟨v, rfl, hv⟩, hb⟩
        have G3 := hid (heap_still hb GR.out)
        have HB3 := hid (HBR.out.trans (hb.mono HBR.out.size))
        have HV := hid hv
        obtain ⟨cs, rfl, hcs, hco⟩ := hv.cells
        clear hb hv
        go_wp2_with (refine wpList_store_at rfl 35 (.tmp 4) (.tmp 36) rfl rfl rfl (G3.out) size35 hcs rfl hco ?_)
        refine bodyPost_ret (results_at1 rfl rfl (setRow_heap _ _ _ _ _ _ (G3.out)) Try.underlying35 rfl size35 hcs) rfl ?_
        refine ⟨⟨_, rfl, ?_⟩, below_setRow HB3.out (by omega) _⟩
        rw [HQ.out]
        exact HV.out.row G3.out (by decide)
    · have hlp : 0 < (natL z1.natAbs).length := length_pos (Nat.pos_of_ne_zero hz)
      replace HSG := hid (show decide (divN z1 z2 < 0) = (decide (z1 < 0) != decide (z2 < 0)) by rw [HSG.out]; simp [hz])
      generalize decide (z1 < 0) = t1 at *
      generalize decide (z2 < 0) = t2 at *
      generalize (natL z2.natAbs).length = m2 at *
      generalize (natL z1.natAbs).length = m1 at *
      clear hz
      cases t1 <;> cases t2
      all_goals
        go_frame
        go_wp2_with fail
        refine (HFR.out _ _ _ ⟨_, by rw [HSG.out] <;> rfl, by rw [HAB.out]; exact HN1.out, by rw [HAB.out]; exact HK1.out⟩ ⟨_, by rw [nat_sign], by rw [Int.natAbs_natCast]; exact HN2.out, by rw [Int.natAbs_natCast]; exact HK2.out⟩).mono ?_
        rintro r W3 ⟨⟨v, rfl, hv⟩, hb⟩
        have G3 := hid (heap_still hb GR.out)
        have HB3 := hid (HBR.out.trans (hb.mono HBR.out.size))
        have HV := hid hv
        obtain ⟨cs, rfl, hcs, hco⟩ := hv.cells
        clear hb hv
        go_wp2_with (refine wpList_store_at rfl 35 (.tmp 4) (.tmp 36) rfl rfl rfl (G3.out) size35 hcs rfl hco ?_)
        refine bodyPost_ret (results_at1 rfl rfl (setRow_heap _ _ _ _ _ _ (G3.out)) Try.underlying35 rfl size35 hcs) rfl ?_
        refine ⟨⟨_, rfl, ?_⟩, below_setRow HB3.out (by omega) _⟩
        rw [HQ.out]
        exact HV.out.row G3.out (by decide)
end Go.Proofs.Yteoikaedpgianaa
