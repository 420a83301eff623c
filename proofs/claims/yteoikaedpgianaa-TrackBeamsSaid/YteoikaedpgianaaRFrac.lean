/- The reference's rational numbers: made from a numerator and a denominator. -/
import Derived.Test.YteoikaedpgianaaRInt
namespace Go.Proofs.Yteoikaedpgianaa
open Go.RowKit Limb

/-- a rational number in memory, of so many limbs at most above and below -/
def QAt (W : World) (v : Value) (q : Rat) (k : Nat) : Prop := ∃ ln ld, v = .agg #[.bool (decide (q.num < 0)), ln, ld] ∧ NatAt W ln q.num.natAbs ∧ NatAt W ld q.den ∧ LenLe q.num.natAbs k ∧ LenLe q.den k
theorem QAt.grow {W W' : World} {v : Value} {q : Rat} {k : Nat} (h : QAt W v q k) (hB : Below W.heap.size W W') : QAt W' v q k := by
  obtain ⟨l, l', h1, h2, h3, h4⟩ := h
  exact ⟨l, l', h1, h2.grow hB, h3.grow hB, h4⟩
theorem QAt.wide {W : World} {v : Value} {q : Rat} {k k' : Nat} (h : QAt W v q k) (hk : k ≤ k') : QAt W v q k' := by
  obtain ⟨l, l', h1, h2, h3, h4, h5⟩ := h
  exact ⟨l, l', h1, h2, h3, h4.wide hk, h5.wide hk⟩
theorem NatAt.row {W : World} {g m : Nat} {v : Value} {t : TypeId} {fr : Nat × Nat} {old cs : Array Value} (h : NatAt W v m) (hg : W.heap[g]? = some (.cells old t fr)) (ht : t ≠ 3) : NatAt (W.setRow g cs) v m := by
  obtain ⟨h1, h2⟩ := h
  refine ⟨h1, ?_⟩
  rcases h2 with h2 | ⟨g', cap, cur, hv, hg', hr, h3⟩
  · exact Or.inl h2
  · refine Or.inr ⟨g', cap, cur, hv, hg', ?_, h3⟩
    have hne : g ≠ g' := by
      rintro rfl
      rw [hg] at hr
      simp only [Option.some.injEq, Obj.cells.injEq] at hr
      exact ht hr.2.1
    show (W.heap.modify g _)[g']? = _
    rw [Array.getElem?_modify, if_neg hne]
    exact hr
theorem LenLe.mono {m n k : Nat} (h : LenLe n k) (hmn : m ≤ n) : LenLe m k := Nat.le_trans (natL_length_mono hmn) h
theorem size35 : (Try.prog.info? 35).map (·.size) = some 3 := by kernel_rfl
set_option maxRecDepth 100000 in
set_option maxHeartbeats 800000 in
theorem frac_any (n : Int) (d k : Nat) (va : Value) (vb : Value) (w : World) (ha : IntAt w va n k) (hb : IntAt w vb (d : Int) k) (hk : k ≤ 40000) (hd : 0 < d) :
    Calls Try.prog 79 #[va, vb] w fun r w' => (∃ v, r = .returned v ∧ QAt w' v (mkRat n d) k) ∧ Below w.heap.size w w' := by
  obtain ⟨la, rfl, hna, hla⟩ := ha
  obtain ⟨la, ca, rfl, _, _⟩ := NatAt.open hna
  obtain ⟨lb, rfl, hnb, hlb⟩ := hb
  obtain ⟨lb, cb, rfl, _, _⟩ := NatAt.open hnb
  rw [Int.natAbs_natCast] at hnb hlb ⊢
  rw [show decide ((d : Int) < 0) = false by simp]
  have hg : 0 < Nat.gcd n.natAbs d := Nat.gcd_pos_of_pos_right _ hd
  have HG := hid (fun w hx hy => gcd_any n.natAbs d (.slice la (natL n.natAbs).length ca) (.slice lb (natL d).length cb) w hx hy (hla.wide (by omega)).le (hlb.wide (by omega)).le)
  have HD1 := hid (fun w vb hx hy => divide_any n.natAbs (Nat.gcd n.natAbs d) (.slice la (natL n.natAbs).length ca) vb w hx hy (hla.wide (by omega)).le hg)
  have HD2 := hid (fun w vb hx hy => divide_any d (Nat.gcd n.natAbs d) (.slice lb (natL d).length cb) vb w hx hy (hlb.wide (by omega)).le hg)
  have HNUM := hid (rat_num (n := n) (Nat.ne_of_gt hd))
  have HDEN := hid (rat_den (n := n) (Nat.ne_of_gt hd))
  have HNEG := hid (show decide ((mkRat n d).num < 0) = decide (n < 0) from decide_eq_decide.2 (rat_neg (Nat.ne_of_gt hd)))
  have HK1 := hid (show LenLe (n.natAbs / Nat.gcd n.natAbs d) k from hla.mono (Nat.div_le_self _ _))
  have HK2 := hid (show LenLe (d / Nat.gcd n.natAbs d) k from hlb.mono (Nat.div_le_self _ _))
  have HNA := hid hna
  have HNB := hid hnb
  have HZ := hid (show n.natAbs / Nat.gcd n.natAbs d = 0 → decide (n < 0) = false by
    intro h
    have h2 := Nat.div_mul_cancel (Nat.gcd_dvd_left n.natAbs d)
    rw [h, Nat.zero_mul] at h2
    simp; omega)
  clear hna hnb hla hlb hk hd hg
  generalize decide (n < 0) = sa at *
  generalize (natL n.natAbs).length = p at *
  generalize (natL d).length = q at *
  go_enter Try.func79, Try.ntmps79
  go_wp2_with fail
  have F0 := hid (show (((w.alloc (.cells #[.bool sa, .slice la p ca] 33)).alloc (.cells #[.bool false, .slice lb q cb] 33)).alloc (.cells #[.bool false, .slice none 0 0, .slice none 0 0] 35)).heap[w.heap.size]? = some (.cells #[.bool sa, .slice la p ca] 33) from (by repeat' (first | (refine heap_alloc_at _ _ _ ?_; (first | rfl | (simp; done) | (simp; omega))) | (refine heap_alloc_past _ _ _ _ ?_))))
  have F1 := hid (show (((w.alloc (.cells #[.bool sa, .slice la p ca] 33)).alloc (.cells #[.bool false, .slice lb q cb] 33)).alloc (.cells #[.bool false, .slice none 0 0, .slice none 0 0] 35)).heap[w.heap.size + 1]? = some (.cells #[.bool false, .slice lb q cb] 33) from (by repeat' (first | (refine heap_alloc_at _ _ _ ?_; (first | rfl | (simp; done) | (simp; omega))) | (refine heap_alloc_past _ _ _ _ ?_))))
  have F2 := hid (show (((w.alloc (.cells #[.bool sa, .slice la p ca] 33)).alloc (.cells #[.bool false, .slice lb q cb] 33)).alloc (.cells #[.bool false, .slice none 0 0, .slice none 0 0] 35)).heap[w.heap.size + 1 + 1]? = some (.cells #[.bool false, .slice none 0 0, .slice none 0 0] 35) from (by repeat' (first | (refine heap_alloc_at _ _ _ ?_; (first | rfl | (simp; done) | (simp; omega))) | (refine heap_alloc_past _ _ _ _ ?_))))
  refine (HG.out _ (HNA.out.grow (by (repeat' (first | (with_reducible exact Below.refl _ _) | (with_reducible assumption) | (with_reducible refine Below.alloc ?_ ?_ _) | (with_reducible refine Below.drew ?_) | (with_reducible refine below_drewN ?_ _) | (with_reducible refine Below.setCell ?_ ?_ _) | (with_reducible refine below_setRow ?_ ?_ _) | go_size)))) (HNB.out.grow (by (repeat' (first | (with_reducible exact Below.refl _ _) | (with_reducible assumption) | (with_reducible refine Below.alloc ?_ ?_ _) | (with_reducible refine Below.drew ?_) | (with_reducible refine below_drewN ?_ _) | (with_reducible refine Below.setCell ?_ ?_ _) | (with_reducible refine below_setRow ?_ ?_ _) | go_size))))).mono ?_
  rintro r w1 ⟨⟨gv, rfl, hgv⟩, hb⟩
  have HB1 := hid ((by refine Below.trans ?_ (hb.mono ?_); (focus ((repeat' (first | (with_reducible exact Below.refl _ _) | (with_reducible assumption) | (with_reducible refine Below.alloc ?_ ?_ _) | (with_reducible refine Below.drew ?_) | (with_reducible refine below_drewN ?_ _) | (with_reducible refine Below.setCell ?_ ?_ _) | (with_reducible refine below_setRow ?_ ?_ _) | go_size)); done)); (focus (first | (simp; done) | (simp; omega)))) : Below w.heap.size w w1)
  replace F0 := hid (heap_below hb (by first | (simp; done) | (simp; omega)) F0.out)
  replace F1 := hid (heap_below hb (by first | (simp; done) | (simp; omega)) F1.out)
  replace F2 := hid (heap_below hb (by first | (simp; done) | (simp; omega)) F2.out)
  have c0 : w1.cell? ⟨w.heap.size, 0, none⟩ = some (.bool sa) := (cell_row (j := 0) F0.out).trans rfl
  have c1 : w1.cell? ⟨w.heap.size, 1, none⟩ = some (.slice la p ca) := (cell_row (j := 1) F0.out).trans rfl
  have c2 : w1.cell? ⟨w.heap.size + 1, 1, none⟩ = some (.slice lb q cb) := (cell_row (j := 1) F1.out).trans rfl
  have HGV := hid hgv
  clear hb hgv
  go_wp2_with fail
  refine (HD1.out _ _ (HNA.out.grow HB1.out) HGV.out).mono ?_
  rintro r w2 ⟨⟨qv, sv, rfl, hq, _⟩, hb⟩
  have HB2 := hid (HB1.out.trans (hb.mono HB1.out.size))
  clear c0 c1 c2
  replace F0 := hid (heap_still hb F0.out)
  replace F1 := hid (heap_still hb F1.out)
  replace F2 := hid (heap_still hb F2.out)
  have c0 : w2.cell? ⟨w.heap.size, 0, none⟩ = some (.bool sa) := (cell_row (j := 0) F0.out).trans rfl
  have c1 : w2.cell? ⟨w.heap.size, 1, none⟩ = some (.slice la p ca) := (cell_row (j := 1) F0.out).trans rfl
  have c2 : w2.cell? ⟨w.heap.size + 1, 1, none⟩ = some (.slice lb q cb) := (cell_row (j := 1) F1.out).trans rfl
  have HGV2 := hid (HGV.out.grow hb)
  have HQ := hid hq
  obtain ⟨aq, cq, rfl, _, _⟩ := hq.open
  clear hb hq
  go_wp2_with fail
  refine (HD2.out _ _ (HNB.out.grow HB2.out) HGV2.out).mono ?_
  rintro r w3 ⟨⟨qv2, sv2, rfl, hq2, _⟩, hb⟩
  have HB3 := hid (HB2.out.trans (hb.mono HB2.out.size))
  clear c0 c1 c2
  replace F0 := hid (heap_still hb F0.out)
  replace F1 := hid (heap_still hb F1.out)
  replace F2 := hid (heap_still hb F2.out)
  have c0 : w3.cell? ⟨w.heap.size, 0, none⟩ = some (.bool sa) := (cell_row (j := 0) F0.out).trans rfl
  have c1 : w3.cell? ⟨w.heap.size, 1, none⟩ = some (.slice la p ca) := (cell_row (j := 1) F0.out).trans rfl
  have c2 : w3.cell? ⟨w.heap.size + 1, 1, none⟩ = some (.slice lb q cb) := (cell_row (j := 1) F1.out).trans rfl
  have HQ1 := hid (HQ.out.grow hb)
  have HQ2 := hid hq2
  obtain ⟨aq2, cq2, rfl, _, _⟩ := hq2.open
  clear hb hq2
  by_cases hz : n.natAbs / Nat.gcd n.natAbs d = 0
  · have hsa := HZ.out hz
    have hl0 : (natL (n.natAbs / Nat.gcd n.natAbs d)).length = 0 := by rw [hz, natL_zero]; rfl
    subst hsa
    rw [hl0] at HQ1 ⊢
    clear hz hl0
    go_wp2_with (refine wpList_store_at rfl 35 (.tmp 4) (.tmp 39) rfl rfl rfl (F2.out) size35 rfl rfl rfl ?_)
    refine bodyPost_ret (results_at1 rfl rfl (setRow_heap _ _ _ _ _ _ (F2.out)) Try.underlying35 rfl size35 rfl) rfl ?_
    refine ⟨⟨_, rfl, _, _, by rw [HNEG.out], ?_, ?_, by rw [HNUM.out]; exact HK1.out, by rw [HDEN.out]; exact HK2.out⟩, below_setRow HB3.out (by omega) _⟩
    · rw [HNUM.out]; exact HQ1.out.row F2.out (by decide)
    · rw [HDEN.out]; exact HQ2.out.row F2.out (by decide)
  · have hlp : 0 < (natL (n.natAbs / Nat.gcd n.natAbs d)).length := length_pos (Nat.pos_of_ne_zero hz)
    generalize (natL (n.natAbs / Nat.gcd n.natAbs d)).length = nn at *
    clear hz
    cases sa
    all_goals
      go_wp2_with (refine wpList_store_at rfl 35 (.tmp 4) (.tmp 39) rfl rfl rfl (F2.out) size35 rfl rfl rfl ?_)
      refine bodyPost_ret (results_at1 rfl rfl (setRow_heap _ _ _ _ _ _ (F2.out)) Try.underlying35 rfl size35 rfl) rfl ?_
      refine ⟨⟨_, rfl, _, _, by rw [HNEG.out], ?_, ?_, by rw [HNUM.out]; exact HK1.out, by rw [HDEN.out]; exact HK2.out⟩, below_setRow HB3.out (by omega) _⟩
      · rw [HNUM.out]; exact HQ1.out.row F2.out (by decide)
      · rw [HDEN.out]; exact HQ2.out.row F2.out (by decide)
end Go.Proofs.Yteoikaedpgianaa
