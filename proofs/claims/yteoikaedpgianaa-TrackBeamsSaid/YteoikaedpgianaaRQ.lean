/- The reference's integers and rational numbers: negation, rounding, conversion. -/
import Derived.Test.YteoikaedpgianaaRFrac
namespace Go.Proofs.Yteoikaedpgianaa
open Go.RowKit Limb

theorem neg_sign {a : Int} : decide (-a < 0) = (!decide (a < 0) && decide (a.natAbs ≠ 0)) := by
  by_cases h1 : a < 0 <;> by_cases h2 : a = 0 <;> simp [h1, h2] <;> omega
set_option maxRecDepth 100000 in
theorem iminus_any (a : Int) (k : Nat) (va : Value) (w : World) (ha : IntAt w va a k) :
    Calls Try.prog 158 #[va] w fun r w' => (∃ v, r = .returned v ∧ IntAt w' v (-a) k) ∧ Below w.heap.size w w' := by
  obtain ⟨la, rfl, hna, hla⟩ := ha
  obtain ⟨la, ca, rfl, _, _⟩ := NatAt.open hna
  have HSG := hid (@neg_sign a)
  have HK := hid hla
  have HNA := hid (fun o o' => hna.grow (((Below.refl w.heap.size w).alloc (Nat.le_refl _) o).alloc (by simp) o'))
  clear hna hla
  by_cases hz : a.natAbs = 0
  · have hl0 : (natL a.natAbs).length = 0 := by rw [hz, natL_zero]; rfl
    have HZ := hid (show decide (-a < 0) = false by rw [HSG.out, hz]; simp)
    rw [hl0] at HNA ⊢
    generalize decide (a < 0) = sa at *
    clear hl0 hz HSG
    cases sa
    all_goals
      go_enter Try.func158, Try.ntmps158
      go_wp2_with (refine wpList_store_at rfl 33 (.tmp 2) (.tmp 14) rfl rfl rfl ((heap_alloc_at _ _ _ (by simp))) size33 rfl rfl rfl ?_)
      refine bodyPost_ret (results_at1 rfl rfl (setRow_heap _ _ _ _ _ _ ((heap_alloc_at _ _ _ (by simp)))) Try.underlying33 rfl size33 rfl) rfl ?_
      refine ⟨⟨_, rfl, _, by rw [HZ.out], ?_, by rw [Int.natAbs_neg]; exact HK.out⟩, ?_⟩
      · rw [Int.natAbs_neg]
        exact (HNA.out _ _).row (t := 33) (by repeat' (first | (refine heap_alloc_at _ _ _ ?_; (first | rfl | (simp; done) | (simp; omega))) | (refine heap_alloc_past _ _ _ _ ?_))) (by decide)
      · refine below_setRow (by (repeat' (first | (with_reducible exact Below.refl _ _) | (with_reducible assumption) | (with_reducible refine Below.alloc ?_ ?_ _) | (with_reducible refine Below.drew ?_) | (with_reducible refine below_drewN ?_ _) | (with_reducible refine Below.setCell ?_ ?_ _) | (with_reducible refine below_setRow ?_ ?_ _) | go_size))) (by omega) _
  · have hlp : 0 < (natL a.natAbs).length := length_pos (Nat.pos_of_ne_zero hz)
    have HZ := hid (show decide (-a < 0) = !decide (a < 0) by rw [HSG.out]; simp [hz])
    generalize decide (a < 0) = sa at *
    generalize (natL a.natAbs).length = n at *
    clear hz HSG
    cases sa
    all_goals
      go_enter Try.func158, Try.ntmps158
      go_wp2_with (refine wpList_store_at rfl 33 (.tmp 2) (.tmp 14) rfl rfl rfl ((heap_alloc_at _ _ _ (by simp))) size33 rfl rfl rfl ?_)
      refine bodyPost_ret (results_at1 rfl rfl (setRow_heap _ _ _ _ _ _ ((heap_alloc_at _ _ _ (by simp)))) Try.underlying33 rfl size33 rfl) rfl ?_
      refine ⟨⟨_, rfl, _, by rw [HZ.out]; rfl, ?_, by rw [Int.natAbs_neg]; exact HK.out⟩, ?_⟩
      · rw [Int.natAbs_neg]
        exact (HNA.out _ _).row (t := 33) (by repeat' (first | (refine heap_alloc_at _ _ _ ?_; (first | rfl | (simp; done) | (simp; omega))) | (refine heap_alloc_past _ _ _ _ ?_))) (by decide)
      · refine below_setRow (by (repeat' (first | (with_reducible exact Below.refl _ _) | (with_reducible assumption) | (with_reducible refine Below.alloc ?_ ?_ _) | (with_reducible refine Below.drew ?_) | (with_reducible refine below_drewN ?_ _) | (with_reducible refine Below.setCell ?_ ?_ _) | (with_reducible refine below_setRow ?_ ?_ _) | go_size))) (by omega) _

theorem nat_sign (x : Nat) : decide ((x : Int) < 0) = false := by simp
theorem down_lt {a : Int} {d : Nat} (hd : 0 < d) (ha : a < 0) : decide (a / (d : Int) < 0) = true := by
  simp only [decide_eq_true_eq]
  exact Int.ediv_neg_of_neg_of_pos ha (by omega)
set_option maxRecDepth 100000 in
set_option maxHeartbeats 800000 in
theorem down_any (a : Int) (d k : Nat) (va vb : Value) (w : World) (ha : IntAt w va a k) (hb : IntAt w vb (d : Int) k) (hk : k ≤ 40000) (hd : 0 < d) :
    Calls Try.prog 105 #[va, vb] w fun r w' => (∃ v, r = .returned v ∧ IntAt w' v (a / (d : Int)) (k + 2)) ∧ Below w.heap.size w w' := by
  obtain ⟨la, rfl, hna, hla⟩ := ha
  obtain ⟨la, ca, rfl, _, _⟩ := NatAt.open hna
  obtain ⟨lb, rfl, hnb, hlb⟩ := hb
  obtain ⟨lb, cb, rfl, _, _⟩ := NatAt.open hnb
  rw [Int.natAbs_natCast] at hnb hlb ⊢
  rw [show decide ((d : Int) < 0) = false by simp]
  have HD := hid (fun w hx hy => divide_any a.natAbs d (.slice la (natL a.natAbs).length ca) (.slice lb (natL d).length cb) w hx hy (hla.wide (by omega)).le hd)
  have HK1 := hid (show LenLe (a.natAbs / d) k from hla.mono (Nat.div_le_self _ _))
  have HKK := hid hk
  have HNA := hid hna
  have HNB := hid hnb
  have HP := hid (fun h => @down_pos a d h)
  have HN := hid (fun h => @down_neg a d hd h)
  have HS := hid (show decide (a < 0) = true → a < 0 by simp)
  have HS' := hid (show decide (a < 0) = false → 0 ≤ a by simp)
  have HLT := hid (fun h => @down_lt a d hd h)
  have HZ := hid (show a < 0 → a.natAbs % d = 0 → 0 < a.natAbs / d by
    intro h h2
    have h3 := Nat.div_add_mod a.natAbs d
    rcases Nat.eq_zero_or_pos (a.natAbs / d) with h4 | h4
    · rw [h4, h2] at h3; simp at h3; omega
    · exact h4)
  clear hna hnb hla hlb hk hd
  generalize decide (a < 0) = sa at *
  generalize (natL a.natAbs).length = p at *
  generalize (natL d).length = q at *
  go_enter Try.func105, Try.ntmps105
  go_wp2_with fail
  have F0 := hid (show (((w.alloc (.cells #[.bool sa, .slice la p ca] 33)).alloc (.cells #[.bool false, .slice lb q cb] 33)).alloc (.cells #[.bool false, .slice none 0 0] 33)).heap[w.heap.size]? = some (.cells #[.bool sa, .slice la p ca] 33) from (by repeat' (first | (refine heap_alloc_at _ _ _ ?_; (first | rfl | (simp; done) | (simp; omega))) | (refine heap_alloc_past _ _ _ _ ?_))))
  have F2 := hid (show (((w.alloc (.cells #[.bool sa, .slice la p ca] 33)).alloc (.cells #[.bool false, .slice lb q cb] 33)).alloc (.cells #[.bool false, .slice none 0 0] 33)).heap[w.heap.size + 1 + 1]? = some (.cells #[.bool false, .slice none 0 0] 33) from (by repeat' (first | (refine heap_alloc_at _ _ _ ?_; (first | rfl | (simp; done) | (simp; omega))) | (refine heap_alloc_past _ _ _ _ ?_))))
  refine (HD.out _ (HNA.out.grow (by (repeat' (first | (with_reducible exact Below.refl _ _) | (with_reducible assumption) | (with_reducible refine Below.alloc ?_ ?_ _) | (with_reducible refine Below.drew ?_) | (with_reducible refine below_drewN ?_ _) | (with_reducible refine Below.setCell ?_ ?_ _) | (with_reducible refine below_setRow ?_ ?_ _) | go_size)))) (HNB.out.grow (by (repeat' (first | (with_reducible exact Below.refl _ _) | (with_reducible assumption) | (with_reducible refine Below.alloc ?_ ?_ _) | (with_reducible refine Below.drew ?_) | (with_reducible refine below_drewN ?_ _) | (with_reducible refine Below.setCell ?_ ?_ _) | (with_reducible refine below_setRow ?_ ?_ _) | go_size))))).mono ?_
  rintro r w1 ⟨⟨qv, sv, rfl, hq, hs⟩, hb⟩
  have HB1 := hid ((by refine Below.trans ?_ (hb.mono ?_); (focus ((repeat' (first | (with_reducible exact Below.refl _ _) | (with_reducible assumption) | (with_reducible refine Below.alloc ?_ ?_ _) | (with_reducible refine Below.drew ?_) | (with_reducible refine below_drewN ?_ _) | (with_reducible refine Below.setCell ?_ ?_ _) | (with_reducible refine below_setRow ?_ ?_ _) | go_size)); done)); (focus (first | (simp; done) | (simp; omega)))) : Below w.heap.size w w1)
  replace F0 := hid (heap_below hb (by first | (simp; done) | (simp; omega)) F0.out)
  replace F2 := hid (heap_below hb (by first | (simp; done) | (simp; omega)) F2.out)
  have c0 : w1.cell? ⟨w.heap.size, 0, none⟩ = some (.bool sa) := (cell_row (j := 0) F0.out).trans rfl
  have HQ := hid hq
  obtain ⟨aq, cq, rfl, _, _⟩ := hq.open
  obtain ⟨a9, c9, rfl, _, _⟩ := hs.open
  clear hb hq hs
  have hsz := HB1.out.size
  cases hsa : sa
  · subst hsa
    have HP2 := hid (HP.out (HS'.out rfl))
    generalize (natL (a.natAbs / d)).length = n1 at *
    go_wp2_with (refine wpList_store_at rfl 33 (.tmp 4) (.tmp 19) rfl rfl rfl (F2.out) size33 rfl rfl rfl ?_)
    refine bodyPost_ret (results_at1 rfl rfl (setRow_heap _ _ _ _ _ _ (F2.out)) Try.underlying33 rfl size33 rfl) rfl ?_
    refine ⟨⟨_, rfl, _, by rw [HP2.out, nat_sign], ?_, by rw [HP2.out, Int.natAbs_natCast]; exact HK1.out.wide (by omega)⟩, below_setRow HB1.out (by omega) _⟩
    rw [HP2.out, Int.natAbs_natCast]
    exact HQ.out.row F2.out (by decide)
  · subst hsa
    have hneg := HS.out rfl
    have HL := hid (HLT.out hneg)
    by_cases hr : a.natAbs % d = 0
    · have hl0 : (natL (a.natAbs % d)).length = 0 := by rw [hr, natL_zero]; rfl
      have hlp : 0 < (natL (a.natAbs / d)).length := length_pos (HZ.out hneg hr)
      have HV := hid (show (a / (d : Int)).natAbs = a.natAbs / d by rw [HN.out hneg, if_pos hr, Int.natAbs_neg, Int.natAbs_natCast, Nat.add_zero])
      rw [hl0]
      generalize (natL (a.natAbs / d)).length = n1 at *
      clear hr hl0 hneg
      go_wp2_with (refine wpList_store_at rfl 33 (.tmp 4) (.tmp 30) rfl rfl rfl (F2.out) size33 rfl rfl rfl ?_)
      refine bodyPost_ret (results_at1 rfl rfl (setRow_heap _ _ _ _ _ _ (F2.out)) Try.underlying33 rfl size33 rfl) rfl ?_
      refine ⟨⟨_, rfl, _, by rw [HL.out], ?_, by rw [HV.out]; exact HK1.out.wide (by omega)⟩, below_setRow HB1.out (by omega) _⟩
      rw [HV.out]
      exact HQ.out.row F2.out (by decide)
    · have hlp : 0 < (natL (a.natAbs % d)).length := length_pos (Nat.pos_of_ne_zero hr)
      have HV := hid (show (a / (d : Int)).natAbs = a.natAbs / d + 1 by rw [HN.out hneg, if_neg hr, Int.natAbs_neg, Int.natAbs_natCast])
      generalize (natL (a.natAbs % d)).length = n2 at *
      have HPL := hid (fun w vb hx hy => plus_any (a.natAbs / d) 1 (.slice aq (natL (a.natAbs / d)).length cq) vb w hx hy (HK1.out.wide (by have := HKK.out; omega)).le (by rw [natL_single (by decide) (by decide)]; decide))
      generalize (natL (a.natAbs / d)).length = n1 at *
      clear hr hneg
      go_wp2_with fail
      have hb0 := (Below.refl w1.heap.size w1).alloc (Nat.le_refl _) (.cells #[.int .i64 1] 3)
      refine (HPL.out _ _ (HQ.out.grow hb0) (nat_limb (x := 1) rfl (by decide) (by decide) (by repeat' (first | (refine heap_alloc_at _ _ _ ?_; (first | rfl | (simp; done) | (simp; omega))) | (refine heap_alloc_past _ _ _ _ ?_))))).mono ?_
      rintro r w2 ⟨⟨pv, rfl, hp⟩, hb⟩
      have hbb := hb0.trans (hb.mono (by simp))
      have HB2 := hid (HB1.out.trans (hbb.mono hsz))
      clear c0
      replace F0 := hid (heap_still hbb F0.out)
      replace F2 := hid (heap_still hbb F2.out)
      have c0 : w2.cell? ⟨w.heap.size, 0, none⟩ = some (.bool true) := (cell_row (j := 0) F0.out).trans rfl
      have HPP := hid hp
      obtain ⟨ap, cp, rfl, _, _⟩ := own_open hp
      have hlp2 : 0 < (natL (a.natAbs / d + 1)).length := length_pos (Nat.succ_pos _)
      generalize (natL (a.natAbs / d + 1)).length = n3 at *
      clear hb0 hb hbb hp
      go_wp2_with (refine wpList_store_at rfl 33 (.tmp 4) (.tmp 30) rfl rfl rfl (F2.out) size33 rfl rfl rfl ?_)
      refine bodyPost_ret (results_at1 rfl rfl (setRow_heap _ _ _ _ _ _ (F2.out)) Try.underlying33 rfl size33 rfl) rfl ?_
      refine ⟨⟨_, rfl, _, by rw [HL.out], ?_, by rw [HV.out]; exact natL_add HK1.out (show LenLe 1 1 by unfold LenLe; rw [natL_single (by decide) (by decide)]; decide)⟩, below_setRow HB2.out (by omega) _⟩
      rw [HV.out]
      exact HPP.out.at.row F2.out (by decide)
end Go.Proofs.Yteoikaedpgianaa
