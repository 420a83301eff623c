/- The reference's rational numbers: rounded down and up. -/
import Derived.Test.YteoikaedpgianaaRQop
namespace Go.Proofs.Yteoikaedpgianaa
open Go.RowKit Limb

theorem IntAt.row {W : World} {g k : Nat} {v : Value} {z : Int} {t : TypeId} {fr : Nat × Nat} {old cs : Array Value} (h : IntAt W v z k) (hg : W.heap[g]? = some (.cells old t fr)) (ht : t ≠ 3) : IntAt (W.setRow g cs) v z k := by
  obtain ⟨l, h1, h2, h3⟩ := h
  exact ⟨l, h1, h2.row hg ht, h3⟩
theorem IntAt.cells {W : World} {v : Value} {z : Int} {k : Nat} (h : IntAt W v z k) : ∃ cs, v = .agg cs ∧ cs.size = 2 ∧ cs.toList.all (·.oneCell') = true := by
  obtain ⟨_, h1, h2, _⟩ := h
  obtain ⟨_, _, rfl, _, _⟩ := h2.open
  exact ⟨_, h1, rfl, rfl⟩
set_option maxRecDepth 100000 in
set_option maxHeartbeats 800000 in
theorem qfloor_any (q : Rat) (k : Nat) (va : Value) (w : World) (ha : QAt w va q k) (hk : k ≤ 40000) :
    Calls Try.prog 55 #[va] w fun r w' => (∃ v, r = .returned v ∧ IntAt w' v q.floor (k + 2)) ∧ Below w.heap.size w w' := by
  obtain ⟨ln, ld, rfl, hn, hd, hkn, hkd⟩ := ha
  obtain ⟨a, ca, rfl, _, _⟩ := hn.open
  obtain ⟨b, cb, rfl, _, _⟩ := hd.open
  have HFL := hid (Rat.floor_def q)
  have HDN := hid (fun W v v' h h' => down_any q.num q.den k v v' W h h' hk (Nat.pos_of_ne_zero q.den_nz))
  have HIA := hid (show ∀ W, Below w.heap.size w W → IntAt W (.agg #[.bool (decide (q.num < 0)), .slice a (natL q.num.natAbs).length ca]) q.num k from fun W hW => ⟨_, rfl, hn.grow hW, hkn⟩)
  have HID := hid (show ∀ W, Below w.heap.size w W → IntAt W (.agg #[.bool false, .slice b (natL q.den).length cb]) (q.den : Int) k from fun W hW => ⟨_, by rw [nat_sign], by rw [Int.natAbs_natCast]; exact hd.grow hW, by rw [Int.natAbs_natCast]; exact hkd⟩)
  generalize decide (q.num < 0) = s at *
  generalize (natL q.num.natAbs).length = p at *
  generalize (natL q.den).length = r at *
  clear hn hd hkn hkd hk
  go_enter Try.func55, Try.ntmps55
  go_wp2_with fail
  refine (HDN.out _ _ _ (HIA.out _ (by (repeat' (first | (with_reducible exact Below.refl _ _) | (with_reducible assumption) | (with_reducible refine Below.alloc ?_ ?_ _) | (with_reducible refine Below.drew ?_) | (with_reducible refine below_drewN ?_ _) | (with_reducible refine Below.setCell ?_ ?_ _) | (with_reducible refine below_setRow ?_ ?_ _) | go_size)))) (HID.out _ (by (repeat' (first | (with_reducible exact Below.refl _ _) | (with_reducible assumption) | (with_reducible refine Below.alloc ?_ ?_ _) | (with_reducible refine Below.drew ?_) | (with_reducible refine below_drewN ?_ _) | (with_reducible refine Below.setCell ?_ ?_ _) | (with_reducible refine below_setRow ?_ ?_ _) | go_size))))).mono ?_
  rintro r w1 ⟨⟨v, rfl, hv⟩, hb⟩
  have F2 := hid (heap_below hb (by first | (simp; done) | (simp; omega)) (by repeat' (first | (refine heap_alloc_at _ _ _ ?_; (first | rfl | (simp; done) | (simp; omega))) | (refine heap_alloc_past _ _ _ _ ?_))) : w1.heap[w.heap.size + 1]? = some (.cells #[.bool false, .slice none 0 0] 33))
  have HB1 := hid ((by refine Below.trans ?_ (hb.mono ?_); (focus ((repeat' (first | (with_reducible exact Below.refl _ _) | (with_reducible assumption) | (with_reducible refine Below.alloc ?_ ?_ _) | (with_reducible refine Below.drew ?_) | (with_reducible refine below_drewN ?_ _) | (with_reducible refine Below.setCell ?_ ?_ _) | (with_reducible refine below_setRow ?_ ?_ _) | go_size)); done)); (focus (first | (simp; done) | (simp; omega)))) : Below w.heap.size w w1)
  have HV := hid hv
  obtain ⟨cs, rfl, hcs, hco⟩ := hv.cells
  clear hb hv
  go_wp2_with (refine wpList_store_at rfl 33 (.tmp 2) (.tmp 8) rfl rfl rfl (F2.out) size33 hcs rfl hco ?_)
  refine bodyPost_ret (results_at1 rfl rfl (setRow_heap _ _ _ _ _ _ (F2.out)) Try.underlying33 rfl size33 hcs) rfl ?_
  refine ⟨⟨_, rfl, ?_⟩, below_setRow HB1.out (by omega) _⟩
  rw [HFL.out]
  exact HV.out.row F2.out (by decide)
set_option maxRecDepth 100000 in
set_option maxHeartbeats 800000 in
theorem qceil_any (q : Rat) (k : Nat) (va : Value) (w : World) (ha : QAt w va q k) (hk : k ≤ 40000) :
    Calls Try.prog 144 #[va] w fun r w' => (∃ v, r = .returned v ∧ IntAt w' v q.ceil (k + 2)) ∧ Below w.heap.size w w' := by
  obtain ⟨cq, rfl, hcq, hcqo⟩ := ha.cells
  have HA := hid ha
  have HCL := hid (Rat.ceil_eq_neg_floor_neg q)
  have HK := hid hk
  clear ha hk
  match cq, hcq with
  | ⟨[x0, x1, x2]⟩, _ =>
  go_enter Try.func144, Try.ntmps144
  go_wp2_with (refine wpList_load_at rfl 35 (.tmp 1) rfl rfl (heap_alloc_past _ _ _ _ (heap_alloc_at _ _ _ rfl)) Try.underlying35 rfl size35 rfl ?_)
  refine (qminus_any q k _ _ (HA.out.grow (by (repeat' (first | (with_reducible exact Below.refl _ _) | (with_reducible assumption) | (with_reducible refine Below.alloc ?_ ?_ _) | (with_reducible refine Below.drew ?_) | (with_reducible refine below_drewN ?_ _) | (with_reducible refine Below.setCell ?_ ?_ _) | (with_reducible refine below_setRow ?_ ?_ _) | go_size))))).mono ?_
  rintro r w1 ⟨⟨v1, rfl, hv1⟩, hb1⟩
  have F1 := hid (heap_below hb1 (by first | (simp; done) | (simp; omega)) (by repeat' (first | (refine heap_alloc_at _ _ _ ?_; (first | rfl | (simp; done) | (simp; omega))) | (refine heap_alloc_past _ _ _ _ ?_))) : w1.heap[w.heap.size + 1]? = some (.cells #[.bool false, .slice none 0 0] 33))
  have HB1 := hid ((by refine Below.trans ?_ (hb1.mono ?_); (focus ((repeat' (first | (with_reducible exact Below.refl _ _) | (with_reducible assumption) | (with_reducible refine Below.alloc ?_ ?_ _) | (with_reducible refine Below.drew ?_) | (with_reducible refine below_drewN ?_ _) | (with_reducible refine Below.setCell ?_ ?_ _) | (with_reducible refine below_setRow ?_ ?_ _) | go_size)); done)); (focus (first | (simp; done) | (simp; omega)))) : Below w.heap.size w w1)
  have HV1 := hid hv1
  clear hb1 hv1
  go_wp2_with fail
  refine (qfloor_any (-q) k _ _ HV1.out HK.out).mono ?_
  rintro r w2 ⟨⟨v2, rfl, hv2⟩, hb2⟩
  have F2 := hid (heap_still hb2 F1.out)
  have HB2 := hid (HB1.out.trans (hb2.mono HB1.out.size))
  have HV2 := hid hv2
  clear hb2 hv2
  go_wp2_with fail
  refine (iminus_any (-q).floor (k + 2) _ _ HV2.out).mono ?_
  rintro r w3 ⟨⟨v3, rfl, hv3⟩, hb3⟩
  have F3 := hid (heap_still hb3 F2.out)
  have HB3 := hid (HB2.out.trans (hb3.mono HB2.out.size))
  have HV3 := hid hv3
  obtain ⟨cs, rfl, hcs, hco⟩ := hv3.cells
  clear hb3 hv3
  go_wp2_with (refine wpList_store_at rfl 33 (.tmp 2) (.tmp 6) rfl rfl rfl (F3.out) size33 hcs rfl hco ?_)
  refine bodyPost_ret (results_at1 rfl rfl (setRow_heap _ _ _ _ _ _ (F3.out)) Try.underlying33 rfl size33 hcs) rfl ?_
  refine ⟨⟨_, rfl, ?_⟩, below_setRow HB3.out (by omega) _⟩
  rw [HCL.out]
  exact HV3.out.row F3.out (by decide)
end Go.Proofs.Yteoikaedpgianaa
