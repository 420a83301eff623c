/- The law's own value of a motion with a constant acceleration: what quad returns. -/
import Derived.Test.YteoikaedpgianaaRAdd
import Derived.Test.YteoikaedpgianaaNav
namespace Go.Proofs.Yteoikaedpgianaa
open Go.RowKit Limb

def quadQ (p q k d x : Int) : Rat :=
  ((p : Rat) * ((d - x : Int) : Rat) + (q : Rat) * (x : Rat)) / (d : Rat) + (k : Rat) * (x : Rat) * ((x - d : Int) : Rat) / ((2000000000000 : Int) : Rat)
theorem heap_still9 {w1 w2 w3 w4 w5 w6 w7 w8 w9 : World} (h2 : Below w1.heap.size w1 w2) (h3 : Below w2.heap.size w2 w3) (h4 : Below w3.heap.size w3 w4) (h5 : Below w4.heap.size w4 w5) (h6 : Below w5.heap.size w5 w6) (h7 : Below w6.heap.size w6 w7)
    (h8 : Below w7.heap.size w7 w8) (h9 : Below w8.heap.size w8 w9) : ∀ (n : Nat) (x : Obj), w1.heap[n]? = some x → w9.heap[n]? = some x :=
  fun _ _ h => heap_still h9 (heap_still h8 (heap_still h7 (heap_still h6 (heap_still h5 (heap_still h4 (heap_still h3 (heap_still h2 h)))))))
set_option maxRecDepth 100000 in
set_option maxHeartbeats 1600000 in
theorem quad_any (p q k d x : Int) (w : World) (hp : -1000000000 ≤ p ∧ p ≤ 1000000000) (hq : -1000000000 ≤ q ∧ q ≤ 1000000000) (hk : -1000000000 ≤ k ∧ k ≤ 1000000000) (hx : 0 ≤ x ∧ x ≤ d) (hd : 0 < d ∧ d ≤ 1000000000) :
    Calls Try.prog 59 #[.int .i64 p, .int .i64 q, .int .i64 k, .int .i64 d, .int .i64 x] w fun r w' => (∃ v, r = .returned v ∧ QAt w' v (quadQ p q k d x) 265) ∧ Below w.heap.size w w' := by
  have HW := hid (fun (z : Int) (hz : -4000000000000 ≤ z ∧ z ≤ 4000000000000) W => whole_any z W (by omega))
  have hd0 : (d : Rat) ≠ 0 := fun h => by have := Rat.intCast_eq_zero_iff.1 h; omega
  have he0 : ((2000000000000 : Int) : Rat) ≠ 0 := fun h => by have := Rat.intCast_eq_zero_iff.1 h; omega
  have HD0 := hid hd0
  have HE0 := hid he0
  clear hd0 he0
  have HBw := hid (Below.refl w.heap.size w)
  go_enter Try.func59, Try.ntmps59
  go_wp2_with fail
  refine (HW.out p (by omega) _).mono ?_
  rintro r w1 ⟨⟨v1, rfl, hq⟩, hb⟩
  have HBw1 := hid (show Below w.heap.size w w1 by have hB0 := HBw.out; have hB1 := hB0.size; refine Below.trans ?_ (hb.mono ?_); (focus ((repeat' (first | (with_reducible exact Below.refl _ _) | (with_reducible assumption) | (with_reducible refine Below.alloc ?_ ?_ _) | (with_reducible refine Below.drew ?_) | (with_reducible refine below_drewN ?_ _) | (with_reducible refine Below.setCell ?_ ?_ _) | (with_reducible refine below_setRow ?_ ?_ _) | go_size)); done)); (focus (first | (simp; done) | (simp; omega) | (have hB1 := hB0.size; simp; omega))))
  have HQv1 := hid hq
  have hnw1 := hid hb
  clear hq hb
  have R1 := hid (heap_still hnw1.out (heap_alloc_at w (.cells #[.bool false, .slice none 0 0, .slice none 0 0] 35) _ rfl))
  go_wp2_with fail
  refine (HW.out (d - x) (by omega) _).mono ?_
  rintro r w2 ⟨⟨v2, rfl, hq⟩, hb⟩
  have HBw2 := hid (show Below w.heap.size w w2 by have hB0 := HBw1.out; have hB1 := hB0.size; refine Below.trans ?_ (hb.mono ?_); (focus ((repeat' (first | (with_reducible exact Below.refl _ _) | (with_reducible assumption) | (with_reducible refine Below.alloc ?_ ?_ _) | (with_reducible refine Below.drew ?_) | (with_reducible refine below_drewN ?_ _) | (with_reducible refine Below.setCell ?_ ?_ _) | (with_reducible refine below_setRow ?_ ?_ _) | go_size)); done)); (focus (first | (simp; done) | (simp; omega) | (have hB1 := hB0.size; simp; omega))))
  have HQv2 := hid hq
  have hnw2 := hid hb
  clear hq hb
  have HQv1 := hid (HQv1.out.grow hnw2.out)
  go_wp2_with fail
  refine (qmul_any _ _ 4 _ _ _ HQv1.out HQv2.out (by decide)).mono ?_
  rintro r w3 ⟨⟨v3, rfl, hq⟩, hb⟩
  have HBw3 := hid (show Below w.heap.size w w3 by have hB0 := HBw2.out; have hB1 := hB0.size; refine Below.trans ?_ (hb.mono ?_); (focus ((repeat' (first | (with_reducible exact Below.refl _ _) | (with_reducible assumption) | (with_reducible refine Below.alloc ?_ ?_ _) | (with_reducible refine Below.drew ?_) | (with_reducible refine below_drewN ?_ _) | (with_reducible refine Below.setCell ?_ ?_ _) | (with_reducible refine below_setRow ?_ ?_ _) | go_size)); done)); (focus (first | (simp; done) | (simp; omega) | (have hB1 := hB0.size; simp; omega))))
  have HQv3 := hid hq
  have hnw3 := hid hb
  clear hq hb
  go_wp2_with fail
  refine (HW.out q (by omega) _).mono ?_
  rintro r w4 ⟨⟨v4, rfl, hq⟩, hb⟩
  have HBw4 := hid (show Below w.heap.size w w4 by have hB0 := HBw3.out; have hB1 := hB0.size; refine Below.trans ?_ (hb.mono ?_); (focus ((repeat' (first | (with_reducible exact Below.refl _ _) | (with_reducible assumption) | (with_reducible refine Below.alloc ?_ ?_ _) | (with_reducible refine Below.drew ?_) | (with_reducible refine below_drewN ?_ _) | (with_reducible refine Below.setCell ?_ ?_ _) | (with_reducible refine below_setRow ?_ ?_ _) | go_size)); done)); (focus (first | (simp; done) | (simp; omega) | (have hB1 := hB0.size; simp; omega))))
  have HQv4 := hid hq
  have hnw4 := hid hb
  clear hq hb
  have HQv3 := hid (HQv3.out.grow hnw4.out)
  go_wp2_with fail
  refine (HW.out x (by omega) _).mono ?_
  rintro r w5 ⟨⟨v5, rfl, hq⟩, hb⟩
  have HBw5 := hid (show Below w.heap.size w w5 by have hB0 := HBw4.out; have hB1 := hB0.size; refine Below.trans ?_ (hb.mono ?_); (focus ((repeat' (first | (with_reducible exact Below.refl _ _) | (with_reducible assumption) | (with_reducible refine Below.alloc ?_ ?_ _) | (with_reducible refine Below.drew ?_) | (with_reducible refine below_drewN ?_ _) | (with_reducible refine Below.setCell ?_ ?_ _) | (with_reducible refine below_setRow ?_ ?_ _) | go_size)); done)); (focus (first | (simp; done) | (simp; omega) | (have hB1 := hB0.size; simp; omega))))
  have HQv5 := hid hq
  have hnw5 := hid hb
  clear hq hb
  have HQv3 := hid (HQv3.out.grow hnw5.out)
  have HQv4 := hid (HQv4.out.grow hnw5.out)
  go_wp2_with fail
  refine (qmul_any _ _ 4 _ _ _ HQv4.out HQv5.out (by decide)).mono ?_
  rintro r w6 ⟨⟨v6, rfl, hq⟩, hb⟩
  have HBw6 := hid (show Below w.heap.size w w6 by have hB0 := HBw5.out; have hB1 := hB0.size; refine Below.trans ?_ (hb.mono ?_); (focus ((repeat' (first | (with_reducible exact Below.refl _ _) | (with_reducible assumption) | (with_reducible refine Below.alloc ?_ ?_ _) | (with_reducible refine Below.drew ?_) | (with_reducible refine below_drewN ?_ _) | (with_reducible refine Below.setCell ?_ ?_ _) | (with_reducible refine below_setRow ?_ ?_ _) | go_size)); done)); (focus (first | (simp; done) | (simp; omega) | (have hB1 := hB0.size; simp; omega))))
  have HQv6 := hid hq
  have hnw6 := hid hb
  clear hq hb
  have HQv3 := hid (HQv3.out.grow hnw6.out)
  go_wp2_with fail
  refine (qadd_any _ _ 8 _ _ _ HQv3.out HQv6.out (by decide)).mono ?_
  rintro r w7 ⟨⟨v7, rfl, hq⟩, hb⟩
  have HBw7 := hid (show Below w.heap.size w w7 by have hB0 := HBw6.out; have hB1 := hB0.size; refine Below.trans ?_ (hb.mono ?_); (focus ((repeat' (first | (with_reducible exact Below.refl _ _) | (with_reducible assumption) | (with_reducible refine Below.alloc ?_ ?_ _) | (with_reducible refine Below.drew ?_) | (with_reducible refine below_drewN ?_ _) | (with_reducible refine Below.setCell ?_ ?_ _) | (with_reducible refine below_setRow ?_ ?_ _) | go_size)); done)); (focus (first | (simp; done) | (simp; omega) | (have hB1 := hB0.size; simp; omega))))
  have HQv7 := hid hq
  have hnw7 := hid hb
  clear hq hb
  go_wp2_with fail
  refine (HW.out d (by omega) _).mono ?_
  rintro r w8 ⟨⟨v8, rfl, hq⟩, hb⟩
  have HBw8 := hid (show Below w.heap.size w w8 by have hB0 := HBw7.out; have hB1 := hB0.size; refine Below.trans ?_ (hb.mono ?_); (focus ((repeat' (first | (with_reducible exact Below.refl _ _) | (with_reducible assumption) | (with_reducible refine Below.alloc ?_ ?_ _) | (with_reducible refine Below.drew ?_) | (with_reducible refine below_drewN ?_ _) | (with_reducible refine Below.setCell ?_ ?_ _) | (with_reducible refine below_setRow ?_ ?_ _) | go_size)); done)); (focus (first | (simp; done) | (simp; omega) | (have hB1 := hB0.size; simp; omega))))
  have HQv8 := hid hq
  have hnw8 := hid hb
  clear hq hb
  have HQv7 := hid (HQv7.out.grow hnw8.out)
  go_wp2_with fail
  refine (qdiv_any _ _ 33 _ _ _ HQv7.out (HQv8.out.wide (by decide)) (by decide) HD0.out).mono ?_
  rintro r w9 ⟨⟨v9, rfl, hq⟩, hb⟩
  have HBw9 := hid (show Below w.heap.size w w9 by have hB0 := HBw8.out; have hB1 := hB0.size; refine Below.trans ?_ (hb.mono ?_); (focus ((repeat' (first | (with_reducible exact Below.refl _ _) | (with_reducible assumption) | (with_reducible refine Below.alloc ?_ ?_ _) | (with_reducible refine Below.drew ?_) | (with_reducible refine below_drewN ?_ _) | (with_reducible refine Below.setCell ?_ ?_ _) | (with_reducible refine below_setRow ?_ ?_ _) | go_size)); done)); (focus (first | (simp; done) | (simp; omega) | (have hB1 := hB0.size; simp; omega))))
  have HQv9 := hid hq
  have hnw9 := hid hb
  clear hq hb
  obtain ⟨cs9, rfl, hs9, ho9⟩ := HQv9.out.cells
  go_wp2_with (refine wpList_store_new rfl 35 (.tmp 11) (.tmp 28) rfl rfl rfl rfl size35 hs9 rfl ho9 ?_)
  have hx := hid (heap_still9 hnw2.out hnw3.out hnw4.out hnw5.out hnw6.out hnw7.out hnw8.out hnw9.out)
  have R9 := hid (hx.out _ _ R1.out)
  refine (HW.out k (by omega) _).mono ?_
  rintro r w10 ⟨⟨v10, rfl, hq⟩, hb⟩
  have HBw10 := hid (show Below w.heap.size w w10 by have hB0 := HBw9.out; have hB1 := hB0.size; refine Below.trans ?_ (hb.mono ?_); (focus ((repeat' (first | (with_reducible exact Below.refl _ _) | (with_reducible assumption) | (with_reducible refine Below.alloc ?_ ?_ _) | (with_reducible refine Below.drew ?_) | (with_reducible refine below_drewN ?_ _) | (with_reducible refine Below.setCell ?_ ?_ _) | (with_reducible refine below_setRow ?_ ?_ _) | go_size)); done)); (focus (first | (simp; done) | (simp; omega) | (have hB1 := hB0.size; simp; omega))))
  have HQv10 := hid hq
  have hnw10 := hid hb
  clear hq hb
  have S9 := hid (heap_still hnw10.out (heap_alloc_at w9 (.cells cs9 35) _ rfl))
  have R10 := hid (heap_still hnw10.out (heap_alloc_past w9 (.cells cs9 35) _ _ R9.out))
  have HQv9 := hid ((HQv9.out.grow ((Below.refl _ _).alloc (Nat.le_refl _) _)).grow hnw10.out)
  go_wp2_with fail
  refine (HW.out x (by omega) _).mono ?_
  rintro r w11 ⟨⟨v11, rfl, hq⟩, hb⟩
  have HBw11 := hid (show Below w.heap.size w w11 by have hB0 := HBw10.out; have hB1 := hB0.size; refine Below.trans ?_ (hb.mono ?_); (focus ((repeat' (first | (with_reducible exact Below.refl _ _) | (with_reducible assumption) | (with_reducible refine Below.alloc ?_ ?_ _) | (with_reducible refine Below.drew ?_) | (with_reducible refine below_drewN ?_ _) | (with_reducible refine Below.setCell ?_ ?_ _) | (with_reducible refine below_setRow ?_ ?_ _) | go_size)); done)); (focus (first | (simp; done) | (simp; omega) | (have hB1 := hB0.size; simp; omega))))
  have HQv11 := hid hq
  have hnw11 := hid hb
  clear hq hb
  have HQv9 := hid (HQv9.out.grow hnw11.out)
  have HQv10 := hid (HQv10.out.grow hnw11.out)
  go_wp2_with fail
  refine (qmul_any _ _ 4 _ _ _ HQv10.out HQv11.out (by decide)).mono ?_
  rintro r w12 ⟨⟨v12, rfl, hq⟩, hb⟩
  have HBw12 := hid (show Below w.heap.size w w12 by have hB0 := HBw11.out; have hB1 := hB0.size; refine Below.trans ?_ (hb.mono ?_); (focus ((repeat' (first | (with_reducible exact Below.refl _ _) | (with_reducible assumption) | (with_reducible refine Below.alloc ?_ ?_ _) | (with_reducible refine Below.drew ?_) | (with_reducible refine below_drewN ?_ _) | (with_reducible refine Below.setCell ?_ ?_ _) | (with_reducible refine below_setRow ?_ ?_ _) | go_size)); done)); (focus (first | (simp; done) | (simp; omega) | (have hB1 := hB0.size; simp; omega))))
  have HQv12 := hid hq
  have hnw12 := hid hb
  clear hq hb
  have HQv9 := hid (HQv9.out.grow hnw12.out)
  go_wp2_with fail
  refine (HW.out (x - d) (by omega) _).mono ?_
  rintro r w13 ⟨⟨v13, rfl, hq⟩, hb⟩
  have HBw13 := hid (show Below w.heap.size w w13 by have hB0 := HBw12.out; have hB1 := hB0.size; refine Below.trans ?_ (hb.mono ?_); (focus ((repeat' (first | (with_reducible exact Below.refl _ _) | (with_reducible assumption) | (with_reducible refine Below.alloc ?_ ?_ _) | (with_reducible refine Below.drew ?_) | (with_reducible refine below_drewN ?_ _) | (with_reducible refine Below.setCell ?_ ?_ _) | (with_reducible refine below_setRow ?_ ?_ _) | go_size)); done)); (focus (first | (simp; done) | (simp; omega) | (have hB1 := hB0.size; simp; omega))))
  have HQv13 := hid hq
  have hnw13 := hid hb
  clear hq hb
  have HQv9 := hid (HQv9.out.grow hnw13.out)
  have HQv12 := hid (HQv12.out.grow hnw13.out)
  go_wp2_with fail
  refine (qmul_any _ _ 8 _ _ _ HQv12.out (HQv13.out.wide (by decide)) (by decide)).mono ?_
  rintro r w14 ⟨⟨v14, rfl, hq⟩, hb⟩
  have HBw14 := hid (show Below w.heap.size w w14 by have hB0 := HBw13.out; have hB1 := hB0.size; refine Below.trans ?_ (hb.mono ?_); (focus ((repeat' (first | (with_reducible exact Below.refl _ _) | (with_reducible assumption) | (with_reducible refine Below.alloc ?_ ?_ _) | (with_reducible refine Below.drew ?_) | (with_reducible refine below_drewN ?_ _) | (with_reducible refine Below.setCell ?_ ?_ _) | (with_reducible refine below_setRow ?_ ?_ _) | go_size)); done)); (focus (first | (simp; done) | (simp; omega) | (have hB1 := hB0.size; simp; omega))))
  have HQv14 := hid hq
  have hnw14 := hid hb
  clear hq hb
  have HQv9 := hid (HQv9.out.grow hnw14.out)
  go_wp2_with fail
  refine (HW.out 2000000000000 (by decide) _).mono ?_
  rintro r w15 ⟨⟨v15, rfl, hq⟩, hb⟩
  have HBw15 := hid (show Below w.heap.size w w15 by have hB0 := HBw14.out; have hB1 := hB0.size; refine Below.trans ?_ (hb.mono ?_); (focus ((repeat' (first | (with_reducible exact Below.refl _ _) | (with_reducible assumption) | (with_reducible refine Below.alloc ?_ ?_ _) | (with_reducible refine Below.drew ?_) | (with_reducible refine below_drewN ?_ _) | (with_reducible refine Below.setCell ?_ ?_ _) | (with_reducible refine below_setRow ?_ ?_ _) | go_size)); done)); (focus (first | (simp; done) | (simp; omega) | (have hB1 := hB0.size; simp; omega))))
  have HQv15 := hid hq
  have hnw15 := hid hb
  clear hq hb
  have HQv9 := hid (HQv9.out.grow hnw15.out)
  have HQv14 := hid (HQv14.out.grow hnw15.out)
  go_wp2_with fail
  refine (qdiv_any _ _ 16 _ _ _ HQv14.out (HQv15.out.wide (by decide)) (by decide) HE0.out).mono ?_
  rintro r w16 ⟨⟨v16, rfl, hq⟩, hb⟩
  have HBw16 := hid (show Below w.heap.size w w16 by have hB0 := HBw15.out; have hB1 := hB0.size; refine Below.trans ?_ (hb.mono ?_); (focus ((repeat' (first | (with_reducible exact Below.refl _ _) | (with_reducible assumption) | (with_reducible refine Below.alloc ?_ ?_ _) | (with_reducible refine Below.drew ?_) | (with_reducible refine below_drewN ?_ _) | (with_reducible refine Below.setCell ?_ ?_ _) | (with_reducible refine below_setRow ?_ ?_ _) | go_size)); done)); (focus (first | (simp; done) | (simp; omega) | (have hB1 := hB0.size; simp; omega))))
  have HQv16 := hid hq
  have hnw16 := hid hb
  clear hq hb
  have HQv9 := hid (HQv9.out.grow hnw16.out)
  obtain ⟨cs16, rfl, hs16, ho16⟩ := HQv16.out.cells
  have S16 := hid (heap_still hnw16.out (heap_still hnw15.out (heap_still hnw14.out (heap_still hnw13.out (heap_still hnw12.out (heap_still hnw11.out S9.out))))))
  have R16 := hid (heap_still hnw16.out (heap_still hnw15.out (heap_still hnw14.out (heap_still hnw13.out (heap_still hnw12.out (heap_still hnw11.out R10.out))))))
  go_wp2_with (first | (refine wpList_store_new rfl 35 (.tmp 12) (.tmp 40) rfl rfl rfl rfl size35 hs16 rfl ho16 ?_) | (refine wpList_load_at rfl 35 (.tmp 11) rfl rfl (heap_alloc_past _ _ _ _ S16.out) Try.underlying35 rfl size35 hs9 ?_) | (refine wpList_load_at rfl 35 (.tmp 12) rfl rfl (heap_alloc_at _ _ _ rfl) Try.underlying35 rfl size35 hs16 ?_))
  have HQ9 := hid (HQv9.out.grow ((Below.refl w16.heap.size w16).alloc (Nat.le_refl _) (.cells cs16 35)))
  have HQ16 := hid (HQv16.out.grow ((Below.refl w16.heap.size w16).alloc (Nat.le_refl _) (.cells cs16 35)))
  refine (qadd_any _ _ 66 _ _ _ HQ9.out (HQ16.out.wide (by decide)) (by decide)).mono ?_
  rintro r w17 ⟨⟨v17, rfl, hq⟩, hb⟩
  have HBw17 := hid (show Below w.heap.size w w17 by have hB0 := HBw16.out; have hB1 := hB0.size; refine Below.trans ?_ (hb.mono ?_); (focus ((repeat' (first | (with_reducible exact Below.refl _ _) | (with_reducible assumption) | (with_reducible refine Below.alloc ?_ ?_ _) | (with_reducible refine Below.drew ?_) | (with_reducible refine below_drewN ?_ _) | (with_reducible refine Below.setCell ?_ ?_ _) | (with_reducible refine below_setRow ?_ ?_ _) | go_size)); done)); (focus (first | (simp; done) | (simp; omega) | (have hB1 := hB0.size; simp; omega))))
  have HQv17 := hid hq
  have hnw17 := hid hb
  clear hq hb
  obtain ⟨cs17, rfl, hs17, ho17⟩ := HQv17.out.cells
  have R17 := hid (heap_still hnw17.out (heap_alloc_past _ _ _ _ R16.out))
  go_wp2_with (refine wpList_store_at rfl 35 (.tmp 10) (.tmp 43) rfl rfl rfl R17.out size35 hs17 rfl ho17 ?_)
  refine bodyPost_ret (results_at1 rfl rfl (setRow_heap _ _ _ _ _ _ R17.out) Try.underlying35 rfl size35 hs17) rfl ?_
  exact ⟨⟨_, rfl, HQv17.out.row R17.out (by decide)⟩, below_setRow HBw17.out (Nat.le_refl _) _⟩
end Go.Proofs.Yteoikaedpgianaa
