/- The reference's mean of two numbers, rounded down or up. -/
import Derived.Test.YteoikaedpgianaaRAdd
import Derived.Test.YteoikaedpgianaaNav
import Derived.Test.YteoikaedpgianaaRUp
namespace Go.Proofs.Yteoikaedpgianaa
open Go.RowKit Limb


def mixV (a v b u : Int) (high : Bool) : Int := if high = true then -(-(a * v + b * u) / (u + v)) else (a * v + b * u) / (u + v)
theorem mix_frac (a v b u : Int) : ((a : Rat) * (v : Rat) + (b : Rat) * (u : Rat)) / ((u + v : Int) : Rat) = ((a * v + b * u : Int) : Rat) / ((u + v : Int) : Rat) := by
  exact congrArg (fun x => x / ((u + v : Int) : Rat)) (by rw [Rat.intCast_add, Rat.intCast_mul, Rat.intCast_mul])
theorem mix_floor (a v b u : Int) (h : 0 < u + v) : (((a : Rat) * (v : Rat) + (b : Rat) * (u : Rat)) / ((u + v : Int) : Rat)).floor = (a * v + b * u) / (u + v) := by
  rw [mix_frac, floor_div _ _ h]
theorem mix_ceil (a v b u : Int) (h : 0 < u + v) : (((a : Rat) * (v : Rat) + (b : Rat) * (u : Rat)) / ((u + v : Int) : Rat)).ceil = -(-(a * v + b * u) / (u + v)) := by
  rw [mix_frac, Rat.ceil_eq_neg_floor_neg, ← floor_div _ _ h, Rat.div_def, Rat.div_def, ← Rat.neg_mul, Rat.intCast_neg]
set_option maxRecDepth 100000 in
set_option maxHeartbeats 1600000 in
theorem mix_low (a v b u : Int) (w : World) (ha : -1000000000 ≤ a ∧ a ≤ 1000000000) (hb : -1000000000 ≤ b ∧ b ≤ 1000000000) (hv : 0 ≤ v ∧ v ≤ 10000000) (hu : 0 ≤ u ∧ u ≤ 10000000) (hd : 0 < u + v)
    (hf : -4611686018427387904 ≤ (a * v + b * u) / (u + v) ∧ (a * v + b * u) / (u + v) ≤ 4611686018427387904) :
    Calls Try.prog 153 #[.int .i64 a, .int .i64 v, .int .i64 b, .int .i64 u, .bool false] w fun r w' => r = .returned (.int .i64 ((a * v + b * u) / (u + v))) ∧ Below w.heap.size w w' := by
  have HW := hid (fun (z : Int) (hz : -4000000000000 ≤ z ∧ z ≤ 4000000000000) W => whole_any z W (by omega))
  have hd0 : ((u + v : Int) : Rat) ≠ 0 := fun h => by have := Rat.intCast_eq_zero_iff.1 h; omega
  have HD0 := hid hd0
  have HFL := hid (mix_floor a v b u hd)
  have HF := hid hf
  clear hd0 hf
  have HBw := hid (Below.refl w.heap.size w)
  go_enter Try.func153, Try.ntmps153
  go_wp2_with fail
  refine (HW.out a (by omega) _).mono ?_
  rintro r w1 ⟨⟨v1, rfl, hq⟩, hb⟩
  have HBw1 := hid (show Below w.heap.size w w1 by have hB0 := HBw.out; have hB1 := hB0.size; refine Below.trans ?_ (hb.mono ?_); (focus ((repeat' (first | (with_reducible exact Below.refl _ _) | (with_reducible assumption) | (with_reducible refine Below.alloc ?_ ?_ _) | (with_reducible refine Below.drew ?_) | (with_reducible refine below_drewN ?_ _) | (with_reducible refine Below.setCell ?_ ?_ _) | (with_reducible refine below_setRow ?_ ?_ _) | go_size)); done)); (focus (first | (simp; done) | (simp; omega) | (have hB1 := hB0.size; simp; omega))))
  have HQv1 := hid hq
  have hnw1 := hid hb
  clear hq hb
  go_wp2_with fail
  refine (HW.out v (by omega) _).mono ?_
  rintro r w2 ⟨⟨v2, rfl, hq⟩, hb⟩
  have HBw2 := hid (show Below w.heap.size w w2 by have hB0 := HBw1.out; have hB1 := hB0.size; refine Below.trans ?_ (hb.mono ?_); (focus ((repeat' (first | (with_reducible exact Below.refl _ _) | (with_reducible assumption) | (with_reducible refine Below.alloc ?_ ?_ _) | (with_reducible refine Below.drew ?_) | (with_reducible refine below_drewN ?_ _) | (with_reducible refine Below.setCell ?_ ?_ _) | (with_reducible refine below_setRow ?_ ?_ _) | go_size)); done)); (focus (first | (simp; done) | (simp; omega) | (have hB1 := hB0.size; simp; omega))))
  have HQv2 := hid hq
  have hnw2 := hid hb
  clear hq hb
  have HQv1 := hid (HQv1.out.grow hnw2.out)
  go_wp2_with fail
  refine (qmul_any _ _ 4 _ _ _ HQv1.out HQv2.out (by decide)).mono ?_
  rintro r w3 ⟨⟨v3, rfl, hq⟩, hb⟩
  have HBw3 := hid (show Below w.heap.size w w3 by have hB0 := HBw2.out; have hB1 := hB0.size; refine Below.trans ?_ (hb.mono ?_); (focus ((repeat' (first | (with_reducible exact Below.refl _ _) | (with_reducible assumption) | (with_reducible refine Below.alloc ?_ ?_ _) | (with_reducible refine Below.drew ?_) | (with_reducible refine below_drewN ?_ _) | (with_reducible refine Below.setCell ?_ ?_ _) | (with_reducible refine below_setRow ?_ ?_ _) | go_size)); done)); (focus (first | (simp; done) | (simp; omega) | (have hB1 := hB0.size; simp; omega))))
  have HQv3 := hid hq
  have hnw3 := hid hb
  clear hq hb
  go_wp2_with fail
  refine (HW.out b (by omega) _).mono ?_
  rintro r w4 ⟨⟨v4, rfl, hq⟩, hb⟩
  have HBw4 := hid (show Below w.heap.size w w4 by have hB0 := HBw3.out; have hB1 := hB0.size; refine Below.trans ?_ (hb.mono ?_); (focus ((repeat' (first | (with_reducible exact Below.refl _ _) | (with_reducible assumption) | (with_reducible refine Below.alloc ?_ ?_ _) | (with_reducible refine Below.drew ?_) | (with_reducible refine below_drewN ?_ _) | (with_reducible refine Below.setCell ?_ ?_ _) | (with_reducible refine below_setRow ?_ ?_ _) | go_size)); done)); (focus (first | (simp; done) | (simp; omega) | (have hB1 := hB0.size; simp; omega))))
  have HQv4 := hid hq
  have hnw4 := hid hb
  clear hq hb
  have HQv3 := hid (HQv3.out.grow hnw4.out)
  go_wp2_with fail
  refine (HW.out u (by omega) _).mono ?_
  rintro r w5 ⟨⟨v5, rfl, hq⟩, hb⟩
  have HBw5 := hid (show Below w.heap.size w w5 by have hB0 := HBw4.out; have hB1 := hB0.size; refine Below.trans ?_ (hb.mono ?_); (focus ((repeat' (first | (with_reducible exact Below.refl _ _) | (with_reducible assumption) | (with_reducible refine Below.alloc ?_ ?_ _) | (with_reducible refine Below.drew ?_) | (with_reducible refine below_drewN ?_ _) | (with_reducible refine Below.setCell ?_ ?_ _) | (with_reducible refine below_setRow ?_ ?_ _) | go_size)); done)); (focus (first | (simp; done) | (simp; omega) | (have hB1 := hB0.size; simp; omega))))
  have HQv5 := hid hq
  have hnw5 := hid hb
  clear hq hb
  have HQv3 := hid (HQv3.out.grow hnw5.out)
  have HQv4 := hid (HQv4.out.grow hnw5.out)
  go_wp2_with fail
  refine (qmul_any _ _ 4 _ _ _ HQv4.out HQv5.out (by decide)).mono ?_
  rintro r w6 ⟨⟨v6, rfl, hq⟩, hb⟩
  have HBw6 := hid (show Below w.heap.size w w6 by have hB0 := HBw5.out; have hB1 := hB0.size; refine Below.trans ?_ (hb.mono ?_); (focus ((repeat' (first | (with_reducible exact Below.refl _ _) | (with_reducible assumption) | (with_reducible refine Below.alloc ?_ ?_ _) | (with_reducible refine Below.drew ?_) | (with_reducible refine below_drewN ?_ _) | (with_reducible refine Below.setCell ?_ ?_ _) | (with_reducible refine below_setRow ?_ ?_ _) | go_size)); done)); (focus (first | (simp; done) | (simp; omega) | (have hB1 := hB0.size; simp; omega))))
  have HQv6 := hid hq
  have hnw6 := hid hb
  clear hq hb
  have HQv3 := hid (HQv3.out.grow hnw6.out)
  go_wp2_with fail
  refine (qadd_any _ _ 8 _ _ _ HQv3.out HQv6.out (by decide)).mono ?_
  rintro r w7 ⟨⟨v7, rfl, hq⟩, hb⟩
  have HBw7 := hid (show Below w.heap.size w w7 by have hB0 := HBw6.out; have hB1 := hB0.size; refine Below.trans ?_ (hb.mono ?_); (focus ((repeat' (first | (with_reducible exact Below.refl _ _) | (with_reducible assumption) | (with_reducible refine Below.alloc ?_ ?_ _) | (with_reducible refine Below.drew ?_) | (with_reducible refine below_drewN ?_ _) | (with_reducible refine Below.setCell ?_ ?_ _) | (with_reducible refine below_setRow ?_ ?_ _) | go_size)); done)); (focus (first | (simp; done) | (simp; omega) | (have hB1 := hB0.size; simp; omega))))
  have HQv7 := hid hq
  have hnw7 := hid hb
  clear hq hb
  go_wp2_with fail
  refine (HW.out (u + v) (by omega) _).mono ?_
  rintro r w8 ⟨⟨v8, rfl, hq⟩, hb⟩
  have HBw8 := hid (show Below w.heap.size w w8 by have hB0 := HBw7.out; have hB1 := hB0.size; refine Below.trans ?_ (hb.mono ?_); (focus ((repeat' (first | (with_reducible exact Below.refl _ _) | (with_reducible assumption) | (with_reducible refine Below.alloc ?_ ?_ _) | (with_reducible refine Below.drew ?_) | (with_reducible refine below_drewN ?_ _) | (with_reducible refine Below.setCell ?_ ?_ _) | (with_reducible refine below_setRow ?_ ?_ _) | go_size)); done)); (focus (first | (simp; done) | (simp; omega) | (have hB1 := hB0.size; simp; omega))))
  have HQv8 := hid hq
  have hnw8 := hid hb
  clear hq hb
  have HQv7 := hid (HQv7.out.grow hnw8.out)
  go_wp2_with fail
  refine (qdiv_any _ _ 33 _ _ _ HQv7.out (HQv8.out.wide (by decide)) (by decide) HD0.out).mono ?_
  rintro r w9 ⟨⟨v9, rfl, hq⟩, hb⟩
  have HBw9 := hid (show Below w.heap.size w w9 by have hB0 := HBw8.out; have hB1 := hB0.size; refine Below.trans ?_ (hb.mono ?_); (focus ((repeat' (first | (with_reducible exact Below.refl _ _) | (with_reducible assumption) | (with_reducible refine Below.alloc ?_ ?_ _) | (with_reducible refine Below.drew ?_) | (with_reducible refine below_drewN ?_ _) | (with_reducible refine Below.setCell ?_ ?_ _) | (with_reducible refine below_setRow ?_ ?_ _) | go_size)); done)); (focus (first | (simp; done) | (simp; omega) | (have hB1 := hB0.size; simp; omega))))
  have HQv9 := hid hq
  have hnw9 := hid hb
  clear hq hb
  obtain ⟨cs9, rfl, hs9, ho9⟩ := HQv9.out.cells
  go_wp2_with (first | (refine wpList_store_new rfl 35 (.tmp 11) (.tmp 30) rfl rfl rfl rfl size35 hs9 rfl ho9 ?_) | (refine wpList_load_at rfl 35 (.tmp 11) rfl rfl (heap_alloc_at _ _ _ rfl) Try.underlying35 rfl size35 hs9 ?_))
  have HQ9 := hid (HQv9.out.grow ((Below.refl w9.heap.size w9).alloc (Nat.le_refl _) (.cells cs9 35)))
  refine (qfloor_any _ 66 _ _ HQ9.out (by decide)).mono ?_
  rintro r w10 ⟨⟨vi, rfl, hi⟩, hb⟩
  rw [HFL.out] at hi
  have HB10 := hid (show Below w.heap.size w w10 by have hB0 := HBw9.out; have hB1 := hB0.size; exact (hB0.alloc hB1 _).trans (hb.mono (by simp; omega)))
  have HI := hid hi
  obtain ⟨cs10, rfl, hs10, ho10⟩ := hi.cells
  clear hb hi
  go_wp2_with (first | (refine wpList_store_new rfl 33 (.tmp 12) (.tmp 32) rfl rfl rfl rfl size33 hs10 rfl ho10 ?_) | (refine wpList_load_at rfl 33 (.tmp 12) rfl rfl (heap_alloc_at _ _ _ rfl) Try.underlying33 rfl size33 hs10 ?_))
  have HI2 := hid (HI.out.grow ((Below.refl w10.heap.size w10).alloc (Nat.le_refl _) (.cells cs10 33)))
  refine (fits_any _ _ _ _ HI2.out HF.out).mono ?_
  rintro r w11 ⟨rfl, hb⟩
  have HB11 := hid (show Below w.heap.size w w11 by have hB0 := HB10.out; have hB1 := hB0.size; exact (hB0.alloc hB1 _).trans (hb.mono (by simp; omega)))
  clear hb
  go_wp2_with fail
  go_ret
  exact ⟨rfl, HB11.out⟩
set_option maxRecDepth 100000 in
set_option maxHeartbeats 1600000 in
theorem mix_high (a v b u : Int) (w : World) (ha : -1000000000 ≤ a ∧ a ≤ 1000000000) (hb : -1000000000 ≤ b ∧ b ≤ 1000000000) (hv : 0 ≤ v ∧ v ≤ 10000000) (hu : 0 ≤ u ∧ u ≤ 10000000) (hd : 0 < u + v)
    (hf : -4611686018427387904 ≤ -(-(a * v + b * u) / (u + v)) ∧ -(-(a * v + b * u) / (u + v)) ≤ 4611686018427387904) :
    Calls Try.prog 153 #[.int .i64 a, .int .i64 v, .int .i64 b, .int .i64 u, .bool true] w fun r w' => r = .returned (.int .i64 (-(-(a * v + b * u) / (u + v)))) ∧ Below w.heap.size w w' := by
  have HW := hid (fun (z : Int) (hz : -4000000000000 ≤ z ∧ z ≤ 4000000000000) W => whole_any z W (by omega))
  have hd0 : ((u + v : Int) : Rat) ≠ 0 := fun h => by have := Rat.intCast_eq_zero_iff.1 h; omega
  have HD0 := hid hd0
  have HCL := hid (mix_ceil a v b u hd)
  have HF := hid hf
  clear hd0 hf
  have HBw := hid (Below.refl w.heap.size w)
  go_enter Try.func153, Try.ntmps153
  go_wp2_with fail
  refine (HW.out a (by omega) _).mono ?_
  rintro r w1 ⟨⟨v1, rfl, hq⟩, hb⟩
  have HBw1 := hid (show Below w.heap.size w w1 by have hB0 := HBw.out; have hB1 := hB0.size; refine Below.trans ?_ (hb.mono ?_); (focus ((repeat' (first | (with_reducible exact Below.refl _ _) | (with_reducible assumption) | (with_reducible refine Below.alloc ?_ ?_ _) | (with_reducible refine Below.drew ?_) | (with_reducible refine below_drewN ?_ _) | (with_reducible refine Below.setCell ?_ ?_ _) | (with_reducible refine below_setRow ?_ ?_ _) | go_size)); done)); (focus (first | (simp; done) | (simp; omega) | (have hB1 := hB0.size; simp; omega))))
  have HQv1 := hid hq
  have hnw1 := hid hb
  clear hq hb
  go_wp2_with fail
  refine (HW.out v (by omega) _).mono ?_
  rintro r w2 ⟨⟨v2, rfl, hq⟩, hb⟩
  have HBw2 := hid (show Below w.heap.size w w2 by have hB0 := HBw1.out; have hB1 := hB0.size; refine Below.trans ?_ (hb.mono ?_); (focus ((repeat' (first | (with_reducible exact Below.refl _ _) | (with_reducible assumption) | (with_reducible refine Below.alloc ?_ ?_ _) | (with_reducible refine Below.drew ?_) | (with_reducible refine below_drewN ?_ _) | (with_reducible refine Below.setCell ?_ ?_ _) | (with_reducible refine below_setRow ?_ ?_ _) | go_size)); done)); (focus (first | (simp; done) | (simp; omega) | (have hB1 := hB0.size; simp; omega))))
  have HQv2 := hid hq
  have hnw2 := hid hb
  clear hq hb
  have HQv1 := hid (HQv1.out.grow hnw2.out)
  go_wp2_with fail
  refine (qmul_any _ _ 4 _ _ _ HQv1.out HQv2.out (by decide)).mono ?_
  rintro r w3 ⟨⟨v3, rfl, hq⟩, hb⟩
  have HBw3 := hid (show Below w.heap.size w w3 by have hB0 := HBw2.out; have hB1 := hB0.size; refine Below.trans ?_ (hb.mono ?_); (focus ((repeat' (first | (with_reducible exact Below.refl _ _) | (with_reducible assumption) | (with_reducible refine Below.alloc ?_ ?_ _) | (with_reducible refine Below.drew ?_) | (with_reducible refine below_drewN ?_ _) | (with_reducible refine Below.setCell ?_ ?_ _) | (with_reducible refine below_setRow ?_ ?_ _) | go_size)); done)); (focus (first | (simp; done) | (simp; omega) | (have hB1 := hB0.size; simp; omega))))
  have HQv3 := hid hq
  have hnw3 := hid hb
  clear hq hb
  go_wp2_with fail
  refine (HW.out b (by omega) _).mono ?_
  rintro r w4 ⟨⟨v4, rfl, hq⟩, hb⟩
  have HBw4 := hid (show Below w.heap.size w w4 by have hB0 := HBw3.out; have hB1 := hB0.size; refine Below.trans ?_ (hb.mono ?_); (focus ((repeat' (first | (with_reducible exact Below.refl _ _) | (with_reducible assumption) | (with_reducible refine Below.alloc ?_ ?_ _) | (with_reducible refine Below.drew ?_) | (with_reducible refine below_drewN ?_ _) | (with_reducible refine Below.setCell ?_ ?_ _) | (with_reducible refine below_setRow ?_ ?_ _) | go_size)); done)); (focus (first | (simp; done) | (simp; omega) | (have hB1 := hB0.size; simp; omega))))
  have HQv4 := hid hq
  have hnw4 := hid hb
  clear hq hb
  have HQv3 := hid (HQv3.out.grow hnw4.out)
  go_wp2_with fail
  refine (HW.out u (by omega) _).mono ?_
  rintro r w5 ⟨⟨v5, rfl, hq⟩, hb⟩
  have HBw5 := hid (show Below w.heap.size w w5 by have hB0 := HBw4.out; have hB1 := hB0.size; refine Below.trans ?_ (hb.mono ?_); (focus ((repeat' (first | (with_reducible exact Below.refl _ _) | (with_reducible assumption) | (with_reducible refine Below.alloc ?_ ?_ _) | (with_reducible refine Below.drew ?_) | (with_reducible refine below_drewN ?_ _) | (with_reducible refine Below.setCell ?_ ?_ _) | (with_reducible refine below_setRow ?_ ?_ _) | go_size)); done)); (focus (first | (simp; done) | (simp; omega) | (have hB1 := hB0.size; simp; omega))))
  have HQv5 := hid hq
  have hnw5 := hid hb
  clear hq hb
  have HQv3 := hid (HQv3.out.grow hnw5.out)
  have HQv4 := hid (HQv4.out.grow hnw5.out)
  go_wp2_with fail
  refine (qmul_any _ _ 4 _ _ _ HQv4.out HQv5.out (by decide)).mono ?_
  rintro r w6 ⟨⟨v6, rfl, hq⟩, hb⟩
  have HBw6 := hid (show Below w.heap.size w w6 by have hB0 := HBw5.out; have hB1 := hB0.size; refine Below.trans ?_ (hb.mono ?_); (focus ((repeat' (first | (with_reducible exact Below.refl _ _) | (with_reducible assumption) | (with_reducible refine Below.alloc ?_ ?_ _) | (with_reducible refine Below.drew ?_) | (with_reducible refine below_drewN ?_ _) | (with_reducible refine Below.setCell ?_ ?_ _) | (with_reducible refine below_setRow ?_ ?_ _) | go_size)); done)); (focus (first | (simp; done) | (simp; omega) | (have hB1 := hB0.size; simp; omega))))
  have HQv6 := hid hq
  have hnw6 := hid hb
  clear hq hb
  have HQv3 := hid (HQv3.out.grow hnw6.out)
  go_wp2_with fail
  refine (qadd_any _ _ 8 _ _ _ HQv3.out HQv6.out (by decide)).mono ?_
  rintro r w7 ⟨⟨v7, rfl, hq⟩, hb⟩
  have HBw7 := hid (show Below w.heap.size w w7 by have hB0 := HBw6.out; have hB1 := hB0.size; refine Below.trans ?_ (hb.mono ?_); (focus ((repeat' (first | (with_reducible exact Below.refl _ _) | (with_reducible assumption) | (with_reducible refine Below.alloc ?_ ?_ _) | (with_reducible refine Below.drew ?_) | (with_reducible refine below_drewN ?_ _) | (with_reducible refine Below.setCell ?_ ?_ _) | (with_reducible refine below_setRow ?_ ?_ _) | go_size)); done)); (focus (first | (simp; done) | (simp; omega) | (have hB1 := hB0.size; simp; omega))))
  have HQv7 := hid hq
  have hnw7 := hid hb
  clear hq hb
  go_wp2_with fail
  refine (HW.out (u + v) (by omega) _).mono ?_
  rintro r w8 ⟨⟨v8, rfl, hq⟩, hb⟩
  have HBw8 := hid (show Below w.heap.size w w8 by have hB0 := HBw7.out; have hB1 := hB0.size; refine Below.trans ?_ (hb.mono ?_); (focus ((repeat' (first | (with_reducible exact Below.refl _ _) | (with_reducible assumption) | (with_reducible refine Below.alloc ?_ ?_ _) | (with_reducible refine Below.drew ?_) | (with_reducible refine below_drewN ?_ _) | (with_reducible refine Below.setCell ?_ ?_ _) | (with_reducible refine below_setRow ?_ ?_ _) | go_size)); done)); (focus (first | (simp; done) | (simp; omega) | (have hB1 := hB0.size; simp; omega))))
  have HQv8 := hid hq
  have hnw8 := hid hb
  clear hq hb
  have HQv7 := hid (HQv7.out.grow hnw8.out)
  go_wp2_with fail
  refine (qdiv_any _ _ 33 _ _ _ HQv7.out (HQv8.out.wide (by decide)) (by decide) HD0.out).mono ?_
  rintro r w9 ⟨⟨v9, rfl, hq⟩, hb⟩
  have HBw9 := hid (show Below w.heap.size w w9 by have hB0 := HBw8.out; have hB1 := hB0.size; refine Below.trans ?_ (hb.mono ?_); (focus ((repeat' (first | (with_reducible exact Below.refl _ _) | (with_reducible assumption) | (with_reducible refine Below.alloc ?_ ?_ _) | (with_reducible refine Below.drew ?_) | (with_reducible refine below_drewN ?_ _) | (with_reducible refine Below.setCell ?_ ?_ _) | (with_reducible refine below_setRow ?_ ?_ _) | go_size)); done)); (focus (first | (simp; done) | (simp; omega) | (have hB1 := hB0.size; simp; omega))))
  have HQv9 := hid hq
  have hnw9 := hid hb
  clear hq hb
  obtain ⟨cs9, rfl, hs9, ho9⟩ := HQv9.out.cells
  go_wp2_with (first | (refine wpList_store_new rfl 35 (.tmp 11) (.tmp 30) rfl rfl rfl rfl size35 hs9 rfl ho9 ?_) | (refine wpList_load_at rfl 35 (.tmp 11) rfl rfl (heap_alloc_at _ _ _ rfl) Try.underlying35 rfl size35 hs9 ?_))
  have HQ9 := hid (HQv9.out.grow ((Below.refl w9.heap.size w9).alloc (Nat.le_refl _) (.cells cs9 35)))
  refine (qfloor_any _ 66 _ _ HQ9.out (by decide)).mono ?_
  rintro r w10 ⟨⟨vi, rfl, hi⟩, hb⟩
  have HB10 := hid (show Below w.heap.size w w10 by have hB0 := HBw9.out; have hB1 := hB0.size; exact (hB0.alloc hB1 _).trans (hb.mono (by simp; omega)))
  have S10 := hid (heap_still hb (heap_alloc_at w9 (.cells cs9 35) _ rfl))
  have HQ10 := hid (HQ9.out.grow hb)
  obtain ⟨cs10, rfl, hs10, ho10⟩ := hi.cells
  clear hb hi
  go_wp2_with (first | (refine wpList_store_new rfl 33 (.tmp 12) (.tmp 32) rfl rfl rfl rfl size33 hs10 rfl ho10 ?_) | (refine wpList_load_at rfl 35 (.tmp 11) rfl rfl (heap_alloc_past _ _ _ _ S10.out) Try.underlying35 rfl size35 hs9 ?_))
  have HQ11 := hid (HQ10.out.grow ((Below.refl w10.heap.size w10).alloc (Nat.le_refl _) (.cells cs10 33)))
  refine (qceil_any _ 66 _ _ HQ11.out (by decide)).mono ?_
  rintro r w11 ⟨⟨vj, rfl, hi⟩, hb⟩
  rw [HCL.out] at hi
  have HB11 := hid (show Below w.heap.size w w11 by have hB0 := HB10.out; have hB1 := hB0.size; exact (hB0.alloc hB1 _).trans (hb.mono (by simp; omega)))
  have T11 := hid (heap_still hb (heap_alloc_at w10 (.cells cs10 33) _ rfl))
  have HI := hid hi
  obtain ⟨cs11, rfl, hs11, ho11⟩ := hi.cells
  clear hb hi
  have hz10 := HB10.out.size
  have HI2 := hid (HI.out.row (cs := cs11) T11.out (by decide))
  have HB12 := hid (below_setRow HB11.out hz10 cs11)
  go_wp2_with (first | (refine wpList_store_at rfl 33 (.tmp 12) (.tmp 35) rfl rfl rfl T11.out size33 hs11 (by first | exact hs10 | rfl) ho11 ?_) | (refine wpList_load_at rfl 33 (.tmp 12) rfl rfl (setRow_heap _ _ _ _ _ _ T11.out) Try.underlying33 rfl size33 hs11 ?_))
  refine (fits_any _ _ _ _ HI2.out HF.out).mono ?_
  rintro r w13 ⟨rfl, hb⟩
  have HB13 := hid (HB12.out.trans (hb.mono HB12.out.size))
  clear hb
  go_wp2_with fail
  go_ret
  exact ⟨rfl, HB13.out⟩
end Go.Proofs.Yteoikaedpgianaa
