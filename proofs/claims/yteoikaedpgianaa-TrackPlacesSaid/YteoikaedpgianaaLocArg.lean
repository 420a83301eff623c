/- What the walks of the two Locates ask for; and the law's own walk, from what the two return. -/
import Derived.Test.YteoikaedpgianaaRLocBad
import Derived.Test.YteoikaedpgianaaQRow
import Derived.Test.YteoikaedpgianaaBeamLaw
import Derived.Test.YteoikaedpgianaaLawKit
namespace Go.Proofs.Yteoikaedpgianaa
open Go.RowKit Limb

theorem dn_le_up {k s u n : Int} (hn : 0 < n) (h : k * s ≤ k * u) : dnV k s n ≤ upV k u n := by
  unfold dnV upV
  generalize k * s = x at *
  generalize k * u = y at *
  have h1 := Int.ediv_le_ediv hn h
  have h2 := Int.mul_ediv_add_emod y n
  have h3 := Int.mul_ediv_add_emod (-y) n
  have h4 := Int.emod_nonneg y (show n ≠ 0 by omega)
  have h5 := Int.emod_nonneg (-y) (show n ≠ 0 by omega)
  by_cases h6 : 1 ≤ y / n + (-y) / n
  · have h7 := Int.mul_le_mul_of_nonneg_left h6 (show 0 ≤ n by omega)
    rw [Int.mul_add, Int.mul_one] at h7
    omega
  · omega
/-- a coordinate's lower and upper end, ahead of the widening -/
def alV (k n c r0 r1 : Int) : Int := c + dnV k (if k < 0 then r1 else r0) n
def beV (k n c r0 r1 : Int) : Int := c + upV k (if k < 0 then r0 else r1) n
theorem al_be {k n lo hi r0 r1 : Int} (hk : -n ≤ k ∧ k ≤ n) (hn : 0 < n) (hl : -268435456 ≤ lo ∧ lo ≤ hi ∧ hi ≤ 268435456) (hr : 0 ≤ r0 ∧ r0 ≤ r1 ∧ r1 ≤ 4194304) :
    -300000000 ≤ alV k n lo r0 r1 ∧ alV k n lo r0 r1 ≤ beV k n hi r0 r1 ∧ beV k n hi r0 r1 ≤ 300000000 := by
  unfold alV beV
  by_cases h : k < 0
  · rw [if_pos h, if_pos h]
    have h1 := loc_dn (s := r1) hk (by omega) (by omega) hn
    have h2 := loc_up (s := r0) hk (by omega) (by omega) hn
    have h3 := dn_le_up hn (show k * r1 ≤ k * r0 from Int.mul_le_mul_of_nonpos_left (by omega) hr.2.1)
    omega
  · rw [if_neg h, if_neg h]
    have h1 := loc_dn (s := r0) hk (by omega) (by omega) hn
    have h2 := loc_up (s := r1) hk (by omega) (by omega) hn
    have h3 := dn_le_up hn (show k * r0 ≤ k * r1 from Int.mul_le_mul_of_nonneg_left hr.2.1 (by omega))
    omega
theorem around_loc {k n lo hi r0 r1 : Int} (hk : -n ≤ k ∧ k ≤ n) (hn : 0 < n) (hl : -268435456 ≤ lo ∧ lo ≤ hi ∧ hi ≤ 268435456) (hr : 0 ≤ r0 ∧ r0 ≤ r1 ∧ r1 ≤ 4194304) (W : World) (C : Array Value) (g cap : Nat)
    (hC : W.heap[g]? = some (.cells C 35)) (hQ : ∀ j, j < 4 → QCells C (j * 3) W (fourQ lo hi k r0 r1 n j) 65) :
    Calls Try.prog 99 #[.slice (some ⟨g, 0, none⟩) 4 cap] W fun r w' => r = .returned (.tuple #[.agg #[.int .i64 (alV k n lo r0 r1), .int .i64 (beV k n hi r0 r1)], .int .i64 0]) ∧ Below W.heap.size W w' := by
  have hb := al_be hk hn hl hr
  have e1 : (lowQ (fourQ lo hi k r0 r1 n) 3).floor = alV k n lo r0 r1 := low4 hn hl.2.1 hr.2.1
  have e2 : (highQ (fourQ lo hi k r0 r1 n) 3).ceil = beV k n hi r0 r1 := high4 hn hl.2.1 hr.2.1
  have h := around_any (fourQ lo hi k r0 r1 n) 65 C g cap W (by decide) hC hQ (by rw [e1]; omega) (by rw [e2]; omega)
  rw [e1, e2] at h
  exact h
theorem locLo_al (k n c r0 r1 wide : Int) : locLo k n c r0 r1 wide = alV k n c r0 r1 - wide := rfl
theorem locHi_be (k n c r0 r1 wide : Int) : locHi k n c r0 r1 wide = beV k n c r0 r1 + wide := rfl
theorem flat46 : flatOf Try.prog 10 46 = some [some .i64, some .i64, some .i64, some .i64, some .i64, some .i64] := by kernel_rfl
theorem eq46 (s0 s1 s2 s3 s4 s5 : Int) (W : World) : (Op.equalIn 10000 46 (.agg #[.int .i64 s0, .int .i64 s1, .int .i64 s2, .int .i64 s3, .int .i64 s4, .int .i64 s5]) (.agg #[.int .i64 s0, .int .i64 s1, .int .i64 s2, .int .i64 s3, .int .i64 s4, .int .i64 s5])).run Try.prog W = .ok true W := by
  rw [equal_struct Try.underlying46 flat46 [.int .i64 s0, .int .i64 s1, .int .i64 s2, .int .i64 s3, .int .i64 s4, .int .i64 s5] [.int .i64 s0, .int .i64 s1, .int .i64 s2, .int .i64 s3, .int .i64 s4, .int .i64 s5] rfl rfl W]
  rw [show sameL [.int .i64 s0, .int .i64 s1, .int .i64 s2, .int .i64 s3, .int .i64 s4, .int .i64 s5] [.int .i64 s0, .int .i64 s1, .int .i64 s2, .int .i64 s3, .int .i64 s4, .int .i64 s5] = ([s0, s1, s2, s3, s4, s5] == [s0, s1, s2, s3, s4, s5]) from sameL_ints (a := [s0, s1, s2, s3, s4, s5]) (b := [s0, s1, s2, s3, s4, s5]) rfl, beq_self_eq_true]
set_option maxRecDepth 100000 in
theorem locates_walk (x0 x1 y0 y1 z0 z1 a b c d t e f g h r0 r1 s0 s1 s2 s3 s4 s5 z : Int) (w : World)
    (HX : ∀ W, Calls Try.prog 49 #[.agg #[.int .i64 x0, .int .i64 x1, .int .i64 y0, .int .i64 y1, .int .i64 z0, .int .i64 z1, .int .i64 a, .int .i64 b, .int .i64 c, .int .i64 d, .int .i64 t], .agg #[.int .i64 e, .int .i64 f, .int .i64 g, .int .i64 h], .agg #[.int .i64 r0, .int .i64 r1]] W
      fun r w' => r = .returned (.tuple #[.agg #[.int .i64 s0, .int .i64 s1, .int .i64 s2, .int .i64 s3, .int .i64 s4, .int .i64 s5], .int .i64 z]) ∧ Below W.heap.size W w')
    (HR : ∀ W, Calls Try.prog 50 #[.agg #[.int .i64 x0, .int .i64 x1, .int .i64 y0, .int .i64 y1, .int .i64 z0, .int .i64 z1, .int .i64 a, .int .i64 b, .int .i64 c, .int .i64 d, .int .i64 t], .agg #[.int .i64 e, .int .i64 f, .int .i64 g, .int .i64 h], .agg #[.int .i64 r0, .int .i64 r1]] W
      fun r w' => r = .returned (.tuple #[.agg #[.int .i64 s0, .int .i64 s1, .int .i64 s2, .int .i64 s3, .int .i64 s4, .int .i64 s5], .int .i64 z]) ∧ Below W.heap.size W w') :
    Calls Try.prog 10 #[.agg #[.int .i64 x0, .int .i64 x1, .int .i64 y0, .int .i64 y1, .int .i64 z0, .int .i64 z1, .int .i64 a, .int .i64 b, .int .i64 c, .int .i64 d, .int .i64 t], .agg #[.int .i64 e, .int .i64 f, .int .i64 g, .int .i64 h], .agg #[.int .i64 r0, .int .i64 r1]] w
      fun r w' => r = .returned (.bool true) ∧ Below w.heap.size w w' := by
  have HXX := hid HX
  have HRR := hid HR
  clear HX HR
  have hq := eq46 s0 s1 s2 s3 s4 s5
  have HBw := hid (Below.refl w.heap.size w)
  go_enter Try.func10, Try.ntmps10
  go_wp2_with fail
  refine (HXX.out _).mono ?_
  rintro r w1 ⟨rfl, hb⟩
  have HBw1 := hid (show Below w.heap.size w w1 by have hB0 := HBw.out; refine Below.trans ?_ (hb.mono ?_); (focus ((repeat' (first | (with_reducible exact Below.refl _ _) | (with_reducible assumption) | (with_reducible refine Below.alloc ?_ ?_ _) | (with_reducible refine Below.drew ?_) | (with_reducible refine below_drewN ?_ _) | (with_reducible refine Below.setCell ?_ ?_ _) | (with_reducible refine below_setRow ?_ ?_ _) | go_size)); done)); (focus (first | (simp; done) | (simp; omega) | (have hB1 := hB0.size; simp; omega))))
  have hsw1 := hb.size
  (try simp at hsw1)
  have hzw1 : w.heap.size < w1.heap.size := by omega
  obtain ⟨hcw1, hfw1⟩ := bcell hb
  have hkw1 := hid (fun n x => @heap_still _ _ n x hb)
  clear hb
  have P1 := hid (hkw1.out _ _ (by repeat' (first | (refine heap_alloc_at _ _ _ ?_; (first | rfl | (simp; done) | (simp; omega))) | (refine heap_alloc_past _ _ _ _ ?_))) : w1.heap[w.heap.size]? = some (.cells #[.int .i64 x0, .int .i64 x1, .int .i64 y0, .int .i64 y1, .int .i64 z0, .int .i64 z1, .int .i64 a, .int .i64 b, .int .i64 c, .int .i64 d, .int .i64 t] 80))
  have S1 := hid (hkw1.out _ _ (by repeat' (first | (refine heap_alloc_at _ _ _ ?_; (first | rfl | (simp; done) | (simp; omega))) | (refine heap_alloc_past _ _ _ _ ?_))) : w1.heap[w.heap.size + 1]? = some (row4 e f g h))
  have R1 := hid (hkw1.out _ _ (by repeat' (first | (refine heap_alloc_at _ _ _ ?_; (first | rfl | (simp; done) | (simp; omega))) | (refine heap_alloc_past _ _ _ _ ?_))) : w1.heap[w.heap.size + 1 + 1]? = some (.cells #[.int .i64 r0, .int .i64 r1] 44))
  clear hcw1 hfw1
  go_wp2_with (first | (refine wpList_load_at rfl 80 (.tmp 3) rfl rfl (heap_alloc_past _ _ _ _ P1.out) Try.underlying80 rfl size80 rfl ?_) | (refine wpList_load_at rfl 22 (.tmp 4) rfl rfl (heap_alloc_past _ _ _ _ S1.out) Try.underlying22 rfl size22 rfl ?_) | (refine wpList_load_at rfl 44 (.tmp 5) rfl rfl (heap_alloc_past _ _ _ _ R1.out) Try.underlying44 rfl size44 rfl ?_))
  refine (HRR.out _).mono ?_
  rintro r w2 ⟨rfl, hb⟩
  have HBw2 := hid (show Below w.heap.size w w2 by have hB0 := HBw1.out; refine Below.trans ?_ (hb.mono ?_); (focus ((repeat' (first | (with_reducible exact Below.refl _ _) | (with_reducible assumption) | (with_reducible refine Below.alloc ?_ ?_ _) | (with_reducible refine Below.drew ?_) | (with_reducible refine below_drewN ?_ _) | (with_reducible refine Below.setCell ?_ ?_ _) | (with_reducible refine below_setRow ?_ ?_ _) | go_size)); done)); (focus (first | (simp; done) | (simp; omega) | (have hB1 := hB0.size; simp; omega))))
  have hsw2 := hb.size
  (try simp at hsw2)
  have hzw2 : w.heap.size < w2.heap.size := by omega
  obtain ⟨hcw2, hfw2⟩ := bcell hb
  have hkw2 := hid (fun n x => @heap_still _ _ n x hb)
  clear hb
  have A2 := hid (hkw2.out _ _ (heap_alloc_at _ _ _ rfl) : w2.heap[w1.heap.size]? = some (.cells #[.int .i64 s0, .int .i64 s1, .int .i64 s2, .int .i64 s3, .int .i64 s4, .int .i64 s5] 46))
  clear hcw2 hfw2
  go_wp2_with (first | (refine wpList_load_at rfl 46 (.tmp 7) rfl rfl (heap_alloc_past _ _ _ _ A2.out) Try.underlying46 rfl size46 rfl ?_) | (refine wpList_load_at rfl 46 (.tmp 9) rfl rfl (heap_alloc_at _ _ _ rfl) Try.underlying46 rfl size46 rfl ?_))
  refine (awake_any _).mono ?_
  rintro r w3 ⟨rfl, hb⟩
  have HBw3 := hid (show Below w.heap.size w w3 by have hB0 := HBw2.out; refine Below.trans ?_ (hb.mono ?_); (focus ((repeat' (first | (with_reducible exact Below.refl _ _) | (with_reducible assumption) | (with_reducible refine Below.alloc ?_ ?_ _) | (with_reducible refine Below.drew ?_) | (with_reducible refine below_drewN ?_ _) | (with_reducible refine Below.setCell ?_ ?_ _) | (with_reducible refine below_setRow ?_ ?_ _) | go_size)); done)); (focus (first | (simp; done) | (simp; omega) | (have hB1 := hB0.size; simp; omega))))
  have hsw3 := hb.size
  (try simp at hsw3)
  have hzw3 : w.heap.size < w3.heap.size := by omega
  obtain ⟨hcw3, hfw3⟩ := bcell hb
  have hkw3 := hid (fun n x => @heap_still _ _ n x hb)
  clear hb
  go_wp2_with fail
  go_ret
  exact ⟨rfl, HBw3.out⟩
end Go.Proofs.Yteoikaedpgianaa
