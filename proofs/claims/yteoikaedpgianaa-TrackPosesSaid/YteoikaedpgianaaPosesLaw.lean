/- TrackPoses: the poses at a time and over a span of times, for any track, rules and span. Every input, no condition. -/
import Derived.Test.YteoikaedpgianaaRPoseOverY
import Derived.Test.YteoikaedpgianaaRPoseOverN
import Derived.Test.YteoikaedpgianaaStrip
import Derived.Test.YteoikaedpgianaaOpenTrack
import Derived.Test.YteoikaedpgianaaLawKit
import Derived.Test.YteoikaedpgianaaAwakeB
namespace Go.Proofs.Yteoikaedpgianaa
open Go.ChangeShapes Go.WideShapes Go.ChangeAt Go.RowKit Limb

theorem over_zero (p : Nat → Int) : poseR (overN p 0 0) = poseR p := by
  simp [poseR, overN]
theorem up_zero (x : Int) : upV x (0 : Int) 1000000 = 0 := by
  unfold upV
  rw [Int.mul_zero]
  decide
theorem at_over (m0 m1 m2 m3 : Int) (n : Nat) (L : Nat → Nat) (F : Nat → Nat → Nat → Int) (t : Int) : poseAtV m0 m1 m2 m3 n L F t = poseOverV false m0 m1 m2 m3 n L F t t := by
  unfold poseAtV poseOverV
  rw [Int.sub_self, up_zero, up_zero, over_zero, inV_N]
  simp
theorem over_form (sp : Bool) (m0 m1 m2 m3 : Int) (n : Nat) (L : Nat → Nat) (F : Nat → Nat → Nat → Int) (t0 t1 : Int) : ∃ (p : Nat → Int) (e : Int), poseOverV sp m0 m1 m2 m3 n L F t0 t1 = .tuple #[poseR p, .int .i64 e] := by
  unfold poseOverV
  split
  · exact ⟨fun _ => 0, _, rfl⟩
  · split
    · exact ⟨fun _ => 0, _, rfl⟩
    · split
      · exact ⟨fun _ => 0, _, rfl⟩
      · exact ⟨_, _, rfl⟩
theorem eq80 (p : Nat → Int) (W : World) : (Op.equalIn 10000 80 (.agg #[.int .i64 (p 0), .int .i64 (p 1), .int .i64 (p 2), .int .i64 (p 3), .int .i64 (p 4), .int .i64 (p 5), .int .i64 (p 6), .int .i64 (p 7), .int .i64 (p 8), .int .i64 (p 9), .int .i64 (p 10)]) (.agg #[.int .i64 (p 0), .int .i64 (p 1), .int .i64 (p 2), .int .i64 (p 3), .int .i64 (p 4), .int .i64 (p 5), .int .i64 (p 6), .int .i64 (p 7), .int .i64 (p 8), .int .i64 (p 9), .int .i64 (p 10)])).run Try.prog W = .ok true W := by
  rw [equal_struct Try.underlying80 lawFlat80 [.int .i64 (p 0), .int .i64 (p 1), .int .i64 (p 2), .int .i64 (p 3), .int .i64 (p 4), .int .i64 (p 5), .int .i64 (p 6), .int .i64 (p 7), .int .i64 (p 8), .int .i64 (p 9), .int .i64 (p 10)] [.int .i64 (p 0), .int .i64 (p 1), .int .i64 (p 2), .int .i64 (p 3), .int .i64 (p 4), .int .i64 (p 5), .int .i64 (p 6), .int .i64 (p 7), .int .i64 (p 8), .int .i64 (p 9), .int .i64 (p 10)] rfl rfl W]
  rw [show sameL [.int .i64 (p 0), .int .i64 (p 1), .int .i64 (p 2), .int .i64 (p 3), .int .i64 (p 4), .int .i64 (p 5), .int .i64 (p 6), .int .i64 (p 7), .int .i64 (p 8), .int .i64 (p 9), .int .i64 (p 10)] [.int .i64 (p 0), .int .i64 (p 1), .int .i64 (p 2), .int .i64 (p 3), .int .i64 (p 4), .int .i64 (p 5), .int .i64 (p 6), .int .i64 (p 7), .int .i64 (p 8), .int .i64 (p 9), .int .i64 (p 10)] = ([p 0, p 1, p 2, p 3, p 4, p 5, p 6, p 7, p 8, p 9, p 10] == [p 0, p 1, p 2, p 3, p 4, p 5, p 6, p 7, p 8, p 9, p 10]) from sameL_ints (a := [p 0, p 1, p 2, p 3, p 4, p 5, p 6, p 7, p 8, p 9, p 10]) (b := [p 0, p 1, p 2, p 3, p 4, p 5, p 6, p 7, p 8, p 9, p 10]) rfl, beq_self_eq_true]
set_option maxRecDepth 100000 in
set_option maxHeartbeats 3200000 in
theorem poses_law (ad : Option Addr) (n c : Nat) (m0 m1 m2 m3 t0 t1 e f : Int) (p q : Nat → Int) (w : World)
    (h36 : ∀ W, Below w.heap.size w W → Calls Try.prog 36 #[.agg #[.slice ad n c], .int .i64 40] W fun e w' => aBool e ∧ Below W.heap.size W w')
    (h58 : ∀ W, Below w.heap.size w W → Calls Try.prog 58 #[.agg #[.slice ad n c], .agg #[.int .i64 m0, .int .i64 m1, .int .i64 m2, .int .i64 m3], .int .i64 t0] W fun r w' => r = .returned (.tuple #[.agg #[.int .i64 (p 0), .int .i64 (p 1), .int .i64 (p 2), .int .i64 (p 3), .int .i64 (p 4), .int .i64 (p 5), .int .i64 (p 6), .int .i64 (p 7), .int .i64 (p 8), .int .i64 (p 9), .int .i64 (p 10)], .int .i64 e]) ∧ Below W.heap.size W w')
    (h62 : ∀ W, Below w.heap.size w W → Calls Try.prog 62 #[.agg #[.slice ad n c], .agg #[.int .i64 m0, .int .i64 m1, .int .i64 m2, .int .i64 m3], .int .i64 t0] W fun r w' => r = .returned (.tuple #[.agg #[.int .i64 (p 0), .int .i64 (p 1), .int .i64 (p 2), .int .i64 (p 3), .int .i64 (p 4), .int .i64 (p 5), .int .i64 (p 6), .int .i64 (p 7), .int .i64 (p 8), .int .i64 (p 9), .int .i64 (p 10)], .int .i64 e]) ∧ Below W.heap.size W w')
    (h63 : ∀ W, Below w.heap.size w W → Calls Try.prog 63 #[.agg #[.slice ad n c], .agg #[.int .i64 m0, .int .i64 m1, .int .i64 m2, .int .i64 m3], .agg #[.int .i64 t0, .int .i64 t1]] W fun r w' => r = .returned (.tuple #[.agg #[.int .i64 (q 0), .int .i64 (q 1), .int .i64 (q 2), .int .i64 (q 3), .int .i64 (q 4), .int .i64 (q 5), .int .i64 (q 6), .int .i64 (q 7), .int .i64 (q 8), .int .i64 (q 9), .int .i64 (q 10)], .int .i64 f]) ∧ Below W.heap.size W w')
    (h64 : ∀ W, Below w.heap.size w W → Calls Try.prog 64 #[.agg #[.slice ad n c], .agg #[.int .i64 m0, .int .i64 m1, .int .i64 m2, .int .i64 m3], .agg #[.int .i64 t0, .int .i64 t1], .bool true] W fun r w' => r = .returned (.tuple #[.agg #[.int .i64 (q 0), .int .i64 (q 1), .int .i64 (q 2), .int .i64 (q 3), .int .i64 (q 4), .int .i64 (q 5), .int .i64 (q 6), .int .i64 (q 7), .int .i64 (q 8), .int .i64 (q 9), .int .i64 (q 10)], .int .i64 f]) ∧ Below W.heap.size W w') :
    Calls Try.prog 16 #[.agg #[.slice ad n c], .agg #[.int .i64 m0, .int .i64 m1, .int .i64 m2, .int .i64 m3], .agg #[.int .i64 t0, .int .i64 t1]] w fun r w' => r = .returned (.bool true) ∧ Below w.heap.size w w' := by
  have H36 := hid h36
  have H58 := hid h58
  have H62 := hid h62
  have H63 := hid h63
  have H64 := hid h64
  have EP := hid (eq80 p)
  have EQ := hid (eq80 q)
  clear h36 h58 h62 h63 h64
  have HBw := hid (Below.refl w.heap.size w)
  go_enter Try.func16, Try.ntmps16
  go_wp2_with fail
  refine (H36.out _ (by (repeat' (first | (with_reducible exact Below.refl _ _) | (with_reducible assumption) | (with_reducible refine Below.alloc ?_ ?_ _) | (with_reducible refine Below.drew ?_) | (with_reducible refine below_drewN ?_ _) | (with_reducible refine Below.setCell ?_ ?_ _) | (with_reducible refine below_setRow ?_ ?_ _) | go_size)))).mono ?_
  rintro r w1 ⟨⟨bx, rfl⟩, hb⟩
  have HBw1 := hid ((by refine Below.trans ?_ (hb.mono ?_); (focus ((repeat' (first | (with_reducible exact Below.refl _ _) | (with_reducible assumption) | (with_reducible refine Below.alloc ?_ ?_ _) | (with_reducible refine Below.drew ?_) | (with_reducible refine below_drewN ?_ _) | (with_reducible refine Below.setCell ?_ ?_ _) | (with_reducible refine below_setRow ?_ ?_ _) | go_size)); done)); (focus (first | (simp; done) | (simp; omega)))) : Below w.heap.size w w1)
  have A1 := hid (heap_still hb (by repeat' (first | (refine heap_alloc_at _ _ _ ?_; (first | rfl | (simp; done) | (simp; omega))) | (refine heap_alloc_past _ _ _ _ ?_))) : w1.heap[w.heap.size]? = some (.cells #[.slice ad n c] 64))
  have M1 := hid (heap_still hb (by repeat' (first | (refine heap_alloc_at _ _ _ ?_; (first | rfl | (simp; done) | (simp; omega))) | (refine heap_alloc_past _ _ _ _ ?_))) : w1.heap[w.heap.size + 1]? = some (.cells #[.int .i64 m0, .int .i64 m1, .int .i64 m2, .int .i64 m3] 61))
  have T1 := hid (heap_still hb (by repeat' (first | (refine heap_alloc_at _ _ _ ?_; (first | rfl | (simp; done) | (simp; omega))) | (refine heap_alloc_past _ _ _ _ ?_))) : w1.heap[w.heap.size + 1 + 1]? = some (.cells #[.int .i64 t0, .int .i64 t1] 44))
  have hsw1 := hb.size
  (try simp at hsw1)
  have hzw1 : w.heap.size < w1.heap.size := by omega
  clear hb
  cases bx
  · have ct : w1.cell? ⟨w.heap.size + 1 + 1, 0, none⟩ = some (.int .i64 t0) := (cell_row (j := 0) T1.out).trans rfl
    go_wp2_with (first | (refine wpList_load_at rfl 64 (.tmp 3) rfl rfl A1.out Try.underlying64 rfl size64 rfl ?_) | (refine wpList_load_at rfl 61 (.tmp 4) rfl rfl M1.out Try.underlying61 rfl size61 rfl ?_))
    refine (H58.out _ HBw1.out).mono ?_
    rintro r w2 ⟨rfl, hb⟩
    have HBw2 := hid (show Below w.heap.size w w2 by have hB0 := HBw1.out; refine Below.trans ?_ (hb.mono ?_); (focus ((repeat' (first | (with_reducible exact Below.refl _ _) | (with_reducible assumption) | (with_reducible refine Below.alloc ?_ ?_ _) | (with_reducible refine Below.drew ?_) | (with_reducible refine below_drewN ?_ _) | (with_reducible refine Below.setCell ?_ ?_ _) | (with_reducible refine below_setRow ?_ ?_ _) | go_size)); done)); (focus (first | (simp; done) | (simp; omega) | (have hB1 := hB0.size; simp; omega))))
    have hsw2 := hb.size
    (try simp at hsw2)
    have hzw2 : w.heap.size < w2.heap.size := by omega
    obtain ⟨hcw2, hfw2⟩ := bcell hb
    have hkw2 := hid (fun n x => @heap_still _ _ n x hb)
    clear hb
    have A2 := hid (hkw2.out _ _ A1.out)
    have M2 := hid (hkw2.out _ _ M1.out)
    have T2 := hid (hkw2.out _ _ T1.out)
    clear hcw2 hfw2 ct
    have ct : ∀ o, (w2.alloc o).cell? ⟨w.heap.size + 1 + 1, 0, none⟩ = some (.int .i64 t0) := fun o => (cell_row (j := 0) (heap_alloc_past _ _ _ _ T2.out)).trans rfl
    go_wp2_with (first | (refine wpList_store_new rfl 80 (.tmp 7) (.tmp 24) rfl rfl rfl rfl size80b rfl rfl rfl ?_) | (refine wpList_load_at rfl 64 (.tmp 3) rfl rfl (heap_alloc_past _ _ _ _ A2.out) Try.underlying64 rfl size64 rfl ?_) | (refine wpList_load_at rfl 61 (.tmp 4) rfl rfl (heap_alloc_past _ _ _ _ M2.out) Try.underlying61 rfl size61 rfl ?_))
    have hz2 := HBw2.out.size
    have hbb2 := fun o => HBw2.out.alloc hz2 o
    refine (H62.out _ (hbb2 _)).mono ?_
    rintro r w3 ⟨rfl, hb⟩
    have HBw3 := hid (show Below w.heap.size w w3 by have hB0 := HBw2.out; refine Below.trans ?_ (hb.mono ?_); (focus ((repeat' (first | (with_reducible exact Below.refl _ _) | (with_reducible assumption) | (with_reducible refine Below.alloc ?_ ?_ _) | (with_reducible refine Below.drew ?_) | (with_reducible refine below_drewN ?_ _) | (with_reducible refine Below.setCell ?_ ?_ _) | (with_reducible refine below_setRow ?_ ?_ _) | go_size)); done)); (focus (first | (simp; done) | (simp; omega) | (have hB1 := hB0.size; simp; omega))))
    have hsw3 := hb.size
    (try simp at hsw3)
    have hzw3 : w.heap.size < w3.heap.size := by omega
    obtain ⟨hcw3, hfw3⟩ := bcell hb
    have hkw3 := hid (fun n x => @heap_still _ _ n x hb)
    clear hb
    have A3 := hid (hkw3.out _ _ (heap_alloc_past _ _ _ _ A2.out))
    have M3 := hid (hkw3.out _ _ (heap_alloc_past _ _ _ _ M2.out))
    have T3 := hid (hkw3.out _ _ (heap_alloc_past _ _ _ _ T2.out))
    have P3 := hid (hkw3.out _ _ (heap_alloc_at _ _ _ rfl) : w3.heap[w2.heap.size]? = some (.cells #[.int .i64 (p 0), .int .i64 (p 1), .int .i64 (p 2), .int .i64 (p 3), .int .i64 (p 4), .int .i64 (p 5), .int .i64 (p 6), .int .i64 (p 7), .int .i64 (p 8), .int .i64 (p 9), .int .i64 (p 10)] 80))
    clear hcw3 hfw3 ct
    go_wp2_with (first | (refine wpList_store_new rfl 80 (.tmp 9) (.tmp 32) rfl rfl rfl rfl size80b rfl rfl rfl ?_) | (refine wpList_load_at rfl 64 (.tmp 3) rfl rfl (heap_alloc_past _ _ _ _ A3.out) Try.underlying64 rfl size64 rfl ?_) | (refine wpList_load_at rfl 61 (.tmp 4) rfl rfl (heap_alloc_past _ _ _ _ M3.out) Try.underlying61 rfl size61 rfl ?_) | (refine wpList_load_at rfl 44 (.tmp 5) rfl rfl (heap_alloc_past _ _ _ _ T3.out) Try.underlying44 rfl size44 rfl ?_))
    have hz3 := HBw3.out.size
    have hbb3 := fun o => HBw3.out.alloc hz3 o
    refine (H63.out _ (hbb3 _)).mono ?_
    rintro r w4 ⟨rfl, hb⟩
    have HBw4 := hid (show Below w.heap.size w w4 by have hB0 := HBw3.out; refine Below.trans ?_ (hb.mono ?_); (focus ((repeat' (first | (with_reducible exact Below.refl _ _) | (with_reducible assumption) | (with_reducible refine Below.alloc ?_ ?_ _) | (with_reducible refine Below.drew ?_) | (with_reducible refine below_drewN ?_ _) | (with_reducible refine Below.setCell ?_ ?_ _) | (with_reducible refine below_setRow ?_ ?_ _) | go_size)); done)); (focus (first | (simp; done) | (simp; omega) | (have hB1 := hB0.size; simp; omega))))
    have hsw4 := hb.size
    (try simp at hsw4)
    have hzw4 : w.heap.size < w4.heap.size := by omega
    obtain ⟨hcw4, hfw4⟩ := bcell hb
    have hkw4 := hid (fun n x => @heap_still _ _ n x hb)
    clear hb
    have A4 := hid (hkw4.out _ _ (heap_alloc_past _ _ _ _ A3.out))
    have M4 := hid (hkw4.out _ _ (heap_alloc_past _ _ _ _ M3.out))
    have T4 := hid (hkw4.out _ _ (heap_alloc_past _ _ _ _ T3.out))
    have P4 := hid (hkw4.out _ _ (heap_alloc_past _ _ _ _ P3.out))
    have Q4 := hid (hkw4.out _ _ (heap_alloc_at _ _ _ rfl) : w4.heap[w3.heap.size]? = some (.cells #[.int .i64 (p 0), .int .i64 (p 1), .int .i64 (p 2), .int .i64 (p 3), .int .i64 (p 4), .int .i64 (p 5), .int .i64 (p 6), .int .i64 (p 7), .int .i64 (p 8), .int .i64 (p 9), .int .i64 (p 10)] 80))
    clear hcw4 hfw4
    go_wp2_with (first | (refine wpList_store_new rfl 80 (.tmp 11) (.tmp 39) rfl rfl rfl rfl size80b rfl rfl rfl ?_) | (refine wpList_load_at rfl 64 (.tmp 3) rfl rfl (heap_alloc_past _ _ _ _ A4.out) Try.underlying64 rfl size64 rfl ?_) | (refine wpList_load_at rfl 61 (.tmp 4) rfl rfl (heap_alloc_past _ _ _ _ M4.out) Try.underlying61 rfl size61 rfl ?_) | (refine wpList_load_at rfl 44 (.tmp 5) rfl rfl (heap_alloc_past _ _ _ _ T4.out) Try.underlying44 rfl size44 rfl ?_))
    have hz4 := HBw4.out.size
    have hbb4 := fun o => HBw4.out.alloc hz4 o
    refine (H64.out _ (hbb4 _)).mono ?_
    rintro r w5 ⟨rfl, hb⟩
    have HBw5 := hid (show Below w.heap.size w w5 by have hB0 := HBw4.out; refine Below.trans ?_ (hb.mono ?_); (focus ((repeat' (first | (with_reducible exact Below.refl _ _) | (with_reducible assumption) | (with_reducible refine Below.alloc ?_ ?_ _) | (with_reducible refine Below.drew ?_) | (with_reducible refine below_drewN ?_ _) | (with_reducible refine Below.setCell ?_ ?_ _) | (with_reducible refine below_setRow ?_ ?_ _) | go_size)); done)); (focus (first | (simp; done) | (simp; omega) | (have hB1 := hB0.size; simp; omega))))
    have hsw5 := hb.size
    (try simp at hsw5)
    have hzw5 : w.heap.size < w5.heap.size := by omega
    obtain ⟨hcw5, hfw5⟩ := bcell hb
    have hkw5 := hid (fun n x => @heap_still _ _ n x hb)
    clear hb
    have P5 := hid (hkw5.out _ _ (heap_alloc_past _ _ _ _ P4.out))
    have Q5 := hid (hkw5.out _ _ (heap_alloc_past _ _ _ _ Q4.out))
    have R5 := hid (hkw5.out _ _ (heap_alloc_at _ _ _ rfl) : w5.heap[w4.heap.size]? = some (.cells #[.int .i64 (q 0), .int .i64 (q 1), .int .i64 (q 2), .int .i64 (q 3), .int .i64 (q 4), .int .i64 (q 5), .int .i64 (q 6), .int .i64 (q 7), .int .i64 (q 8), .int .i64 (q 9), .int .i64 (q 10)] 80))
    clear hcw5 hfw5
    have ep := EP.out
    have eq := EQ.out
    go_wp2_with (first | (refine wpList_store_new rfl 80 (.tmp 13) (.tmp 46) rfl rfl rfl rfl size80b rfl rfl rfl ?_) | (refine wpList_load_at rfl 80 (.tmp 7) rfl rfl (heap_alloc_past _ _ _ _ P5.out) Try.underlying80 rfl size80b rfl ?_) | (refine wpList_load_at rfl 80 (.tmp 9) rfl rfl (heap_alloc_past _ _ _ _ Q5.out) Try.underlying80 rfl size80b rfl ?_) | (refine wpList_strip (by kernel_rfl) ?_; refine wpList_load_at rfl 80 (.tmp 11) rfl rfl (heap_alloc_past _ _ _ _ R5.out) Try.underlying80 rfl size80b rfl ?_) | (refine wpList_strip (by kernel_rfl) ?_; refine wpList_load_at rfl 80 (.tmp 13) rfl rfl (heap_alloc_at _ _ _ rfl) Try.underlying80 rfl size80b rfl ?_))
    refine (awake_any _).mono ?_
    rintro r w6 ⟨rfl, hb⟩
    have HBw6 := hid (show Below w.heap.size w w6 by have hB0 := HBw5.out; refine Below.trans ?_ (hb.mono ?_); (focus ((repeat' (first | (with_reducible exact Below.refl _ _) | (with_reducible assumption) | (with_reducible refine Below.alloc ?_ ?_ _) | (with_reducible refine Below.drew ?_) | (with_reducible refine below_drewN ?_ _) | (with_reducible refine Below.setCell ?_ ?_ _) | (with_reducible refine below_setRow ?_ ?_ _) | go_size)); done)); (focus (first | (simp; done) | (simp; omega) | (have hB1 := hB0.size; simp; omega))))
    have hsw6 := hb.size
    (try simp at hsw6)
    have hzw6 : w.heap.size < w6.heap.size := by omega
    obtain ⟨hcw6, hfw6⟩ := bcell hb
    have hkw6 := hid (fun n x => @heap_still _ _ n x hb)
    clear hb
    go_wp2_with fail
    go_ret
    exact ⟨rfl, HBw6.out⟩
  · go_wp2_with fail
    refine (awake_any _).mono ?_
    rintro r w3 ⟨rfl, hb3⟩
    go_wp2_with fail
    go_ret
    exact ⟨rfl, HBw1.out.trans (hb3.mono HBw1.out.size)⟩
theorem many_any (ad : Option Addr) (n c : Nat) (A : Nat → Option Addr) (L C : Nat → Nat) (F : Nat → Nat → Nat → Int) (m : Int) (w : World) (hn : n ≤ 9223372036854775807) (ht : trackAny w ad n A L C F) :
    Calls Try.prog 36 #[.agg #[.slice ad n c], .int .i64 m] w fun e w' => aBool e ∧ Below w.heap.size w w' := by
  rcases Nat.eq_zero_or_pos n with rfl | h
  · exact many_none ad c m w
  · obtain ⟨b, off, rfl, hb, h3⟩ := ht h
    exact many_at b off n c A L C F m w hb hn h3
theorem rPoseAt_any (ad : Option Addr) (n c : Nat) (m0 m1 m2 m3 t e : Int) (p : Nat → Int) (w : World)
    (h64 : ∀ W, Below w.heap.size w W → Calls Try.prog 64 #[.agg #[.slice ad n c], .agg #[.int .i64 m0, .int .i64 m1, .int .i64 m2, .int .i64 m3], .agg #[.int .i64 t, .int .i64 t], .bool false] W fun r w' => r = .returned (.tuple #[.agg #[.int .i64 (p 0), .int .i64 (p 1), .int .i64 (p 2), .int .i64 (p 3), .int .i64 (p 4), .int .i64 (p 5), .int .i64 (p 6), .int .i64 (p 7), .int .i64 (p 8), .int .i64 (p 9), .int .i64 (p 10)], .int .i64 e]) ∧ Below W.heap.size W w') :
    Calls Try.prog 62 #[.agg #[.slice ad n c], .agg #[.int .i64 m0, .int .i64 m1, .int .i64 m2, .int .i64 m3], .int .i64 t] w fun r w' => r = .returned (.tuple #[.agg #[.int .i64 (p 0), .int .i64 (p 1), .int .i64 (p 2), .int .i64 (p 3), .int .i64 (p 4), .int .i64 (p 5), .int .i64 (p 6), .int .i64 (p 7), .int .i64 (p 8), .int .i64 (p 9), .int .i64 (p 10)], .int .i64 e]) ∧ Below w.heap.size w w' := by
  have H64 := hid h64
  clear h64
  have HBw := hid (Below.refl w.heap.size w)
  go_enter Try.func62, Try.ntmps62
  go_wp2_with fail
  refine (H64.out _ (by (repeat' (first | (with_reducible exact Below.refl _ _) | (with_reducible assumption) | (with_reducible refine Below.alloc ?_ ?_ _) | (with_reducible refine Below.drew ?_) | (with_reducible refine below_drewN ?_ _) | (with_reducible refine Below.setCell ?_ ?_ _) | (with_reducible refine below_setRow ?_ ?_ _) | go_size)))).mono ?_
  rintro r w1 ⟨rfl, hb⟩
  have HBw1 := hid (show Below w.heap.size w w1 by have hB0 := HBw.out; refine Below.trans ?_ (hb.mono ?_); (focus ((repeat' (first | (with_reducible exact Below.refl _ _) | (with_reducible assumption) | (with_reducible refine Below.alloc ?_ ?_ _) | (with_reducible refine Below.drew ?_) | (with_reducible refine below_drewN ?_ _) | (with_reducible refine Below.setCell ?_ ?_ _) | (with_reducible refine below_setRow ?_ ?_ _) | go_size)); done)); (focus (first | (simp; done) | (simp; omega) | (have hB1 := hB0.size; simp; omega))))
  have hsw1 := hb.size
  (try simp at hsw1)
  have hzw1 : w.heap.size < w1.heap.size := by omega
  obtain ⟨hcw1, hfw1⟩ := bcell hb
  have hkw1 := hid (fun n x => @heap_still _ _ n x hb)
  clear hb
  have D1 := hid (hkw1.out _ _ (by repeat' (first | (refine heap_alloc_at _ _ _ ?_; (first | rfl | (simp; done) | (simp; omega))) | (refine heap_alloc_past _ _ _ _ ?_))) : w1.heap[w.heap.size + 1 + 1]? = some (.cells #[.int .i64 0, .int .i64 0, .int .i64 0, .int .i64 0, .int .i64 0, .int .i64 0, .int .i64 0, .int .i64 0, .int .i64 0, .int .i64 0, .int .i64 0] 80))
  clear hcw1 hfw1
  go_wp2_with (refine wpList_store_at rfl 80 (.tmp 6) (.tmp 14) rfl rfl rfl D1.out size80b rfl rfl rfl ?_)
  refine bodyPost_ret (results_at2 rfl rfl (setRow_heap _ _ _ _ _ _ D1.out) Try.underlying80 rfl size80b rfl) rfl ?_
  exact ⟨rfl, below_setRow HBw1.out (by omega) _⟩
theorem poses_any (ad : Option Addr) (n c : Nat) (A : Nat → Option Addr) (L C : Nat → Nat) (F : Nat → Nat → Nat → Int) (m0 m1 m2 m3 t0 t1 : Int) (w : World) (hn : n ≤ 9223372036854775807) (hL : ∀ p, L p ≤ 9223372036854775807) (ht : trackAny w ad n A L C F) :
    Calls Try.prog 16 #[.agg #[.slice ad n c], .agg #[.int .i64 m0, .int .i64 m1, .int .i64 m2, .int .i64 m3], .agg #[.int .i64 t0, .int .i64 t1]] w fun r w' => r = .returned (.bool true) ∧ Below w.heap.size w w' := by
  obtain ⟨p, e, hp⟩ := over_form false m0 m1 m2 m3 n L F t0 t0
  obtain ⟨q, f, hq⟩ := over_form true m0 m1 m2 m3 n L F t0 t1
  refine poses_law ad n c m0 m1 m2 m3 t0 t1 e f p q w (fun W h => many_any ad n c A L C F 40 W hn (ht.still h)) (fun W h => ?_) (fun W h => rPoseAt_any ad n c m0 m1 m2 m3 t0 e p W (fun W' h' => ?_)) (fun W h => ?_) (fun W h => ?_)
  · have := xPoseAt_any ad n c A L C F m0 m1 m2 m3 t0 W hn hL (ht.still h)
    rw [at_over, hp] at this
    exact this
  · have := rPoseOver_no ad n c A L C F m0 m1 m2 m3 t0 t0 W' hn hL (ht.still (h.trans (h'.mono h.size))) rfl
    rw [hp] at this
    exact this
  · have := xPoseOver_any ad n c A L C F m0 m1 m2 m3 t0 t1 W hn hL (ht.still h)
    rw [hq] at this
    exact this
  · have := rPoseOver_yes ad n c A L C F m0 m1 m2 m3 t0 t1 W hn hL (ht.still h)
    rw [hq] at this
    exact this
theorem poses_args (W : World) (ad : Option Addr) (n c : Nat) (ms ts : List Int) (hm : ms.length = 4) (hs : ts.length = 2) (hn : n ≤ maxLen)
    (ht : n = 0 ∨ ∃ (b off : Nat) (A : Nat → Option Addr) (L C : Nat → Nat) (F : Nat → Nat → Nat → Int), ad = some ⟨b, off, none⟩ ∧ b < W.heap.size ∧ (∀ p, L p ≤ maxLen) ∧ trackAt W b off n A L C F) :
    Calls Try.prog 16 #[.agg #[.slice ad n c], .agg (ms.map (Value.int .i64)).toArray, .agg (ts.map (Value.int .i64)).toArray] W fun r w' => r = .returned (.bool true) ∧ Below W.heap.size W w' := by
  have hk : maxLen ≤ 9223372036854775807 := by decide
  match ms, hm, ts, hs with
  | [m0, m1, m2, m3], _, [t0, t1], _ =>
    rcases ht with rfl | ⟨b, off, A, L, C, F, rfl, hb, hL, ht⟩
    · exact poses_any ad 0 c (fun _ => none) (fun _ => 0) (fun _ => 0) (fun _ _ _ => 0) m0 m1 m2 m3 t0 t1 W (by decide) (fun _ => by decide) (fun h => absurd h (by decide))
    · exact poses_any _ n c A L C F m0 m1 m2 m3 t0 t1 W (by omega) (fun p => Nat.le_trans (hL p) hk) (fun _ => ⟨b, off, rfl, hb, ht⟩)
set_option maxRecDepth 100000 in
theorem trackPoses_lifted (os : Os) (started : os.Started) (H : Type) (enc : TypeId × Value → H) :
    ReturnsInHanded {} Try.checked os 16 .any (Rows.trackPosesSpec.pre6 enc Try.prog Try.f16 Rows.trackPosesRow.domain false) (Rows.trackPosesSpec.post enc Try.prog Try.f16 false true false false) := by
  refine law_lifted (C := Try.checked) (tb := 4) lawOwn started (by kernel_rfl) Try.func16 rfl ?_ (show Try.f16.resultTypes = #[4] by kernel_rfl) Try.underlying4 lawLaid ?_
    (ChangeSpec.witness6 (enc := enc) (C := Try.checked) false ⟨#[], #[.agg #[.slice none 0 0], .agg #[.int .i64 0, .int .i64 0, .int .i64 0, .int .i64 0], .agg #[.int .i64 0, .int .i64 0]], []⟩ 8 (by kernel_rfl) (by kernel_rfl) (by kernel_rfl) (by kernel_rfl)) ?_
  · intro ds hds
    match ds, hds with
    | [d1, d2, d3], _ => exact ⟨rfl, rfl, rfl⟩
  · rw [Try.params16]
    intro t ht
    simp at ht
    rcases ht with rfl | rfl | rfl
    all_goals exact ⟨by kernel_rfl, of_decide_eq_true (by kernel_rfl)⟩
  · intro W base args ds p hval hA hlt _
    change DataW.TrodAll enc Try.prog W 0 (fun _ => true) true Try.f16.params.toList args.toList ds p at hA
    change ∀ (j : Nat) t v, Try.f16.params[j]? = some t → args[j]? = some v → Value.okWide Try.prog W .any base t v at hval
    rw [Try.params16] at hA hval
    obtain ⟨v0, vs0, d0, ds0, p0, q0, hargs, rfl, rfl, h0, r0⟩ := trodAll_cons hA
    obtain ⟨v1, vs1, d1, ds1, p1, q1, rfl, rfl, rfl, h1, r1⟩ := trodAll_cons r0
    obtain ⟨v2, vs2, d2, ds2, p2, q2, rfl, rfl, rfl, h2, r2⟩ := trodAll_cons r1
    obtain ⟨rfl, rfl, rfl⟩ := trodAll_nil r2
    obtain rfl : args = #[v0, v1, v2] := by cases args; simp_all
    obtain ⟨ad, n, c, e0, hn, ht⟩ := open_track (hval 0 64 v0 rfl rfl) h0
    obtain ⟨c1, e1, f1⟩ := open_flat lawFlat61 lawSize61 (by kernel_rfl) (hval 1 61 v1 rfl rfl) h1
    obtain ⟨c2, e2, f2⟩ := open_flat lawFlat44 lawSize44 (by kernel_rfl) (hval 2 44 v2 rfl rfl) h2
    obtain ⟨ms, hm, rfl⟩ := lawCells f1
    obtain ⟨ts, hs, rfl⟩ := lawCells f2
    rw [e0, e1, e2]
    exact poses_args W ad n c ms ts hm hs hn ht

/-- TrackPoses, whatever the input. -/
theorem trackPoses_holds : Rows.TrackPosesSaid :=
  OpenClaim.holds_of_wide 16 Try.f16 rfl rfl rfl rfl rfl rfl rfl ⟨rfl, rfl, rfl, rfl, rfl⟩ rfl rfl rfl rfl rfl (by kernel_rfl) Try.func16 (by kernel_rfl)
    (of_decide_eq_true (by kernel_rfl)) (by unfold Func.isWrapper; rw [if_neg (of_decide_eq_false (by kernel_rfl))]; exact ⟨rfl, rfl⟩)
    (fun os started H enc _ => trackPoses_lifted os started H enc)
#print axioms trackPoses_holds
end Go.Proofs.Yteoikaedpgianaa
