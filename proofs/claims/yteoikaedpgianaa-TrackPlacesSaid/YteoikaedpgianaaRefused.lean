/- The errors of Locate's arguments, as the program finds them. -/
import Derived.Test.YteoikaedpgianaaScale
import Derived.Test.YteoikaedpgianaaValid
import Derived.LoopN
namespace Go.Proofs.Yteoikaedpgianaa
open Go.RowKit Limb

def poseErr (x0 x1 y0 y1 z0 z1 a b c d t e f g h r0 r1 : Int) : Int :=
  if spanB x0 x1 = true then if [x0, x1].all (inB (-268435456) 268435456) = true then if spanB y0 y1 = true then if [y0, y1].all (inB (-268435456) 268435456) = true then if spanB z0 z1 = true then if [z0, z1].all (inB (-268435456) 268435456) = true then
    if inB 0 2147483648 t = true then if spanB r0 r1 = true then if [r0, r1].all (inB 0 4194304) = true then if turnB 1000 a b c d = true then if turnB 1000 e f g h = true then 0 else 46 else 46 else 2 else 2 else 2 else 2 else 2 else 2 else 2 else 2 else 2
theorem size80 : (Try.prog.info? 80).map (·.size) = some 11 := by kernel_rfl
theorem index78_0 (x0 x1 y0 y1 z0 z1 : Int) (W : World) : (Instr.index 78 (.agg #[.int .i64 x0, .int .i64 x1, .int .i64 y0, .int .i64 y1, .int .i64 z0, .int .i64 z1]) (.int .i64 0)).run Try.prog W = .ok (.agg #[.int .i64 x0, .int .i64 x1]) W := by kernel_rfl
theorem index78_1 (x0 x1 y0 y1 z0 z1 : Int) (W : World) : (Instr.index 78 (.agg #[.int .i64 x0, .int .i64 x1, .int .i64 y0, .int .i64 y1, .int .i64 z0, .int .i64 z1]) (.int .i64 1)).run Try.prog W = .ok (.agg #[.int .i64 y0, .int .i64 y1]) W := by kernel_rfl
theorem index78_2 (x0 x1 y0 y1 z0 z1 : Int) (W : World) : (Instr.index 78 (.agg #[.int .i64 x0, .int .i64 x1, .int .i64 y0, .int .i64 y1, .int .i64 z0, .int .i64 z1]) (.int .i64 2)).run Try.prog W = .ok (.agg #[.int .i64 z0, .int .i64 z1]) W := by kernel_rfl
set_option maxRecDepth 100000 in
set_option maxHeartbeats 6400000 in
theorem refused_any (x0 x1 y0 y1 z0 z1 a b c d t e f g h r0 r1 : Int) (w : World) :
    Calls Try.prog 94 #[.agg #[.int .i64 x0, .int .i64 x1, .int .i64 y0, .int .i64 y1, .int .i64 z0, .int .i64 z1, .int .i64 a, .int .i64 b, .int .i64 c, .int .i64 d, .int .i64 t], .agg #[.int .i64 e, .int .i64 f, .int .i64 g, .int .i64 h], .agg #[.int .i64 r0, .int .i64 r1]] w
      fun r w' => r = .returned (.int .i64 (poseErr x0 x1 y0 y1 z0 z1 a b c d t e f g h r0 r1)) ∧ Below w.heap.size w w' := by
  have hi0 := index78_0 x0 x1 y0 y1 z0 z1
  have hi1 := index78_1 x0 x1 y0 y1 z0 z1
  have hi2 := index78_2 x0 x1 y0 y1 z0 z1
  have HBw := hid (Below.refl w.heap.size w)
  by_cases h1 : spanB x0 x1 = true
  · by_cases h2 : [x0, x1].all (inB (-268435456) 268435456) = true
    · by_cases h3 : spanB y0 y1 = true
      · by_cases h4 : [y0, y1].all (inB (-268435456) 268435456) = true
        · by_cases h5 : spanB z0 z1 = true
          · by_cases h6 : [z0, z1].all (inB (-268435456) 268435456) = true
            · by_cases h7 : inB 0 2147483648 t = true
              · by_cases h8 : spanB r0 r1 = true
                · by_cases h9 : [r0, r1].all (inB 0 4194304) = true
                  · by_cases h10 : turnB 1000 a b c d = true
                    · by_cases h11 : turnB 1000 e f g h = true
                      · have HS := hid (show poseErr x0 x1 y0 y1 z0 z1 a b c d t e f g h r0 r1 = 0 by simp [poseErr, h1, h2, h3, h4, h5, h6, h7, h8, h9, h10, h11])
                        have H1 := hid h1
                        have H2 := hid h2
                        have H3 := hid h3
                        have H4 := hid h4
                        have H5 := hid h5
                        have H6 := hid h6
                        have H7 := hid h7
                        have H8 := hid h8
                        have H9 := hid h9
                        have H10 := hid h10
                        have H11 := hid h11
                        clear h1 h2 h3 h4 h5 h6 h7 h8 h9 h10 h11
                        go_enter Try.func94, Try.ntmps94
                        go_wp2_with fail
                        refine wp_loop_rounds 4 ?_
                        rw [rounds_succ]
                        go_wp2_with fail
                        refine (valid_any _ _ _).mono ?_
                        rintro r v1 ⟨rfl, hb⟩
                        have HBv1 := hid (show Below w.heap.size w v1 by have hB0 := HBw.out; refine Below.trans ?_ (hb.mono ?_); (focus ((repeat' (first | (with_reducible exact Below.refl _ _) | (with_reducible assumption) | (with_reducible refine Below.alloc ?_ ?_ _) | (with_reducible refine Below.drew ?_) | (with_reducible refine below_drewN ?_ _) | (with_reducible refine Below.setCell ?_ ?_ _) | (with_reducible refine below_setRow ?_ ?_ _) | go_size)); done)); (focus (first | (simp; done) | (simp; omega) | (have hB1 := hB0.size; simp; omega))))
                        have hsv1 := hb.size
                        (try simp at hsv1)
                        have hzv1 : w.heap.size < v1.heap.size := by omega
                        obtain ⟨hcv1, hfv1⟩ := bcell hb
                        have hkv1 := hid (fun n x => @heap_still _ _ n x hb)
                        clear hb
                        have Pv1 := hid (hkv1.out _ _ (by repeat' (first | (refine heap_alloc_at _ _ _ ?_; (first | rfl | (simp; done) | (simp; omega))) | (refine heap_alloc_past _ _ _ _ ?_))) : v1.heap[w.heap.size]? = some (.cells #[.int .i64 x0, .int .i64 x1, .int .i64 y0, .int .i64 y1, .int .i64 z0, .int .i64 z1, .int .i64 a, .int .i64 b, .int .i64 c, .int .i64 d, .int .i64 t] 80))
                        have Sv1 := hid (hkv1.out _ _ (by repeat' (first | (refine heap_alloc_at _ _ _ ?_; (first | rfl | (simp; done) | (simp; omega))) | (refine heap_alloc_past _ _ _ _ ?_))) : v1.heap[w.heap.size + 1]? = some (row4 e f g h))
                        have Rv1 := hid (hkv1.out _ _ (by repeat' (first | (refine heap_alloc_at _ _ _ ?_; (first | rfl | (simp; done) | (simp; omega))) | (refine heap_alloc_past _ _ _ _ ?_))) : v1.heap[w.heap.size + 1 + 1]? = some (.cells #[.int .i64 r0, .int .i64 r1] 44))
                        have b0 : v1.cell? ⟨w.heap.size + 1 + 1 + 1, 0, none⟩ = some (.int .i64 x0) := (cell_row (j := 0) (hkv1.out _ _ (by repeat' (first | (refine heap_alloc_at _ _ _ ?_; (first | rfl | (simp; done) | (simp; omega))) | (refine heap_alloc_past _ _ _ _ ?_))) : v1.heap[w.heap.size + 1 + 1 + 1]? = some (.cells #[.int .i64 x0, .int .i64 x1] 44))).trans rfl
                        have b1 : v1.cell? ⟨w.heap.size + 1 + 1 + 1, 1, none⟩ = some (.int .i64 x1) := (cell_row (j := 1) (hkv1.out _ _ (by repeat' (first | (refine heap_alloc_at _ _ _ ?_; (first | rfl | (simp; done) | (simp; omega))) | (refine heap_alloc_past _ _ _ _ ?_))) : v1.heap[w.heap.size + 1 + 1 + 1]? = some (.cells #[.int .i64 x0, .int .i64 x1] 44))).trans rfl
                        have HB := HBv1
                        clear hcv1 hfv1
                        rw [H1.out]
                        go_wp2_with fail
                        refine (within_any _ _ _ _ _ _ [x0, x1] _ rfl (by simp) (cells_ints _ (by repeat' (first | (refine heap_alloc_at _ _ _ ?_; (first | rfl | (simp; done) | (simp; omega))) | (refine heap_alloc_past _ _ _ _ ?_))) rfl)).mono ?_
                        rintro r w' ⟨rfl, rfl⟩
                        rw [H2.out]
                        go_wp2_with fail
                        rw [rounds_succ]
                        go_wp2_with fail
                        refine (valid_any _ _ _).mono ?_
                        rintro r v2 ⟨rfl, hb⟩
                        have HBv2 := hid (show Below w.heap.size w v2 by have hB0 := HBv1.out; refine Below.trans ?_ (hb.mono ?_); (focus ((repeat' (first | (with_reducible exact Below.refl _ _) | (with_reducible assumption) | (with_reducible refine Below.alloc ?_ ?_ _) | (with_reducible refine Below.drew ?_) | (with_reducible refine below_drewN ?_ _) | (with_reducible refine Below.setCell ?_ ?_ _) | (with_reducible refine below_setRow ?_ ?_ _) | go_size)); done)); (focus (first | (simp; done) | (simp; omega) | (have hB1 := hB0.size; simp; omega))))
                        have hsv2 := hb.size
                        (try simp at hsv2)
                        have hzv2 : w.heap.size < v2.heap.size := by omega
                        obtain ⟨hcv2, hfv2⟩ := bcell hb
                        have hkv2 := hid (fun n x => @heap_still _ _ n x hb)
                        clear hb
                        have b0 : v2.cell? ⟨v1.heap.size + 1, 0, none⟩ = some (.int .i64 y0) := (cell_row (j := 0) (hkv2.out _ _ (heap_alloc_at _ _ _ (by simp)) : v2.heap[v1.heap.size + 1]? = some (.cells #[.int .i64 y0, .int .i64 y1] 44))).trans rfl
                        have b1 : v2.cell? ⟨v1.heap.size + 1, 1, none⟩ = some (.int .i64 y1) := (cell_row (j := 1) (hkv2.out _ _ (heap_alloc_at _ _ _ (by simp)) : v2.heap[v1.heap.size + 1]? = some (.cells #[.int .i64 y0, .int .i64 y1] 44))).trans rfl
                        have Pv2 := hid (hkv2.out _ _ (by repeat' (first | exact Pv1.out | (refine heap_alloc_past _ _ _ _ ?_))) : v2.heap[w.heap.size]? = some (.cells #[.int .i64 x0, .int .i64 x1, .int .i64 y0, .int .i64 y1, .int .i64 z0, .int .i64 z1, .int .i64 a, .int .i64 b, .int .i64 c, .int .i64 d, .int .i64 t] 80))
                        have Sv2 := hid (hkv2.out _ _ (by repeat' (first | exact Sv1.out | (refine heap_alloc_past _ _ _ _ ?_))) : v2.heap[w.heap.size + 1]? = some (row4 e f g h))
                        have Rv2 := hid (hkv2.out _ _ (by repeat' (first | exact Rv1.out | (refine heap_alloc_past _ _ _ _ ?_))) : v2.heap[w.heap.size + 1 + 1]? = some (.cells #[.int .i64 r0, .int .i64 r1] 44))
                        have HB := HBv2
                        clear hcv2 hfv2
                        rw [H3.out]
                        go_wp2_with fail
                        refine (within_any _ _ _ _ _ _ [y0, y1] _ rfl (by simp) (cells_ints _ (by repeat' (first | (refine heap_alloc_at _ _ _ ?_; (first | rfl | (simp; done) | (simp; omega))) | (refine heap_alloc_past _ _ _ _ ?_))) rfl)).mono ?_
                        rintro r w' ⟨rfl, rfl⟩
                        rw [H4.out]
                        go_wp2_with fail
                        rw [rounds_succ]
                        go_wp2_with fail
                        refine (valid_any _ _ _).mono ?_
                        rintro r v3 ⟨rfl, hb⟩
                        have HBv3 := hid (show Below w.heap.size w v3 by have hB0 := HBv2.out; refine Below.trans ?_ (hb.mono ?_); (focus ((repeat' (first | (with_reducible exact Below.refl _ _) | (with_reducible assumption) | (with_reducible refine Below.alloc ?_ ?_ _) | (with_reducible refine Below.drew ?_) | (with_reducible refine below_drewN ?_ _) | (with_reducible refine Below.setCell ?_ ?_ _) | (with_reducible refine below_setRow ?_ ?_ _) | go_size)); done)); (focus (first | (simp; done) | (simp; omega) | (have hB1 := hB0.size; simp; omega))))
                        have hsv3 := hb.size
                        (try simp at hsv3)
                        have hzv3 : w.heap.size < v3.heap.size := by omega
                        obtain ⟨hcv3, hfv3⟩ := bcell hb
                        have hkv3 := hid (fun n x => @heap_still _ _ n x hb)
                        clear hb
                        have b0 : v3.cell? ⟨v2.heap.size + 1, 0, none⟩ = some (.int .i64 z0) := (cell_row (j := 0) (hkv3.out _ _ (heap_alloc_at _ _ _ (by simp)) : v3.heap[v2.heap.size + 1]? = some (.cells #[.int .i64 z0, .int .i64 z1] 44))).trans rfl
                        have b1 : v3.cell? ⟨v2.heap.size + 1, 1, none⟩ = some (.int .i64 z1) := (cell_row (j := 1) (hkv3.out _ _ (heap_alloc_at _ _ _ (by simp)) : v3.heap[v2.heap.size + 1]? = some (.cells #[.int .i64 z0, .int .i64 z1] 44))).trans rfl
                        have Pv3 := hid (hkv3.out _ _ (by repeat' (first | exact Pv2.out | (refine heap_alloc_past _ _ _ _ ?_))) : v3.heap[w.heap.size]? = some (.cells #[.int .i64 x0, .int .i64 x1, .int .i64 y0, .int .i64 y1, .int .i64 z0, .int .i64 z1, .int .i64 a, .int .i64 b, .int .i64 c, .int .i64 d, .int .i64 t] 80))
                        have Sv3 := hid (hkv3.out _ _ (by repeat' (first | exact Sv2.out | (refine heap_alloc_past _ _ _ _ ?_))) : v3.heap[w.heap.size + 1]? = some (row4 e f g h))
                        have Rv3 := hid (hkv3.out _ _ (by repeat' (first | exact Rv2.out | (refine heap_alloc_past _ _ _ _ ?_))) : v3.heap[w.heap.size + 1 + 1]? = some (.cells #[.int .i64 r0, .int .i64 r1] 44))
                        have HB := HBv3
                        clear hcv3 hfv3
                        rw [H5.out]
                        go_wp2_with fail
                        refine (within_any _ _ _ _ _ _ [z0, z1] _ rfl (by simp) (cells_ints _ (by repeat' (first | (refine heap_alloc_at _ _ _ ?_; (first | rfl | (simp; done) | (simp; omega))) | (refine heap_alloc_past _ _ _ _ ?_))) rfl)).mono ?_
                        rintro r w' ⟨rfl, rfl⟩
                        rw [H6.out]
                        go_wp2_with fail
                        rw [rounds_succ]
                        have hz2 : w.heap.size + 1 + 1 < v3.heap.size := (Array.getElem?_eq_some_iff.1 Rv3.out).1
                        have t0 : v3.cell? ⟨w.heap.size, 10, none⟩ = some (.int .i64 t) := (cell_row (j := 10) Pv3.out).trans rfl
                        go_wp2_with fail
                        refine (within1 _ _ (t) _ _ _ ?_).mono ?_
                        focus first | (simp; done) | (simp [go_sem]; done)
                        rintro r w1 ⟨rfl, rfl⟩
                        have b0 : ∀ o1 o2, ((v3.alloc o1).alloc o2).cell? ⟨w.heap.size + 1 + 1, 0, none⟩ = some (.int .i64 r0) := fun o1 o2 => (cell_row (j := 0) (heap_alloc_past _ _ _ _ (heap_alloc_past _ _ _ _ Rv3.out))).trans rfl
                        have b1 : ∀ o1 o2, ((v3.alloc o1).alloc o2).cell? ⟨w.heap.size + 1 + 1, 1, none⟩ = some (.int .i64 r1) := fun o1 o2 => (cell_row (j := 1) (heap_alloc_past _ _ _ _ (heap_alloc_past _ _ _ _ Rv3.out))).trans rfl
                        rw [H7.out]
                        go_wp2_with fail
                        refine (valid_any _ _ _).mono ?_
                        rintro r v4 ⟨rfl, hb⟩
                        have HBv4 := hid (show Below w.heap.size w v4 by have hB0 := HBv3.out; refine Below.trans ?_ (hb.mono ?_); (focus ((repeat' (first | (with_reducible exact Below.refl _ _) | (with_reducible assumption) | (with_reducible refine Below.alloc ?_ ?_ _) | (with_reducible refine Below.drew ?_) | (with_reducible refine below_drewN ?_ _) | (with_reducible refine Below.setCell ?_ ?_ _) | (with_reducible refine below_setRow ?_ ?_ _) | go_size)); done)); (focus (first | (simp; done) | (simp; omega) | (have hB1 := hB0.size; simp; omega))))
                        have hsv4 := hb.size
                        (try simp at hsv4)
                        have hzv4 : w.heap.size < v4.heap.size := by omega
                        obtain ⟨hcv4, hfv4⟩ := bcell hb
                        have hkv4 := hid (fun n x => @heap_still _ _ n x hb)
                        clear hb
                        have Pv4 := hid (hkv4.out _ _ (by repeat' (first | exact Pv3.out | (refine heap_alloc_past _ _ _ _ ?_))) : v4.heap[w.heap.size]? = some (.cells #[.int .i64 x0, .int .i64 x1, .int .i64 y0, .int .i64 y1, .int .i64 z0, .int .i64 z1, .int .i64 a, .int .i64 b, .int .i64 c, .int .i64 d, .int .i64 t] 80))
                        have Sv4 := hid (hkv4.out _ _ (by repeat' (first | exact Sv3.out | (refine heap_alloc_past _ _ _ _ ?_))) : v4.heap[w.heap.size + 1]? = some (row4 e f g h))
                        have Rv4 := hid (hkv4.out _ _ (by repeat' (first | exact Rv3.out | (refine heap_alloc_past _ _ _ _ ?_))) : v4.heap[w.heap.size + 1 + 1]? = some (.cells #[.int .i64 r0, .int .i64 r1] 44))
                        have HB := HBv4
                        clear hcv4 hfv4
                        have b0 : v4.cell? ⟨w.heap.size + 1 + 1, 0, none⟩ = some (.int .i64 r0) := (cell_row (j := 0) Rv4.out).trans rfl
                        have b1 : v4.cell? ⟨w.heap.size + 1 + 1, 1, none⟩ = some (.int .i64 r1) := (cell_row (j := 1) Rv4.out).trans rfl
                        rw [H8.out]
                        go_wp2_with fail
                        refine (within_any _ _ _ _ _ _ [r0, r1] _ rfl (by simp) (cells_ints _ (by repeat' (first | (refine heap_alloc_at _ _ _ ?_; (first | rfl | (simp; done) | (simp; omega))) | (refine heap_alloc_past _ _ _ _ ?_))) rfl)).mono ?_
                        rintro r w' ⟨rfl, rfl⟩
                        have p6 : ∀ o, (v4.alloc o).cell? ⟨w.heap.size, 6, none⟩ = some (.int .i64 a) := fun o => (cell_row (j := 6) (heap_alloc_past _ _ _ _ Pv4.out)).trans rfl
                        have p7 : ∀ o, (v4.alloc o).cell? ⟨w.heap.size, 7, none⟩ = some (.int .i64 b) := fun o => (cell_row (j := 7) (heap_alloc_past _ _ _ _ Pv4.out)).trans rfl
                        have p8 : ∀ o, (v4.alloc o).cell? ⟨w.heap.size, 8, none⟩ = some (.int .i64 c) := fun o => (cell_row (j := 8) (heap_alloc_past _ _ _ _ Pv4.out)).trans rfl
                        have p9 : ∀ o, (v4.alloc o).cell? ⟨w.heap.size, 9, none⟩ = some (.int .i64 d) := fun o => (cell_row (j := 9) (heap_alloc_past _ _ _ _ Pv4.out)).trans rfl
                        rw [H9.out]
                        go_wp2_with fail
                        refine (validTurn_any _ _ _ _ _).mono ?_
                        rintro r v5 ⟨rfl, hb⟩
                        have HBv5 := hid (show Below w.heap.size w v5 by have hB0 := HBv4.out; refine Below.trans ?_ (hb.mono ?_); (focus ((repeat' (first | (with_reducible exact Below.refl _ _) | (with_reducible assumption) | (with_reducible refine Below.alloc ?_ ?_ _) | (with_reducible refine Below.drew ?_) | (with_reducible refine below_drewN ?_ _) | (with_reducible refine Below.setCell ?_ ?_ _) | (with_reducible refine below_setRow ?_ ?_ _) | go_size)); done)); (focus (first | (simp; done) | (simp; omega) | (have hB1 := hB0.size; simp; omega))))
                        have hsv5 := hb.size
                        (try simp at hsv5)
                        have hzv5 : w.heap.size < v5.heap.size := by omega
                        obtain ⟨hcv5, hfv5⟩ := bcell hb
                        have hkv5 := hid (fun n x => @heap_still _ _ n x hb)
                        clear hb
                        have Pv5 := hid (hkv5.out _ _ (by repeat' (first | exact Pv4.out | (refine heap_alloc_past _ _ _ _ ?_))) : v5.heap[w.heap.size]? = some (.cells #[.int .i64 x0, .int .i64 x1, .int .i64 y0, .int .i64 y1, .int .i64 z0, .int .i64 z1, .int .i64 a, .int .i64 b, .int .i64 c, .int .i64 d, .int .i64 t] 80))
                        have Sv5 := hid (hkv5.out _ _ (by repeat' (first | exact Sv4.out | (refine heap_alloc_past _ _ _ _ ?_))) : v5.heap[w.heap.size + 1]? = some (row4 e f g h))
                        have Rv5 := hid (hkv5.out _ _ (by repeat' (first | exact Rv4.out | (refine heap_alloc_past _ _ _ _ ?_))) : v5.heap[w.heap.size + 1 + 1]? = some (.cells #[.int .i64 r0, .int .i64 r1] 44))
                        have HB := HBv5
                        clear hcv5 hfv5
                        have hz2v5 : w.heap.size + 1 + 1 < v5.heap.size := (Array.getElem?_eq_some_iff.1 Rv5.out).1
                        have p6 : v5.cell? ⟨w.heap.size + 1, 0, none⟩ = some (.int .i64 e) := (cell_row (j := 0) Sv5.out).trans rfl
                        have p7 : v5.cell? ⟨w.heap.size + 1, 1, none⟩ = some (.int .i64 f) := (cell_row (j := 1) Sv5.out).trans rfl
                        have p8 : v5.cell? ⟨w.heap.size + 1, 2, none⟩ = some (.int .i64 g) := (cell_row (j := 2) Sv5.out).trans rfl
                        have p9 : v5.cell? ⟨w.heap.size + 1, 3, none⟩ = some (.int .i64 h) := (cell_row (j := 3) Sv5.out).trans rfl
                        rw [H10.out]
                        go_wp2_with fail
                        refine (validTurn_any _ _ _ _ _).mono ?_
                        rintro r v6 ⟨rfl, hb⟩
                        have HBv6 := hid (show Below w.heap.size w v6 by have hB0 := HBv5.out; refine Below.trans ?_ (hb.mono ?_); (focus ((repeat' (first | (with_reducible exact Below.refl _ _) | (with_reducible assumption) | (with_reducible refine Below.alloc ?_ ?_ _) | (with_reducible refine Below.drew ?_) | (with_reducible refine below_drewN ?_ _) | (with_reducible refine Below.setCell ?_ ?_ _) | (with_reducible refine below_setRow ?_ ?_ _) | go_size)); done)); (focus (first | (simp; done) | (simp; omega) | (have hB1 := hB0.size; simp; omega))))
                        have hsv6 := hb.size
                        (try simp at hsv6)
                        have hzv6 : w.heap.size < v6.heap.size := by omega
                        obtain ⟨hcv6, hfv6⟩ := bcell hb
                        have hkv6 := hid (fun n x => @heap_still _ _ n x hb)
                        clear hb
                        have HB := HBv6
                        rw [H11.out]
                        go_wp2_with fail
                        go_ret
                        refine ⟨by rw [HS.out]; rfl, ?_⟩
                        (try have hB0 := HB.out)
                        (repeat' (first | (with_reducible exact Below.refl _ _) | (with_reducible assumption) | (with_reducible refine Below.alloc ?_ ?_ _) | (with_reducible refine Below.drew ?_) | (with_reducible refine below_drewN ?_ _) | (with_reducible refine Below.setCell ?_ ?_ _) | (with_reducible refine below_setRow ?_ ?_ _) | go_size))
                      · have HS := hid (show poseErr x0 x1 y0 y1 z0 z1 a b c d t e f g h r0 r1 = 46 by simp [poseErr, h1, h2, h3, h4, h5, h6, h7, h8, h9, h10, h11])
                        have H1 := hid h1
                        have H2 := hid h2
                        have H3 := hid h3
                        have H4 := hid h4
                        have H5 := hid h5
                        have H6 := hid h6
                        have H7 := hid h7
                        have H8 := hid h8
                        have H9 := hid h9
                        have H10 := hid h10
                        have H11 := hid (Bool.eq_false_iff.2 h11)
                        clear h1 h2 h3 h4 h5 h6 h7 h8 h9 h10 h11
                        go_enter Try.func94, Try.ntmps94
                        go_wp2_with fail
                        refine wp_loop_rounds 4 ?_
                        rw [rounds_succ]
                        go_wp2_with fail
                        refine (valid_any _ _ _).mono ?_
                        rintro r v1 ⟨rfl, hb⟩
                        have HBv1 := hid (show Below w.heap.size w v1 by have hB0 := HBw.out; refine Below.trans ?_ (hb.mono ?_); (focus ((repeat' (first | (with_reducible exact Below.refl _ _) | (with_reducible assumption) | (with_reducible refine Below.alloc ?_ ?_ _) | (with_reducible refine Below.drew ?_) | (with_reducible refine below_drewN ?_ _) | (with_reducible refine Below.setCell ?_ ?_ _) | (with_reducible refine below_setRow ?_ ?_ _) | go_size)); done)); (focus (first | (simp; done) | (simp; omega) | (have hB1 := hB0.size; simp; omega))))
                        have hsv1 := hb.size
                        (try simp at hsv1)
                        have hzv1 : w.heap.size < v1.heap.size := by omega
                        obtain ⟨hcv1, hfv1⟩ := bcell hb
                        have hkv1 := hid (fun n x => @heap_still _ _ n x hb)
                        clear hb
                        have Pv1 := hid (hkv1.out _ _ (by repeat' (first | (refine heap_alloc_at _ _ _ ?_; (first | rfl | (simp; done) | (simp; omega))) | (refine heap_alloc_past _ _ _ _ ?_))) : v1.heap[w.heap.size]? = some (.cells #[.int .i64 x0, .int .i64 x1, .int .i64 y0, .int .i64 y1, .int .i64 z0, .int .i64 z1, .int .i64 a, .int .i64 b, .int .i64 c, .int .i64 d, .int .i64 t] 80))
                        have Sv1 := hid (hkv1.out _ _ (by repeat' (first | (refine heap_alloc_at _ _ _ ?_; (first | rfl | (simp; done) | (simp; omega))) | (refine heap_alloc_past _ _ _ _ ?_))) : v1.heap[w.heap.size + 1]? = some (row4 e f g h))
                        have Rv1 := hid (hkv1.out _ _ (by repeat' (first | (refine heap_alloc_at _ _ _ ?_; (first | rfl | (simp; done) | (simp; omega))) | (refine heap_alloc_past _ _ _ _ ?_))) : v1.heap[w.heap.size + 1 + 1]? = some (.cells #[.int .i64 r0, .int .i64 r1] 44))
                        have b0 : v1.cell? ⟨w.heap.size + 1 + 1 + 1, 0, none⟩ = some (.int .i64 x0) := (cell_row (j := 0) (hkv1.out _ _ (by repeat' (first | (refine heap_alloc_at _ _ _ ?_; (first | rfl | (simp; done) | (simp; omega))) | (refine heap_alloc_past _ _ _ _ ?_))) : v1.heap[w.heap.size + 1 + 1 + 1]? = some (.cells #[.int .i64 x0, .int .i64 x1] 44))).trans rfl
                        have b1 : v1.cell? ⟨w.heap.size + 1 + 1 + 1, 1, none⟩ = some (.int .i64 x1) := (cell_row (j := 1) (hkv1.out _ _ (by repeat' (first | (refine heap_alloc_at _ _ _ ?_; (first | rfl | (simp; done) | (simp; omega))) | (refine heap_alloc_past _ _ _ _ ?_))) : v1.heap[w.heap.size + 1 + 1 + 1]? = some (.cells #[.int .i64 x0, .int .i64 x1] 44))).trans rfl
                        have HB := HBv1
                        clear hcv1 hfv1
                        rw [H1.out]
                        go_wp2_with fail
                        refine (within_any _ _ _ _ _ _ [x0, x1] _ rfl (by simp) (cells_ints _ (by repeat' (first | (refine heap_alloc_at _ _ _ ?_; (first | rfl | (simp; done) | (simp; omega))) | (refine heap_alloc_past _ _ _ _ ?_))) rfl)).mono ?_
                        rintro r w' ⟨rfl, rfl⟩
                        rw [H2.out]
                        go_wp2_with fail
                        rw [rounds_succ]
                        go_wp2_with fail
                        refine (valid_any _ _ _).mono ?_
                        rintro r v2 ⟨rfl, hb⟩
                        have HBv2 := hid (show Below w.heap.size w v2 by have hB0 := HBv1.out; refine Below.trans ?_ (hb.mono ?_); (focus ((repeat' (first | (with_reducible exact Below.refl _ _) | (with_reducible assumption) | (with_reducible refine Below.alloc ?_ ?_ _) | (with_reducible refine Below.drew ?_) | (with_reducible refine below_drewN ?_ _) | (with_reducible refine Below.setCell ?_ ?_ _) | (with_reducible refine below_setRow ?_ ?_ _) | go_size)); done)); (focus (first | (simp; done) | (simp; omega) | (have hB1 := hB0.size; simp; omega))))
                        have hsv2 := hb.size
                        (try simp at hsv2)
                        have hzv2 : w.heap.size < v2.heap.size := by omega
                        obtain ⟨hcv2, hfv2⟩ := bcell hb
                        have hkv2 := hid (fun n x => @heap_still _ _ n x hb)
                        clear hb
                        have b0 : v2.cell? ⟨v1.heap.size + 1, 0, none⟩ = some (.int .i64 y0) := (cell_row (j := 0) (hkv2.out _ _ (heap_alloc_at _ _ _ (by simp)) : v2.heap[v1.heap.size + 1]? = some (.cells #[.int .i64 y0, .int .i64 y1] 44))).trans rfl
                        have b1 : v2.cell? ⟨v1.heap.size + 1, 1, none⟩ = some (.int .i64 y1) := (cell_row (j := 1) (hkv2.out _ _ (heap_alloc_at _ _ _ (by simp)) : v2.heap[v1.heap.size + 1]? = some (.cells #[.int .i64 y0, .int .i64 y1] 44))).trans rfl
                        have Pv2 := hid (hkv2.out _ _ (by repeat' (first | exact Pv1.out | (refine heap_alloc_past _ _ _ _ ?_))) : v2.heap[w.heap.size]? = some (.cells #[.int .i64 x0, .int .i64 x1, .int .i64 y0, .int .i64 y1, .int .i64 z0, .int .i64 z1, .int .i64 a, .int .i64 b, .int .i64 c, .int .i64 d, .int .i64 t] 80))
                        have Sv2 := hid (hkv2.out _ _ (by repeat' (first | exact Sv1.out | (refine heap_alloc_past _ _ _ _ ?_))) : v2.heap[w.heap.size + 1]? = some (row4 e f g h))
                        have Rv2 := hid (hkv2.out _ _ (by repeat' (first | exact Rv1.out | (refine heap_alloc_past _ _ _ _ ?_))) : v2.heap[w.heap.size + 1 + 1]? = some (.cells #[.int .i64 r0, .int .i64 r1] 44))
                        have HB := HBv2
                        clear hcv2 hfv2
                        rw [H3.out]
                        go_wp2_with fail
                        refine (within_any _ _ _ _ _ _ [y0, y1] _ rfl (by simp) (cells_ints _ (by repeat' (first | (refine heap_alloc_at _ _ _ ?_; (first | rfl | (simp; done) | (simp; omega))) | (refine heap_alloc_past _ _ _ _ ?_))) rfl)).mono ?_
                        rintro r w' ⟨rfl, rfl⟩
                        rw [H4.out]
                        go_wp2_with fail
                        rw [rounds_succ]
                        go_wp2_with fail
                        refine (valid_any _ _ _).mono ?_
                        rintro r v3 ⟨rfl, hb⟩
                        have HBv3 := hid (show Below w.heap.size w v3 by have hB0 := HBv2.out; refine Below.trans ?_ (hb.mono ?_); (focus ((repeat' (first | (with_reducible exact Below.refl _ _) | (with_reducible assumption) | (with_reducible refine Below.alloc ?_ ?_ _) | (with_reducible refine Below.drew ?_) | (with_reducible refine below_drewN ?_ _) | (with_reducible refine Below.setCell ?_ ?_ _) | (with_reducible refine below_setRow ?_ ?_ _) | go_size)); done)); (focus (first | (simp; done) | (simp; omega) | (have hB1 := hB0.size; simp; omega))))
                        have hsv3 := hb.size
                        (try simp at hsv3)
                        have hzv3 : w.heap.size < v3.heap.size := by omega
                        obtain ⟨hcv3, hfv3⟩ := bcell hb
                        have hkv3 := hid (fun n x => @heap_still _ _ n x hb)
                        clear hb
                        have b0 : v3.cell? ⟨v2.heap.size + 1, 0, none⟩ = some (.int .i64 z0) := (cell_row (j := 0) (hkv3.out _ _ (heap_alloc_at _ _ _ (by simp)) : v3.heap[v2.heap.size + 1]? = some (.cells #[.int .i64 z0, .int .i64 z1] 44))).trans rfl
                        have b1 : v3.cell? ⟨v2.heap.size + 1, 1, none⟩ = some (.int .i64 z1) := (cell_row (j := 1) (hkv3.out _ _ (heap_alloc_at _ _ _ (by simp)) : v3.heap[v2.heap.size + 1]? = some (.cells #[.int .i64 z0, .int .i64 z1] 44))).trans rfl
                        have Pv3 := hid (hkv3.out _ _ (by repeat' (first | exact Pv2.out | (refine heap_alloc_past _ _ _ _ ?_))) : v3.heap[w.heap.size]? = some (.cells #[.int .i64 x0, .int .i64 x1, .int .i64 y0, .int .i64 y1, .int .i64 z0, .int .i64 z1, .int .i64 a, .int .i64 b, .int .i64 c, .int .i64 d, .int .i64 t] 80))
                        have Sv3 := hid (hkv3.out _ _ (by repeat' (first | exact Sv2.out | (refine heap_alloc_past _ _ _ _ ?_))) : v3.heap[w.heap.size + 1]? = some (row4 e f g h))
                        have Rv3 := hid (hkv3.out _ _ (by repeat' (first | exact Rv2.out | (refine heap_alloc_past _ _ _ _ ?_))) : v3.heap[w.heap.size + 1 + 1]? = some (.cells #[.int .i64 r0, .int .i64 r1] 44))
                        have HB := HBv3
                        clear hcv3 hfv3
                        rw [H5.out]
                        go_wp2_with fail
                        refine (within_any _ _ _ _ _ _ [z0, z1] _ rfl (by simp) (cells_ints _ (by repeat' (first | (refine heap_alloc_at _ _ _ ?_; (first | rfl | (simp; done) | (simp; omega))) | (refine heap_alloc_past _ _ _ _ ?_))) rfl)).mono ?_
                        rintro r w' ⟨rfl, rfl⟩
                        rw [H6.out]
                        go_wp2_with fail
                        rw [rounds_succ]
                        have hz2 : w.heap.size + 1 + 1 < v3.heap.size := (Array.getElem?_eq_some_iff.1 Rv3.out).1
                        have t0 : v3.cell? ⟨w.heap.size, 10, none⟩ = some (.int .i64 t) := (cell_row (j := 10) Pv3.out).trans rfl
                        go_wp2_with fail
                        refine (within1 _ _ (t) _ _ _ ?_).mono ?_
                        focus first | (simp; done) | (simp [go_sem]; done)
                        rintro r w1 ⟨rfl, rfl⟩
                        have b0 : ∀ o1 o2, ((v3.alloc o1).alloc o2).cell? ⟨w.heap.size + 1 + 1, 0, none⟩ = some (.int .i64 r0) := fun o1 o2 => (cell_row (j := 0) (heap_alloc_past _ _ _ _ (heap_alloc_past _ _ _ _ Rv3.out))).trans rfl
                        have b1 : ∀ o1 o2, ((v3.alloc o1).alloc o2).cell? ⟨w.heap.size + 1 + 1, 1, none⟩ = some (.int .i64 r1) := fun o1 o2 => (cell_row (j := 1) (heap_alloc_past _ _ _ _ (heap_alloc_past _ _ _ _ Rv3.out))).trans rfl
                        rw [H7.out]
                        go_wp2_with fail
                        refine (valid_any _ _ _).mono ?_
                        rintro r v4 ⟨rfl, hb⟩
                        have HBv4 := hid (show Below w.heap.size w v4 by have hB0 := HBv3.out; refine Below.trans ?_ (hb.mono ?_); (focus ((repeat' (first | (with_reducible exact Below.refl _ _) | (with_reducible assumption) | (with_reducible refine Below.alloc ?_ ?_ _) | (with_reducible refine Below.drew ?_) | (with_reducible refine below_drewN ?_ _) | (with_reducible refine Below.setCell ?_ ?_ _) | (with_reducible refine below_setRow ?_ ?_ _) | go_size)); done)); (focus (first | (simp; done) | (simp; omega) | (have hB1 := hB0.size; simp; omega))))
                        have hsv4 := hb.size
                        (try simp at hsv4)
                        have hzv4 : w.heap.size < v4.heap.size := by omega
                        obtain ⟨hcv4, hfv4⟩ := bcell hb
                        have hkv4 := hid (fun n x => @heap_still _ _ n x hb)
                        clear hb
                        have Pv4 := hid (hkv4.out _ _ (by repeat' (first | exact Pv3.out | (refine heap_alloc_past _ _ _ _ ?_))) : v4.heap[w.heap.size]? = some (.cells #[.int .i64 x0, .int .i64 x1, .int .i64 y0, .int .i64 y1, .int .i64 z0, .int .i64 z1, .int .i64 a, .int .i64 b, .int .i64 c, .int .i64 d, .int .i64 t] 80))
                        have Sv4 := hid (hkv4.out _ _ (by repeat' (first | exact Sv3.out | (refine heap_alloc_past _ _ _ _ ?_))) : v4.heap[w.heap.size + 1]? = some (row4 e f g h))
                        have Rv4 := hid (hkv4.out _ _ (by repeat' (first | exact Rv3.out | (refine heap_alloc_past _ _ _ _ ?_))) : v4.heap[w.heap.size + 1 + 1]? = some (.cells #[.int .i64 r0, .int .i64 r1] 44))
                        have HB := HBv4
                        clear hcv4 hfv4
                        have b0 : v4.cell? ⟨w.heap.size + 1 + 1, 0, none⟩ = some (.int .i64 r0) := (cell_row (j := 0) Rv4.out).trans rfl
                        have b1 : v4.cell? ⟨w.heap.size + 1 + 1, 1, none⟩ = some (.int .i64 r1) := (cell_row (j := 1) Rv4.out).trans rfl
                        rw [H8.out]
                        go_wp2_with fail
                        refine (within_any _ _ _ _ _ _ [r0, r1] _ rfl (by simp) (cells_ints _ (by repeat' (first | (refine heap_alloc_at _ _ _ ?_; (first | rfl | (simp; done) | (simp; omega))) | (refine heap_alloc_past _ _ _ _ ?_))) rfl)).mono ?_
                        rintro r w' ⟨rfl, rfl⟩
                        have p6 : ∀ o, (v4.alloc o).cell? ⟨w.heap.size, 6, none⟩ = some (.int .i64 a) := fun o => (cell_row (j := 6) (heap_alloc_past _ _ _ _ Pv4.out)).trans rfl
                        have p7 : ∀ o, (v4.alloc o).cell? ⟨w.heap.size, 7, none⟩ = some (.int .i64 b) := fun o => (cell_row (j := 7) (heap_alloc_past _ _ _ _ Pv4.out)).trans rfl
                        have p8 : ∀ o, (v4.alloc o).cell? ⟨w.heap.size, 8, none⟩ = some (.int .i64 c) := fun o => (cell_row (j := 8) (heap_alloc_past _ _ _ _ Pv4.out)).trans rfl
                        have p9 : ∀ o, (v4.alloc o).cell? ⟨w.heap.size, 9, none⟩ = some (.int .i64 d) := fun o => (cell_row (j := 9) (heap_alloc_past _ _ _ _ Pv4.out)).trans rfl
                        rw [H9.out]
                        go_wp2_with fail
                        refine (validTurn_any _ _ _ _ _).mono ?_
                        rintro r v5 ⟨rfl, hb⟩
                        have HBv5 := hid (show Below w.heap.size w v5 by have hB0 := HBv4.out; refine Below.trans ?_ (hb.mono ?_); (focus ((repeat' (first | (with_reducible exact Below.refl _ _) | (with_reducible assumption) | (with_reducible refine Below.alloc ?_ ?_ _) | (with_reducible refine Below.drew ?_) | (with_reducible refine below_drewN ?_ _) | (with_reducible refine Below.setCell ?_ ?_ _) | (with_reducible refine below_setRow ?_ ?_ _) | go_size)); done)); (focus (first | (simp; done) | (simp; omega) | (have hB1 := hB0.size; simp; omega))))
                        have hsv5 := hb.size
                        (try simp at hsv5)
                        have hzv5 : w.heap.size < v5.heap.size := by omega
                        obtain ⟨hcv5, hfv5⟩ := bcell hb
                        have hkv5 := hid (fun n x => @heap_still _ _ n x hb)
                        clear hb
                        have Pv5 := hid (hkv5.out _ _ (by repeat' (first | exact Pv4.out | (refine heap_alloc_past _ _ _ _ ?_))) : v5.heap[w.heap.size]? = some (.cells #[.int .i64 x0, .int .i64 x1, .int .i64 y0, .int .i64 y1, .int .i64 z0, .int .i64 z1, .int .i64 a, .int .i64 b, .int .i64 c, .int .i64 d, .int .i64 t] 80))
                        have Sv5 := hid (hkv5.out _ _ (by repeat' (first | exact Sv4.out | (refine heap_alloc_past _ _ _ _ ?_))) : v5.heap[w.heap.size + 1]? = some (row4 e f g h))
                        have Rv5 := hid (hkv5.out _ _ (by repeat' (first | exact Rv4.out | (refine heap_alloc_past _ _ _ _ ?_))) : v5.heap[w.heap.size + 1 + 1]? = some (.cells #[.int .i64 r0, .int .i64 r1] 44))
                        have HB := HBv5
                        clear hcv5 hfv5
                        have hz2v5 : w.heap.size + 1 + 1 < v5.heap.size := (Array.getElem?_eq_some_iff.1 Rv5.out).1
                        have p6 : v5.cell? ⟨w.heap.size + 1, 0, none⟩ = some (.int .i64 e) := (cell_row (j := 0) Sv5.out).trans rfl
                        have p7 : v5.cell? ⟨w.heap.size + 1, 1, none⟩ = some (.int .i64 f) := (cell_row (j := 1) Sv5.out).trans rfl
                        have p8 : v5.cell? ⟨w.heap.size + 1, 2, none⟩ = some (.int .i64 g) := (cell_row (j := 2) Sv5.out).trans rfl
                        have p9 : v5.cell? ⟨w.heap.size + 1, 3, none⟩ = some (.int .i64 h) := (cell_row (j := 3) Sv5.out).trans rfl
                        rw [H10.out]
                        go_wp2_with fail
                        refine (validTurn_any _ _ _ _ _).mono ?_
                        rintro r v6 ⟨rfl, hb⟩
                        have HBv6 := hid (show Below w.heap.size w v6 by have hB0 := HBv5.out; refine Below.trans ?_ (hb.mono ?_); (focus ((repeat' (first | (with_reducible exact Below.refl _ _) | (with_reducible assumption) | (with_reducible refine Below.alloc ?_ ?_ _) | (with_reducible refine Below.drew ?_) | (with_reducible refine below_drewN ?_ _) | (with_reducible refine Below.setCell ?_ ?_ _) | (with_reducible refine below_setRow ?_ ?_ _) | go_size)); done)); (focus (first | (simp; done) | (simp; omega) | (have hB1 := hB0.size; simp; omega))))
                        have hsv6 := hb.size
                        (try simp at hsv6)
                        have hzv6 : w.heap.size < v6.heap.size := by omega
                        obtain ⟨hcv6, hfv6⟩ := bcell hb
                        have hkv6 := hid (fun n x => @heap_still _ _ n x hb)
                        clear hb
                        have HB := HBv6
                        rw [H11.out]
                        go_wp2_with fail
                        go_ret
                        refine ⟨by rw [HS.out]; rfl, ?_⟩
                        (try have hB0 := HB.out)
                        (repeat' (first | (with_reducible exact Below.refl _ _) | (with_reducible assumption) | (with_reducible refine Below.alloc ?_ ?_ _) | (with_reducible refine Below.drew ?_) | (with_reducible refine below_drewN ?_ _) | (with_reducible refine Below.setCell ?_ ?_ _) | (with_reducible refine below_setRow ?_ ?_ _) | go_size))
                    · have HS := hid (show poseErr x0 x1 y0 y1 z0 z1 a b c d t e f g h r0 r1 = 46 by simp [poseErr, h1, h2, h3, h4, h5, h6, h7, h8, h9, h10])
                      have H1 := hid h1
                      have H2 := hid h2
                      have H3 := hid h3
                      have H4 := hid h4
                      have H5 := hid h5
                      have H6 := hid h6
                      have H7 := hid h7
                      have H8 := hid h8
                      have H9 := hid h9
                      have H10 := hid (Bool.eq_false_iff.2 h10)
                      clear h1 h2 h3 h4 h5 h6 h7 h8 h9 h10
                      go_enter Try.func94, Try.ntmps94
                      go_wp2_with fail
                      refine wp_loop_rounds 4 ?_
                      rw [rounds_succ]
                      go_wp2_with fail
                      refine (valid_any _ _ _).mono ?_
                      rintro r v1 ⟨rfl, hb⟩
                      have HBv1 := hid (show Below w.heap.size w v1 by have hB0 := HBw.out; refine Below.trans ?_ (hb.mono ?_); (focus ((repeat' (first | (with_reducible exact Below.refl _ _) | (with_reducible assumption) | (with_reducible refine Below.alloc ?_ ?_ _) | (with_reducible refine Below.drew ?_) | (with_reducible refine below_drewN ?_ _) | (with_reducible refine Below.setCell ?_ ?_ _) | (with_reducible refine below_setRow ?_ ?_ _) | go_size)); done)); (focus (first | (simp; done) | (simp; omega) | (have hB1 := hB0.size; simp; omega))))
                      have hsv1 := hb.size
                      (try simp at hsv1)
                      have hzv1 : w.heap.size < v1.heap.size := by omega
                      obtain ⟨hcv1, hfv1⟩ := bcell hb
                      have hkv1 := hid (fun n x => @heap_still _ _ n x hb)
                      clear hb
                      have Pv1 := hid (hkv1.out _ _ (by repeat' (first | (refine heap_alloc_at _ _ _ ?_; (first | rfl | (simp; done) | (simp; omega))) | (refine heap_alloc_past _ _ _ _ ?_))) : v1.heap[w.heap.size]? = some (.cells #[.int .i64 x0, .int .i64 x1, .int .i64 y0, .int .i64 y1, .int .i64 z0, .int .i64 z1, .int .i64 a, .int .i64 b, .int .i64 c, .int .i64 d, .int .i64 t] 80))
                      have Sv1 := hid (hkv1.out _ _ (by repeat' (first | (refine heap_alloc_at _ _ _ ?_; (first | rfl | (simp; done) | (simp; omega))) | (refine heap_alloc_past _ _ _ _ ?_))) : v1.heap[w.heap.size + 1]? = some (row4 e f g h))
                      have Rv1 := hid (hkv1.out _ _ (by repeat' (first | (refine heap_alloc_at _ _ _ ?_; (first | rfl | (simp; done) | (simp; omega))) | (refine heap_alloc_past _ _ _ _ ?_))) : v1.heap[w.heap.size + 1 + 1]? = some (.cells #[.int .i64 r0, .int .i64 r1] 44))
                      have b0 : v1.cell? ⟨w.heap.size + 1 + 1 + 1, 0, none⟩ = some (.int .i64 x0) := (cell_row (j := 0) (hkv1.out _ _ (by repeat' (first | (refine heap_alloc_at _ _ _ ?_; (first | rfl | (simp; done) | (simp; omega))) | (refine heap_alloc_past _ _ _ _ ?_))) : v1.heap[w.heap.size + 1 + 1 + 1]? = some (.cells #[.int .i64 x0, .int .i64 x1] 44))).trans rfl
                      have b1 : v1.cell? ⟨w.heap.size + 1 + 1 + 1, 1, none⟩ = some (.int .i64 x1) := (cell_row (j := 1) (hkv1.out _ _ (by repeat' (first | (refine heap_alloc_at _ _ _ ?_; (first | rfl | (simp; done) | (simp; omega))) | (refine heap_alloc_past _ _ _ _ ?_))) : v1.heap[w.heap.size + 1 + 1 + 1]? = some (.cells #[.int .i64 x0, .int .i64 x1] 44))).trans rfl
                      have HB := HBv1
                      clear hcv1 hfv1
                      rw [H1.out]
                      go_wp2_with fail
                      refine (within_any _ _ _ _ _ _ [x0, x1] _ rfl (by simp) (cells_ints _ (by repeat' (first | (refine heap_alloc_at _ _ _ ?_; (first | rfl | (simp; done) | (simp; omega))) | (refine heap_alloc_past _ _ _ _ ?_))) rfl)).mono ?_
                      rintro r w' ⟨rfl, rfl⟩
                      rw [H2.out]
                      go_wp2_with fail
                      rw [rounds_succ]
                      go_wp2_with fail
                      refine (valid_any _ _ _).mono ?_
                      rintro r v2 ⟨rfl, hb⟩
                      have HBv2 := hid (show Below w.heap.size w v2 by have hB0 := HBv1.out; refine Below.trans ?_ (hb.mono ?_); (focus ((repeat' (first | (with_reducible exact Below.refl _ _) | (with_reducible assumption) | (with_reducible refine Below.alloc ?_ ?_ _) | (with_reducible refine Below.drew ?_) | (with_reducible refine below_drewN ?_ _) | (with_reducible refine Below.setCell ?_ ?_ _) | (with_reducible refine below_setRow ?_ ?_ _) | go_size)); done)); (focus (first | (simp; done) | (simp; omega) | (have hB1 := hB0.size; simp; omega))))
                      have hsv2 := hb.size
                      (try simp at hsv2)
                      have hzv2 : w.heap.size < v2.heap.size := by omega
                      obtain ⟨hcv2, hfv2⟩ := bcell hb
                      have hkv2 := hid (fun n x => @heap_still _ _ n x hb)
                      clear hb
                      have b0 : v2.cell? ⟨v1.heap.size + 1, 0, none⟩ = some (.int .i64 y0) := (cell_row (j := 0) (hkv2.out _ _ (heap_alloc_at _ _ _ (by simp)) : v2.heap[v1.heap.size + 1]? = some (.cells #[.int .i64 y0, .int .i64 y1] 44))).trans rfl
                      have b1 : v2.cell? ⟨v1.heap.size + 1, 1, none⟩ = some (.int .i64 y1) := (cell_row (j := 1) (hkv2.out _ _ (heap_alloc_at _ _ _ (by simp)) : v2.heap[v1.heap.size + 1]? = some (.cells #[.int .i64 y0, .int .i64 y1] 44))).trans rfl
                      have Pv2 := hid (hkv2.out _ _ (by repeat' (first | exact Pv1.out | (refine heap_alloc_past _ _ _ _ ?_))) : v2.heap[w.heap.size]? = some (.cells #[.int .i64 x0, .int .i64 x1, .int .i64 y0, .int .i64 y1, .int .i64 z0, .int .i64 z1, .int .i64 a, .int .i64 b, .int .i64 c, .int .i64 d, .int .i64 t] 80))
                      have Sv2 := hid (hkv2.out _ _ (by repeat' (first | exact Sv1.out | (refine heap_alloc_past _ _ _ _ ?_))) : v2.heap[w.heap.size + 1]? = some (row4 e f g h))
                      have Rv2 := hid (hkv2.out _ _ (by repeat' (first | exact Rv1.out | (refine heap_alloc_past _ _ _ _ ?_))) : v2.heap[w.heap.size + 1 + 1]? = some (.cells #[.int .i64 r0, .int .i64 r1] 44))
                      have HB := HBv2
                      clear hcv2 hfv2
                      rw [H3.out]
                      go_wp2_with fail
                      refine (within_any _ _ _ _ _ _ [y0, y1] _ rfl (by simp) (cells_ints _ (by repeat' (first | (refine heap_alloc_at _ _ _ ?_; (first | rfl | (simp; done) | (simp; omega))) | (refine heap_alloc_past _ _ _ _ ?_))) rfl)).mono ?_
                      rintro r w' ⟨rfl, rfl⟩
                      rw [H4.out]
                      go_wp2_with fail
                      rw [rounds_succ]
                      go_wp2_with fail
                      refine (valid_any _ _ _).mono ?_
                      rintro r v3 ⟨rfl, hb⟩
                      have HBv3 := hid (show Below w.heap.size w v3 by have hB0 := HBv2.out; refine Below.trans ?_ (hb.mono ?_); (focus ((repeat' (first | (with_reducible exact Below.refl _ _) | (with_reducible assumption) | (with_reducible refine Below.alloc ?_ ?_ _) | (with_reducible refine Below.drew ?_) | (with_reducible refine below_drewN ?_ _) | (with_reducible refine Below.setCell ?_ ?_ _) | (with_reducible refine below_setRow ?_ ?_ _) | go_size)); done)); (focus (first | (simp; done) | (simp; omega) | (have hB1 := hB0.size; simp; omega))))
                      have hsv3 := hb.size
                      (try simp at hsv3)
                      have hzv3 : w.heap.size < v3.heap.size := by omega
                      obtain ⟨hcv3, hfv3⟩ := bcell hb
                      have hkv3 := hid (fun n x => @heap_still _ _ n x hb)
                      clear hb
                      have b0 : v3.cell? ⟨v2.heap.size + 1, 0, none⟩ = some (.int .i64 z0) := (cell_row (j := 0) (hkv3.out _ _ (heap_alloc_at _ _ _ (by simp)) : v3.heap[v2.heap.size + 1]? = some (.cells #[.int .i64 z0, .int .i64 z1] 44))).trans rfl
                      have b1 : v3.cell? ⟨v2.heap.size + 1, 1, none⟩ = some (.int .i64 z1) := (cell_row (j := 1) (hkv3.out _ _ (heap_alloc_at _ _ _ (by simp)) : v3.heap[v2.heap.size + 1]? = some (.cells #[.int .i64 z0, .int .i64 z1] 44))).trans rfl
                      have Pv3 := hid (hkv3.out _ _ (by repeat' (first | exact Pv2.out | (refine heap_alloc_past _ _ _ _ ?_))) : v3.heap[w.heap.size]? = some (.cells #[.int .i64 x0, .int .i64 x1, .int .i64 y0, .int .i64 y1, .int .i64 z0, .int .i64 z1, .int .i64 a, .int .i64 b, .int .i64 c, .int .i64 d, .int .i64 t] 80))
                      have Sv3 := hid (hkv3.out _ _ (by repeat' (first | exact Sv2.out | (refine heap_alloc_past _ _ _ _ ?_))) : v3.heap[w.heap.size + 1]? = some (row4 e f g h))
                      have Rv3 := hid (hkv3.out _ _ (by repeat' (first | exact Rv2.out | (refine heap_alloc_past _ _ _ _ ?_))) : v3.heap[w.heap.size + 1 + 1]? = some (.cells #[.int .i64 r0, .int .i64 r1] 44))
                      have HB := HBv3
                      clear hcv3 hfv3
                      rw [H5.out]
                      go_wp2_with fail
                      refine (within_any _ _ _ _ _ _ [z0, z1] _ rfl (by simp) (cells_ints _ (by repeat' (first | (refine heap_alloc_at _ _ _ ?_; (first | rfl | (simp; done) | (simp; omega))) | (refine heap_alloc_past _ _ _ _ ?_))) rfl)).mono ?_
                      rintro r w' ⟨rfl, rfl⟩
                      rw [H6.out]
                      go_wp2_with fail
                      rw [rounds_succ]
                      have hz2 : w.heap.size + 1 + 1 < v3.heap.size := (Array.getElem?_eq_some_iff.1 Rv3.out).1
                      have t0 : v3.cell? ⟨w.heap.size, 10, none⟩ = some (.int .i64 t) := (cell_row (j := 10) Pv3.out).trans rfl
                      go_wp2_with fail
                      refine (within1 _ _ (t) _ _ _ ?_).mono ?_
                      focus first | (simp; done) | (simp [go_sem]; done)
                      rintro r w1 ⟨rfl, rfl⟩
                      have b0 : ∀ o1 o2, ((v3.alloc o1).alloc o2).cell? ⟨w.heap.size + 1 + 1, 0, none⟩ = some (.int .i64 r0) := fun o1 o2 => (cell_row (j := 0) (heap_alloc_past _ _ _ _ (heap_alloc_past _ _ _ _ Rv3.out))).trans rfl
                      have b1 : ∀ o1 o2, ((v3.alloc o1).alloc o2).cell? ⟨w.heap.size + 1 + 1, 1, none⟩ = some (.int .i64 r1) := fun o1 o2 => (cell_row (j := 1) (heap_alloc_past _ _ _ _ (heap_alloc_past _ _ _ _ Rv3.out))).trans rfl
                      rw [H7.out]
                      go_wp2_with fail
                      refine (valid_any _ _ _).mono ?_
                      rintro r v4 ⟨rfl, hb⟩
                      have HBv4 := hid (show Below w.heap.size w v4 by have hB0 := HBv3.out; refine Below.trans ?_ (hb.mono ?_); (focus ((repeat' (first | (with_reducible exact Below.refl _ _) | (with_reducible assumption) | (with_reducible refine Below.alloc ?_ ?_ _) | (with_reducible refine Below.drew ?_) | (with_reducible refine below_drewN ?_ _) | (with_reducible refine Below.setCell ?_ ?_ _) | (with_reducible refine below_setRow ?_ ?_ _) | go_size)); done)); (focus (first | (simp; done) | (simp; omega) | (have hB1 := hB0.size; simp; omega))))
                      have hsv4 := hb.size
                      (try simp at hsv4)
                      have hzv4 : w.heap.size < v4.heap.size := by omega
                      obtain ⟨hcv4, hfv4⟩ := bcell hb
                      have hkv4 := hid (fun n x => @heap_still _ _ n x hb)
                      clear hb
                      have Pv4 := hid (hkv4.out _ _ (by repeat' (first | exact Pv3.out | (refine heap_alloc_past _ _ _ _ ?_))) : v4.heap[w.heap.size]? = some (.cells #[.int .i64 x0, .int .i64 x1, .int .i64 y0, .int .i64 y1, .int .i64 z0, .int .i64 z1, .int .i64 a, .int .i64 b, .int .i64 c, .int .i64 d, .int .i64 t] 80))
                      have Sv4 := hid (hkv4.out _ _ (by repeat' (first | exact Sv3.out | (refine heap_alloc_past _ _ _ _ ?_))) : v4.heap[w.heap.size + 1]? = some (row4 e f g h))
                      have Rv4 := hid (hkv4.out _ _ (by repeat' (first | exact Rv3.out | (refine heap_alloc_past _ _ _ _ ?_))) : v4.heap[w.heap.size + 1 + 1]? = some (.cells #[.int .i64 r0, .int .i64 r1] 44))
                      have HB := HBv4
                      clear hcv4 hfv4
                      have b0 : v4.cell? ⟨w.heap.size + 1 + 1, 0, none⟩ = some (.int .i64 r0) := (cell_row (j := 0) Rv4.out).trans rfl
                      have b1 : v4.cell? ⟨w.heap.size + 1 + 1, 1, none⟩ = some (.int .i64 r1) := (cell_row (j := 1) Rv4.out).trans rfl
                      rw [H8.out]
                      go_wp2_with fail
                      refine (within_any _ _ _ _ _ _ [r0, r1] _ rfl (by simp) (cells_ints _ (by repeat' (first | (refine heap_alloc_at _ _ _ ?_; (first | rfl | (simp; done) | (simp; omega))) | (refine heap_alloc_past _ _ _ _ ?_))) rfl)).mono ?_
                      rintro r w' ⟨rfl, rfl⟩
                      have p6 : ∀ o, (v4.alloc o).cell? ⟨w.heap.size, 6, none⟩ = some (.int .i64 a) := fun o => (cell_row (j := 6) (heap_alloc_past _ _ _ _ Pv4.out)).trans rfl
                      have p7 : ∀ o, (v4.alloc o).cell? ⟨w.heap.size, 7, none⟩ = some (.int .i64 b) := fun o => (cell_row (j := 7) (heap_alloc_past _ _ _ _ Pv4.out)).trans rfl
                      have p8 : ∀ o, (v4.alloc o).cell? ⟨w.heap.size, 8, none⟩ = some (.int .i64 c) := fun o => (cell_row (j := 8) (heap_alloc_past _ _ _ _ Pv4.out)).trans rfl
                      have p9 : ∀ o, (v4.alloc o).cell? ⟨w.heap.size, 9, none⟩ = some (.int .i64 d) := fun o => (cell_row (j := 9) (heap_alloc_past _ _ _ _ Pv4.out)).trans rfl
                      rw [H9.out]
                      go_wp2_with fail
                      refine (validTurn_any _ _ _ _ _).mono ?_
                      rintro r v5 ⟨rfl, hb⟩
                      have HBv5 := hid (show Below w.heap.size w v5 by have hB0 := HBv4.out; refine Below.trans ?_ (hb.mono ?_); (focus ((repeat' (first | (with_reducible exact Below.refl _ _) | (with_reducible assumption) | (with_reducible refine Below.alloc ?_ ?_ _) | (with_reducible refine Below.drew ?_) | (with_reducible refine below_drewN ?_ _) | (with_reducible refine Below.setCell ?_ ?_ _) | (with_reducible refine below_setRow ?_ ?_ _) | go_size)); done)); (focus (first | (simp; done) | (simp; omega) | (have hB1 := hB0.size; simp; omega))))
                      have hsv5 := hb.size
                      (try simp at hsv5)
                      have hzv5 : w.heap.size < v5.heap.size := by omega
                      obtain ⟨hcv5, hfv5⟩ := bcell hb
                      have hkv5 := hid (fun n x => @heap_still _ _ n x hb)
                      clear hb
                      have Pv5 := hid (hkv5.out _ _ (by repeat' (first | exact Pv4.out | (refine heap_alloc_past _ _ _ _ ?_))) : v5.heap[w.heap.size]? = some (.cells #[.int .i64 x0, .int .i64 x1, .int .i64 y0, .int .i64 y1, .int .i64 z0, .int .i64 z1, .int .i64 a, .int .i64 b, .int .i64 c, .int .i64 d, .int .i64 t] 80))
                      have Sv5 := hid (hkv5.out _ _ (by repeat' (first | exact Sv4.out | (refine heap_alloc_past _ _ _ _ ?_))) : v5.heap[w.heap.size + 1]? = some (row4 e f g h))
                      have Rv5 := hid (hkv5.out _ _ (by repeat' (first | exact Rv4.out | (refine heap_alloc_past _ _ _ _ ?_))) : v5.heap[w.heap.size + 1 + 1]? = some (.cells #[.int .i64 r0, .int .i64 r1] 44))
                      have HB := HBv5
                      clear hcv5 hfv5
                      have hz2v5 : w.heap.size + 1 + 1 < v5.heap.size := (Array.getElem?_eq_some_iff.1 Rv5.out).1
                      have p6 : v5.cell? ⟨w.heap.size + 1, 0, none⟩ = some (.int .i64 e) := (cell_row (j := 0) Sv5.out).trans rfl
                      have p7 : v5.cell? ⟨w.heap.size + 1, 1, none⟩ = some (.int .i64 f) := (cell_row (j := 1) Sv5.out).trans rfl
                      have p8 : v5.cell? ⟨w.heap.size + 1, 2, none⟩ = some (.int .i64 g) := (cell_row (j := 2) Sv5.out).trans rfl
                      have p9 : v5.cell? ⟨w.heap.size + 1, 3, none⟩ = some (.int .i64 h) := (cell_row (j := 3) Sv5.out).trans rfl
                      rw [H10.out]
                      go_wp2_with fail
                      go_ret
                      refine ⟨by rw [HS.out]; rfl, ?_⟩
                      (try have hB0 := HB.out)
                      (repeat' (first | (with_reducible exact Below.refl _ _) | (with_reducible assumption) | (with_reducible refine Below.alloc ?_ ?_ _) | (with_reducible refine Below.drew ?_) | (with_reducible refine below_drewN ?_ _) | (with_reducible refine Below.setCell ?_ ?_ _) | (with_reducible refine below_setRow ?_ ?_ _) | go_size))
                  · have HS := hid (show poseErr x0 x1 y0 y1 z0 z1 a b c d t e f g h r0 r1 = 2 by simp [poseErr, h1, h2, h3, h4, h5, h6, h7, h8, h9])
                    have H1 := hid h1
                    have H2 := hid h2
                    have H3 := hid h3
                    have H4 := hid h4
                    have H5 := hid h5
                    have H6 := hid h6
                    have H7 := hid h7
                    have H8 := hid h8
                    have H9 := hid (Bool.eq_false_iff.2 h9)
                    clear h1 h2 h3 h4 h5 h6 h7 h8 h9
                    go_enter Try.func94, Try.ntmps94
                    go_wp2_with fail
                    refine wp_loop_rounds 4 ?_
                    rw [rounds_succ]
                    go_wp2_with fail
                    refine (valid_any _ _ _).mono ?_
                    rintro r v1 ⟨rfl, hb⟩
                    have HBv1 := hid (show Below w.heap.size w v1 by have hB0 := HBw.out; refine Below.trans ?_ (hb.mono ?_); (focus ((repeat' (first | (with_reducible exact Below.refl _ _) | (with_reducible assumption) | (with_reducible refine Below.alloc ?_ ?_ _) | (with_reducible refine Below.drew ?_) | (with_reducible refine below_drewN ?_ _) | (with_reducible refine Below.setCell ?_ ?_ _) | (with_reducible refine below_setRow ?_ ?_ _) | go_size)); done)); (focus (first | (simp; done) | (simp; omega) | (have hB1 := hB0.size; simp; omega))))
                    have hsv1 := hb.size
                    (try simp at hsv1)
                    have hzv1 : w.heap.size < v1.heap.size := by omega
                    obtain ⟨hcv1, hfv1⟩ := bcell hb
                    have hkv1 := hid (fun n x => @heap_still _ _ n x hb)
                    clear hb
                    have Pv1 := hid (hkv1.out _ _ (by repeat' (first | (refine heap_alloc_at _ _ _ ?_; (first | rfl | (simp; done) | (simp; omega))) | (refine heap_alloc_past _ _ _ _ ?_))) : v1.heap[w.heap.size]? = some (.cells #[.int .i64 x0, .int .i64 x1, .int .i64 y0, .int .i64 y1, .int .i64 z0, .int .i64 z1, .int .i64 a, .int .i64 b, .int .i64 c, .int .i64 d, .int .i64 t] 80))
                    have Sv1 := hid (hkv1.out _ _ (by repeat' (first | (refine heap_alloc_at _ _ _ ?_; (first | rfl | (simp; done) | (simp; omega))) | (refine heap_alloc_past _ _ _ _ ?_))) : v1.heap[w.heap.size + 1]? = some (row4 e f g h))
                    have Rv1 := hid (hkv1.out _ _ (by repeat' (first | (refine heap_alloc_at _ _ _ ?_; (first | rfl | (simp; done) | (simp; omega))) | (refine heap_alloc_past _ _ _ _ ?_))) : v1.heap[w.heap.size + 1 + 1]? = some (.cells #[.int .i64 r0, .int .i64 r1] 44))
                    have b0 : v1.cell? ⟨w.heap.size + 1 + 1 + 1, 0, none⟩ = some (.int .i64 x0) := (cell_row (j := 0) (hkv1.out _ _ (by repeat' (first | (refine heap_alloc_at _ _ _ ?_; (first | rfl | (simp; done) | (simp; omega))) | (refine heap_alloc_past _ _ _ _ ?_))) : v1.heap[w.heap.size + 1 + 1 + 1]? = some (.cells #[.int .i64 x0, .int .i64 x1] 44))).trans rfl
                    have b1 : v1.cell? ⟨w.heap.size + 1 + 1 + 1, 1, none⟩ = some (.int .i64 x1) := (cell_row (j := 1) (hkv1.out _ _ (by repeat' (first | (refine heap_alloc_at _ _ _ ?_; (first | rfl | (simp; done) | (simp; omega))) | (refine heap_alloc_past _ _ _ _ ?_))) : v1.heap[w.heap.size + 1 + 1 + 1]? = some (.cells #[.int .i64 x0, .int .i64 x1] 44))).trans rfl
                    have HB := HBv1
                    clear hcv1 hfv1
                    rw [H1.out]
                    go_wp2_with fail
                    refine (within_any _ _ _ _ _ _ [x0, x1] _ rfl (by simp) (cells_ints _ (by repeat' (first | (refine heap_alloc_at _ _ _ ?_; (first | rfl | (simp; done) | (simp; omega))) | (refine heap_alloc_past _ _ _ _ ?_))) rfl)).mono ?_
                    rintro r w' ⟨rfl, rfl⟩
                    rw [H2.out]
                    go_wp2_with fail
                    rw [rounds_succ]
                    go_wp2_with fail
                    refine (valid_any _ _ _).mono ?_
                    rintro r v2 ⟨rfl, hb⟩
                    have HBv2 := hid (show Below w.heap.size w v2 by have hB0 := HBv1.out; refine Below.trans ?_ (hb.mono ?_); (focus ((repeat' (first | (with_reducible exact Below.refl _ _) | (with_reducible assumption) | (with_reducible refine Below.alloc ?_ ?_ _) | (with_reducible refine Below.drew ?_) | (with_reducible refine below_drewN ?_ _) | (with_reducible refine Below.setCell ?_ ?_ _) | (with_reducible refine below_setRow ?_ ?_ _) | go_size)); done)); (focus (first | (simp; done) | (simp; omega) | (have hB1 := hB0.size; simp; omega))))
                    have hsv2 := hb.size
                    (try simp at hsv2)
                    have hzv2 : w.heap.size < v2.heap.size := by omega
                    obtain ⟨hcv2, hfv2⟩ := bcell hb
                    have hkv2 := hid (fun n x => @heap_still _ _ n x hb)
                    clear hb
                    have b0 : v2.cell? ⟨v1.heap.size + 1, 0, none⟩ = some (.int .i64 y0) := (cell_row (j := 0) (hkv2.out _ _ (heap_alloc_at _ _ _ (by simp)) : v2.heap[v1.heap.size + 1]? = some (.cells #[.int .i64 y0, .int .i64 y1] 44))).trans rfl
                    have b1 : v2.cell? ⟨v1.heap.size + 1, 1, none⟩ = some (.int .i64 y1) := (cell_row (j := 1) (hkv2.out _ _ (heap_alloc_at _ _ _ (by simp)) : v2.heap[v1.heap.size + 1]? = some (.cells #[.int .i64 y0, .int .i64 y1] 44))).trans rfl
                    have Pv2 := hid (hkv2.out _ _ (by repeat' (first | exact Pv1.out | (refine heap_alloc_past _ _ _ _ ?_))) : v2.heap[w.heap.size]? = some (.cells #[.int .i64 x0, .int .i64 x1, .int .i64 y0, .int .i64 y1, .int .i64 z0, .int .i64 z1, .int .i64 a, .int .i64 b, .int .i64 c, .int .i64 d, .int .i64 t] 80))
                    have Sv2 := hid (hkv2.out _ _ (by repeat' (first | exact Sv1.out | (refine heap_alloc_past _ _ _ _ ?_))) : v2.heap[w.heap.size + 1]? = some (row4 e f g h))
                    have Rv2 := hid (hkv2.out _ _ (by repeat' (first | exact Rv1.out | (refine heap_alloc_past _ _ _ _ ?_))) : v2.heap[w.heap.size + 1 + 1]? = some (.cells #[.int .i64 r0, .int .i64 r1] 44))
                    have HB := HBv2
                    clear hcv2 hfv2
                    rw [H3.out]
                    go_wp2_with fail
                    refine (within_any _ _ _ _ _ _ [y0, y1] _ rfl (by simp) (cells_ints _ (by repeat' (first | (refine heap_alloc_at _ _ _ ?_; (first | rfl | (simp; done) | (simp; omega))) | (refine heap_alloc_past _ _ _ _ ?_))) rfl)).mono ?_
                    rintro r w' ⟨rfl, rfl⟩
                    rw [H4.out]
                    go_wp2_with fail
                    rw [rounds_succ]
                    go_wp2_with fail
                    refine (valid_any _ _ _).mono ?_
                    rintro r v3 ⟨rfl, hb⟩
                    have HBv3 := hid (show Below w.heap.size w v3 by have hB0 := HBv2.out; refine Below.trans ?_ (hb.mono ?_); (focus ((repeat' (first | (with_reducible exact Below.refl _ _) | (with_reducible assumption) | (with_reducible refine Below.alloc ?_ ?_ _) | (with_reducible refine Below.drew ?_) | (with_reducible refine below_drewN ?_ _) | (with_reducible refine Below.setCell ?_ ?_ _) | (with_reducible refine below_setRow ?_ ?_ _) | go_size)); done)); (focus (first | (simp; done) | (simp; omega) | (have hB1 := hB0.size; simp; omega))))
                    have hsv3 := hb.size
                    (try simp at hsv3)
                    have hzv3 : w.heap.size < v3.heap.size := by omega
                    obtain ⟨hcv3, hfv3⟩ := bcell hb
                    have hkv3 := hid (fun n x => @heap_still _ _ n x hb)
                    clear hb
                    have b0 : v3.cell? ⟨v2.heap.size + 1, 0, none⟩ = some (.int .i64 z0) := (cell_row (j := 0) (hkv3.out _ _ (heap_alloc_at _ _ _ (by simp)) : v3.heap[v2.heap.size + 1]? = some (.cells #[.int .i64 z0, .int .i64 z1] 44))).trans rfl
                    have b1 : v3.cell? ⟨v2.heap.size + 1, 1, none⟩ = some (.int .i64 z1) := (cell_row (j := 1) (hkv3.out _ _ (heap_alloc_at _ _ _ (by simp)) : v3.heap[v2.heap.size + 1]? = some (.cells #[.int .i64 z0, .int .i64 z1] 44))).trans rfl
                    have Pv3 := hid (hkv3.out _ _ (by repeat' (first | exact Pv2.out | (refine heap_alloc_past _ _ _ _ ?_))) : v3.heap[w.heap.size]? = some (.cells #[.int .i64 x0, .int .i64 x1, .int .i64 y0, .int .i64 y1, .int .i64 z0, .int .i64 z1, .int .i64 a, .int .i64 b, .int .i64 c, .int .i64 d, .int .i64 t] 80))
                    have Sv3 := hid (hkv3.out _ _ (by repeat' (first | exact Sv2.out | (refine heap_alloc_past _ _ _ _ ?_))) : v3.heap[w.heap.size + 1]? = some (row4 e f g h))
                    have Rv3 := hid (hkv3.out _ _ (by repeat' (first | exact Rv2.out | (refine heap_alloc_past _ _ _ _ ?_))) : v3.heap[w.heap.size + 1 + 1]? = some (.cells #[.int .i64 r0, .int .i64 r1] 44))
                    have HB := HBv3
                    clear hcv3 hfv3
                    rw [H5.out]
                    go_wp2_with fail
                    refine (within_any _ _ _ _ _ _ [z0, z1] _ rfl (by simp) (cells_ints _ (by repeat' (first | (refine heap_alloc_at _ _ _ ?_; (first | rfl | (simp; done) | (simp; omega))) | (refine heap_alloc_past _ _ _ _ ?_))) rfl)).mono ?_
                    rintro r w' ⟨rfl, rfl⟩
                    rw [H6.out]
                    go_wp2_with fail
                    rw [rounds_succ]
                    have hz2 : w.heap.size + 1 + 1 < v3.heap.size := (Array.getElem?_eq_some_iff.1 Rv3.out).1
                    have t0 : v3.cell? ⟨w.heap.size, 10, none⟩ = some (.int .i64 t) := (cell_row (j := 10) Pv3.out).trans rfl
                    go_wp2_with fail
                    refine (within1 _ _ (t) _ _ _ ?_).mono ?_
                    focus first | (simp; done) | (simp [go_sem]; done)
                    rintro r w1 ⟨rfl, rfl⟩
                    have b0 : ∀ o1 o2, ((v3.alloc o1).alloc o2).cell? ⟨w.heap.size + 1 + 1, 0, none⟩ = some (.int .i64 r0) := fun o1 o2 => (cell_row (j := 0) (heap_alloc_past _ _ _ _ (heap_alloc_past _ _ _ _ Rv3.out))).trans rfl
                    have b1 : ∀ o1 o2, ((v3.alloc o1).alloc o2).cell? ⟨w.heap.size + 1 + 1, 1, none⟩ = some (.int .i64 r1) := fun o1 o2 => (cell_row (j := 1) (heap_alloc_past _ _ _ _ (heap_alloc_past _ _ _ _ Rv3.out))).trans rfl
                    rw [H7.out]
                    go_wp2_with fail
                    refine (valid_any _ _ _).mono ?_
                    rintro r v4 ⟨rfl, hb⟩
                    have HBv4 := hid (show Below w.heap.size w v4 by have hB0 := HBv3.out; refine Below.trans ?_ (hb.mono ?_); (focus ((repeat' (first | (with_reducible exact Below.refl _ _) | (with_reducible assumption) | (with_reducible refine Below.alloc ?_ ?_ _) | (with_reducible refine Below.drew ?_) | (with_reducible refine below_drewN ?_ _) | (with_reducible refine Below.setCell ?_ ?_ _) | (with_reducible refine below_setRow ?_ ?_ _) | go_size)); done)); (focus (first | (simp; done) | (simp; omega) | (have hB1 := hB0.size; simp; omega))))
                    have hsv4 := hb.size
                    (try simp at hsv4)
                    have hzv4 : w.heap.size < v4.heap.size := by omega
                    obtain ⟨hcv4, hfv4⟩ := bcell hb
                    have hkv4 := hid (fun n x => @heap_still _ _ n x hb)
                    clear hb
                    have Pv4 := hid (hkv4.out _ _ (by repeat' (first | exact Pv3.out | (refine heap_alloc_past _ _ _ _ ?_))) : v4.heap[w.heap.size]? = some (.cells #[.int .i64 x0, .int .i64 x1, .int .i64 y0, .int .i64 y1, .int .i64 z0, .int .i64 z1, .int .i64 a, .int .i64 b, .int .i64 c, .int .i64 d, .int .i64 t] 80))
                    have Sv4 := hid (hkv4.out _ _ (by repeat' (first | exact Sv3.out | (refine heap_alloc_past _ _ _ _ ?_))) : v4.heap[w.heap.size + 1]? = some (row4 e f g h))
                    have Rv4 := hid (hkv4.out _ _ (by repeat' (first | exact Rv3.out | (refine heap_alloc_past _ _ _ _ ?_))) : v4.heap[w.heap.size + 1 + 1]? = some (.cells #[.int .i64 r0, .int .i64 r1] 44))
                    have HB := HBv4
                    clear hcv4 hfv4
                    have b0 : v4.cell? ⟨w.heap.size + 1 + 1, 0, none⟩ = some (.int .i64 r0) := (cell_row (j := 0) Rv4.out).trans rfl
                    have b1 : v4.cell? ⟨w.heap.size + 1 + 1, 1, none⟩ = some (.int .i64 r1) := (cell_row (j := 1) Rv4.out).trans rfl
                    rw [H8.out]
                    go_wp2_with fail
                    refine (within_any _ _ _ _ _ _ [r0, r1] _ rfl (by simp) (cells_ints _ (by repeat' (first | (refine heap_alloc_at _ _ _ ?_; (first | rfl | (simp; done) | (simp; omega))) | (refine heap_alloc_past _ _ _ _ ?_))) rfl)).mono ?_
                    rintro r w' ⟨rfl, rfl⟩
                    have p6 : ∀ o, (v4.alloc o).cell? ⟨w.heap.size, 6, none⟩ = some (.int .i64 a) := fun o => (cell_row (j := 6) (heap_alloc_past _ _ _ _ Pv4.out)).trans rfl
                    have p7 : ∀ o, (v4.alloc o).cell? ⟨w.heap.size, 7, none⟩ = some (.int .i64 b) := fun o => (cell_row (j := 7) (heap_alloc_past _ _ _ _ Pv4.out)).trans rfl
                    have p8 : ∀ o, (v4.alloc o).cell? ⟨w.heap.size, 8, none⟩ = some (.int .i64 c) := fun o => (cell_row (j := 8) (heap_alloc_past _ _ _ _ Pv4.out)).trans rfl
                    have p9 : ∀ o, (v4.alloc o).cell? ⟨w.heap.size, 9, none⟩ = some (.int .i64 d) := fun o => (cell_row (j := 9) (heap_alloc_past _ _ _ _ Pv4.out)).trans rfl
                    rw [H9.out]
                    go_wp2_with fail
                    go_ret
                    refine ⟨by rw [HS.out]; rfl, ?_⟩
                    (try have hB0 := HB.out)
                    (repeat' (first | (with_reducible exact Below.refl _ _) | (with_reducible assumption) | (with_reducible refine Below.alloc ?_ ?_ _) | (with_reducible refine Below.drew ?_) | (with_reducible refine below_drewN ?_ _) | (with_reducible refine Below.setCell ?_ ?_ _) | (with_reducible refine below_setRow ?_ ?_ _) | go_size))
                · have HS := hid (show poseErr x0 x1 y0 y1 z0 z1 a b c d t e f g h r0 r1 = 2 by simp [poseErr, h1, h2, h3, h4, h5, h6, h7, h8])
                  have H1 := hid h1
                  have H2 := hid h2
                  have H3 := hid h3
                  have H4 := hid h4
                  have H5 := hid h5
                  have H6 := hid h6
                  have H7 := hid h7
                  have H8 := hid (Bool.eq_false_iff.2 h8)
                  clear h1 h2 h3 h4 h5 h6 h7 h8
                  go_enter Try.func94, Try.ntmps94
                  go_wp2_with fail
                  refine wp_loop_rounds 4 ?_
                  rw [rounds_succ]
                  go_wp2_with fail
                  refine (valid_any _ _ _).mono ?_
                  rintro r v1 ⟨rfl, hb⟩
                  have HBv1 := hid (show Below w.heap.size w v1 by have hB0 := HBw.out; refine Below.trans ?_ (hb.mono ?_); (focus ((repeat' (first | (with_reducible exact Below.refl _ _) | (with_reducible assumption) | (with_reducible refine Below.alloc ?_ ?_ _) | (with_reducible refine Below.drew ?_) | (with_reducible refine below_drewN ?_ _) | (with_reducible refine Below.setCell ?_ ?_ _) | (with_reducible refine below_setRow ?_ ?_ _) | go_size)); done)); (focus (first | (simp; done) | (simp; omega) | (have hB1 := hB0.size; simp; omega))))
                  have hsv1 := hb.size
                  (try simp at hsv1)
                  have hzv1 : w.heap.size < v1.heap.size := by omega
                  obtain ⟨hcv1, hfv1⟩ := bcell hb
                  have hkv1 := hid (fun n x => @heap_still _ _ n x hb)
                  clear hb
                  have Pv1 := hid (hkv1.out _ _ (by repeat' (first | (refine heap_alloc_at _ _ _ ?_; (first | rfl | (simp; done) | (simp; omega))) | (refine heap_alloc_past _ _ _ _ ?_))) : v1.heap[w.heap.size]? = some (.cells #[.int .i64 x0, .int .i64 x1, .int .i64 y0, .int .i64 y1, .int .i64 z0, .int .i64 z1, .int .i64 a, .int .i64 b, .int .i64 c, .int .i64 d, .int .i64 t] 80))
                  have Sv1 := hid (hkv1.out _ _ (by repeat' (first | (refine heap_alloc_at _ _ _ ?_; (first | rfl | (simp; done) | (simp; omega))) | (refine heap_alloc_past _ _ _ _ ?_))) : v1.heap[w.heap.size + 1]? = some (row4 e f g h))
                  have Rv1 := hid (hkv1.out _ _ (by repeat' (first | (refine heap_alloc_at _ _ _ ?_; (first | rfl | (simp; done) | (simp; omega))) | (refine heap_alloc_past _ _ _ _ ?_))) : v1.heap[w.heap.size + 1 + 1]? = some (.cells #[.int .i64 r0, .int .i64 r1] 44))
                  have b0 : v1.cell? ⟨w.heap.size + 1 + 1 + 1, 0, none⟩ = some (.int .i64 x0) := (cell_row (j := 0) (hkv1.out _ _ (by repeat' (first | (refine heap_alloc_at _ _ _ ?_; (first | rfl | (simp; done) | (simp; omega))) | (refine heap_alloc_past _ _ _ _ ?_))) : v1.heap[w.heap.size + 1 + 1 + 1]? = some (.cells #[.int .i64 x0, .int .i64 x1] 44))).trans rfl
                  have b1 : v1.cell? ⟨w.heap.size + 1 + 1 + 1, 1, none⟩ = some (.int .i64 x1) := (cell_row (j := 1) (hkv1.out _ _ (by repeat' (first | (refine heap_alloc_at _ _ _ ?_; (first | rfl | (simp; done) | (simp; omega))) | (refine heap_alloc_past _ _ _ _ ?_))) : v1.heap[w.heap.size + 1 + 1 + 1]? = some (.cells #[.int .i64 x0, .int .i64 x1] 44))).trans rfl
                  have HB := HBv1
                  clear hcv1 hfv1
                  rw [H1.out]
                  go_wp2_with fail
                  refine (within_any _ _ _ _ _ _ [x0, x1] _ rfl (by simp) (cells_ints _ (by repeat' (first | (refine heap_alloc_at _ _ _ ?_; (first | rfl | (simp; done) | (simp; omega))) | (refine heap_alloc_past _ _ _ _ ?_))) rfl)).mono ?_
                  rintro r w' ⟨rfl, rfl⟩
                  rw [H2.out]
                  go_wp2_with fail
                  rw [rounds_succ]
                  go_wp2_with fail
                  refine (valid_any _ _ _).mono ?_
                  rintro r v2 ⟨rfl, hb⟩
                  have HBv2 := hid (show Below w.heap.size w v2 by have hB0 := HBv1.out; refine Below.trans ?_ (hb.mono ?_); (focus ((repeat' (first | (with_reducible exact Below.refl _ _) | (with_reducible assumption) | (with_reducible refine Below.alloc ?_ ?_ _) | (with_reducible refine Below.drew ?_) | (with_reducible refine below_drewN ?_ _) | (with_reducible refine Below.setCell ?_ ?_ _) | (with_reducible refine below_setRow ?_ ?_ _) | go_size)); done)); (focus (first | (simp; done) | (simp; omega) | (have hB1 := hB0.size; simp; omega))))
                  have hsv2 := hb.size
                  (try simp at hsv2)
                  have hzv2 : w.heap.size < v2.heap.size := by omega
                  obtain ⟨hcv2, hfv2⟩ := bcell hb
                  have hkv2 := hid (fun n x => @heap_still _ _ n x hb)
                  clear hb
                  have b0 : v2.cell? ⟨v1.heap.size + 1, 0, none⟩ = some (.int .i64 y0) := (cell_row (j := 0) (hkv2.out _ _ (heap_alloc_at _ _ _ (by simp)) : v2.heap[v1.heap.size + 1]? = some (.cells #[.int .i64 y0, .int .i64 y1] 44))).trans rfl
                  have b1 : v2.cell? ⟨v1.heap.size + 1, 1, none⟩ = some (.int .i64 y1) := (cell_row (j := 1) (hkv2.out _ _ (heap_alloc_at _ _ _ (by simp)) : v2.heap[v1.heap.size + 1]? = some (.cells #[.int .i64 y0, .int .i64 y1] 44))).trans rfl
                  have Pv2 := hid (hkv2.out _ _ (by repeat' (first | exact Pv1.out | (refine heap_alloc_past _ _ _ _ ?_))) : v2.heap[w.heap.size]? = some (.cells #[.int .i64 x0, .int .i64 x1, .int .i64 y0, .int .i64 y1, .int .i64 z0, .int .i64 z1, .int .i64 a, .int .i64 b, .int .i64 c, .int .i64 d, .int .i64 t] 80))
                  have Sv2 := hid (hkv2.out _ _ (by repeat' (first | exact Sv1.out | (refine heap_alloc_past _ _ _ _ ?_))) : v2.heap[w.heap.size + 1]? = some (row4 e f g h))
                  have Rv2 := hid (hkv2.out _ _ (by repeat' (first | exact Rv1.out | (refine heap_alloc_past _ _ _ _ ?_))) : v2.heap[w.heap.size + 1 + 1]? = some (.cells #[.int .i64 r0, .int .i64 r1] 44))
                  have HB := HBv2
                  clear hcv2 hfv2
                  rw [H3.out]
                  go_wp2_with fail
                  refine (within_any _ _ _ _ _ _ [y0, y1] _ rfl (by simp) (cells_ints _ (by repeat' (first | (refine heap_alloc_at _ _ _ ?_; (first | rfl | (simp; done) | (simp; omega))) | (refine heap_alloc_past _ _ _ _ ?_))) rfl)).mono ?_
                  rintro r w' ⟨rfl, rfl⟩
                  rw [H4.out]
                  go_wp2_with fail
                  rw [rounds_succ]
                  go_wp2_with fail
                  refine (valid_any _ _ _).mono ?_
                  rintro r v3 ⟨rfl, hb⟩
                  have HBv3 := hid (show Below w.heap.size w v3 by have hB0 := HBv2.out; refine Below.trans ?_ (hb.mono ?_); (focus ((repeat' (first | (with_reducible exact Below.refl _ _) | (with_reducible assumption) | (with_reducible refine Below.alloc ?_ ?_ _) | (with_reducible refine Below.drew ?_) | (with_reducible refine below_drewN ?_ _) | (with_reducible refine Below.setCell ?_ ?_ _) | (with_reducible refine below_setRow ?_ ?_ _) | go_size)); done)); (focus (first | (simp; done) | (simp; omega) | (have hB1 := hB0.size; simp; omega))))
                  have hsv3 := hb.size
                  (try simp at hsv3)
                  have hzv3 : w.heap.size < v3.heap.size := by omega
                  obtain ⟨hcv3, hfv3⟩ := bcell hb
                  have hkv3 := hid (fun n x => @heap_still _ _ n x hb)
                  clear hb
                  have b0 : v3.cell? ⟨v2.heap.size + 1, 0, none⟩ = some (.int .i64 z0) := (cell_row (j := 0) (hkv3.out _ _ (heap_alloc_at _ _ _ (by simp)) : v3.heap[v2.heap.size + 1]? = some (.cells #[.int .i64 z0, .int .i64 z1] 44))).trans rfl
                  have b1 : v3.cell? ⟨v2.heap.size + 1, 1, none⟩ = some (.int .i64 z1) := (cell_row (j := 1) (hkv3.out _ _ (heap_alloc_at _ _ _ (by simp)) : v3.heap[v2.heap.size + 1]? = some (.cells #[.int .i64 z0, .int .i64 z1] 44))).trans rfl
                  have Pv3 := hid (hkv3.out _ _ (by repeat' (first | exact Pv2.out | (refine heap_alloc_past _ _ _ _ ?_))) : v3.heap[w.heap.size]? = some (.cells #[.int .i64 x0, .int .i64 x1, .int .i64 y0, .int .i64 y1, .int .i64 z0, .int .i64 z1, .int .i64 a, .int .i64 b, .int .i64 c, .int .i64 d, .int .i64 t] 80))
                  have Sv3 := hid (hkv3.out _ _ (by repeat' (first | exact Sv2.out | (refine heap_alloc_past _ _ _ _ ?_))) : v3.heap[w.heap.size + 1]? = some (row4 e f g h))
                  have Rv3 := hid (hkv3.out _ _ (by repeat' (first | exact Rv2.out | (refine heap_alloc_past _ _ _ _ ?_))) : v3.heap[w.heap.size + 1 + 1]? = some (.cells #[.int .i64 r0, .int .i64 r1] 44))
                  have HB := HBv3
                  clear hcv3 hfv3
                  rw [H5.out]
                  go_wp2_with fail
                  refine (within_any _ _ _ _ _ _ [z0, z1] _ rfl (by simp) (cells_ints _ (by repeat' (first | (refine heap_alloc_at _ _ _ ?_; (first | rfl | (simp; done) | (simp; omega))) | (refine heap_alloc_past _ _ _ _ ?_))) rfl)).mono ?_
                  rintro r w' ⟨rfl, rfl⟩
                  rw [H6.out]
                  go_wp2_with fail
                  rw [rounds_succ]
                  have hz2 : w.heap.size + 1 + 1 < v3.heap.size := (Array.getElem?_eq_some_iff.1 Rv3.out).1
                  have t0 : v3.cell? ⟨w.heap.size, 10, none⟩ = some (.int .i64 t) := (cell_row (j := 10) Pv3.out).trans rfl
                  go_wp2_with fail
                  refine (within1 _ _ (t) _ _ _ ?_).mono ?_
                  focus first | (simp; done) | (simp [go_sem]; done)
                  rintro r w1 ⟨rfl, rfl⟩
                  have b0 : ∀ o1 o2, ((v3.alloc o1).alloc o2).cell? ⟨w.heap.size + 1 + 1, 0, none⟩ = some (.int .i64 r0) := fun o1 o2 => (cell_row (j := 0) (heap_alloc_past _ _ _ _ (heap_alloc_past _ _ _ _ Rv3.out))).trans rfl
                  have b1 : ∀ o1 o2, ((v3.alloc o1).alloc o2).cell? ⟨w.heap.size + 1 + 1, 1, none⟩ = some (.int .i64 r1) := fun o1 o2 => (cell_row (j := 1) (heap_alloc_past _ _ _ _ (heap_alloc_past _ _ _ _ Rv3.out))).trans rfl
                  rw [H7.out]
                  go_wp2_with fail
                  refine (valid_any _ _ _).mono ?_
                  rintro r v4 ⟨rfl, hb⟩
                  have HBv4 := hid (show Below w.heap.size w v4 by have hB0 := HBv3.out; refine Below.trans ?_ (hb.mono ?_); (focus ((repeat' (first | (with_reducible exact Below.refl _ _) | (with_reducible assumption) | (with_reducible refine Below.alloc ?_ ?_ _) | (with_reducible refine Below.drew ?_) | (with_reducible refine below_drewN ?_ _) | (with_reducible refine Below.setCell ?_ ?_ _) | (with_reducible refine below_setRow ?_ ?_ _) | go_size)); done)); (focus (first | (simp; done) | (simp; omega) | (have hB1 := hB0.size; simp; omega))))
                  have hsv4 := hb.size
                  (try simp at hsv4)
                  have hzv4 : w.heap.size < v4.heap.size := by omega
                  obtain ⟨hcv4, hfv4⟩ := bcell hb
                  have hkv4 := hid (fun n x => @heap_still _ _ n x hb)
                  clear hb
                  have Pv4 := hid (hkv4.out _ _ (by repeat' (first | exact Pv3.out | (refine heap_alloc_past _ _ _ _ ?_))) : v4.heap[w.heap.size]? = some (.cells #[.int .i64 x0, .int .i64 x1, .int .i64 y0, .int .i64 y1, .int .i64 z0, .int .i64 z1, .int .i64 a, .int .i64 b, .int .i64 c, .int .i64 d, .int .i64 t] 80))
                  have Sv4 := hid (hkv4.out _ _ (by repeat' (first | exact Sv3.out | (refine heap_alloc_past _ _ _ _ ?_))) : v4.heap[w.heap.size + 1]? = some (row4 e f g h))
                  have Rv4 := hid (hkv4.out _ _ (by repeat' (first | exact Rv3.out | (refine heap_alloc_past _ _ _ _ ?_))) : v4.heap[w.heap.size + 1 + 1]? = some (.cells #[.int .i64 r0, .int .i64 r1] 44))
                  have HB := HBv4
                  clear hcv4 hfv4
                  have b0 : v4.cell? ⟨w.heap.size + 1 + 1, 0, none⟩ = some (.int .i64 r0) := (cell_row (j := 0) Rv4.out).trans rfl
                  have b1 : v4.cell? ⟨w.heap.size + 1 + 1, 1, none⟩ = some (.int .i64 r1) := (cell_row (j := 1) Rv4.out).trans rfl
                  rw [H8.out]
                  go_wp2_with fail
                  go_ret
                  refine ⟨by rw [HS.out]; rfl, ?_⟩
                  (try have hB0 := HB.out)
                  (repeat' (first | (with_reducible exact Below.refl _ _) | (with_reducible assumption) | (with_reducible refine Below.alloc ?_ ?_ _) | (with_reducible refine Below.drew ?_) | (with_reducible refine below_drewN ?_ _) | (with_reducible refine Below.setCell ?_ ?_ _) | (with_reducible refine below_setRow ?_ ?_ _) | go_size))
              · have HS := hid (show poseErr x0 x1 y0 y1 z0 z1 a b c d t e f g h r0 r1 = 2 by simp [poseErr, h1, h2, h3, h4, h5, h6, h7])
                have H1 := hid h1
                have H2 := hid h2
                have H3 := hid h3
                have H4 := hid h4
                have H5 := hid h5
                have H6 := hid h6
                have H7 := hid (Bool.eq_false_iff.2 h7)
                clear h1 h2 h3 h4 h5 h6 h7
                go_enter Try.func94, Try.ntmps94
                go_wp2_with fail
                refine wp_loop_rounds 4 ?_
                rw [rounds_succ]
                go_wp2_with fail
                refine (valid_any _ _ _).mono ?_
                rintro r v1 ⟨rfl, hb⟩
                have HBv1 := hid (show Below w.heap.size w v1 by have hB0 := HBw.out; refine Below.trans ?_ (hb.mono ?_); (focus ((repeat' (first | (with_reducible exact Below.refl _ _) | (with_reducible assumption) | (with_reducible refine Below.alloc ?_ ?_ _) | (with_reducible refine Below.drew ?_) | (with_reducible refine below_drewN ?_ _) | (with_reducible refine Below.setCell ?_ ?_ _) | (with_reducible refine below_setRow ?_ ?_ _) | go_size)); done)); (focus (first | (simp; done) | (simp; omega) | (have hB1 := hB0.size; simp; omega))))
                have hsv1 := hb.size
                (try simp at hsv1)
                have hzv1 : w.heap.size < v1.heap.size := by omega
                obtain ⟨hcv1, hfv1⟩ := bcell hb
                have hkv1 := hid (fun n x => @heap_still _ _ n x hb)
                clear hb
                have Pv1 := hid (hkv1.out _ _ (by repeat' (first | (refine heap_alloc_at _ _ _ ?_; (first | rfl | (simp; done) | (simp; omega))) | (refine heap_alloc_past _ _ _ _ ?_))) : v1.heap[w.heap.size]? = some (.cells #[.int .i64 x0, .int .i64 x1, .int .i64 y0, .int .i64 y1, .int .i64 z0, .int .i64 z1, .int .i64 a, .int .i64 b, .int .i64 c, .int .i64 d, .int .i64 t] 80))
                have Sv1 := hid (hkv1.out _ _ (by repeat' (first | (refine heap_alloc_at _ _ _ ?_; (first | rfl | (simp; done) | (simp; omega))) | (refine heap_alloc_past _ _ _ _ ?_))) : v1.heap[w.heap.size + 1]? = some (row4 e f g h))
                have Rv1 := hid (hkv1.out _ _ (by repeat' (first | (refine heap_alloc_at _ _ _ ?_; (first | rfl | (simp; done) | (simp; omega))) | (refine heap_alloc_past _ _ _ _ ?_))) : v1.heap[w.heap.size + 1 + 1]? = some (.cells #[.int .i64 r0, .int .i64 r1] 44))
                have b0 : v1.cell? ⟨w.heap.size + 1 + 1 + 1, 0, none⟩ = some (.int .i64 x0) := (cell_row (j := 0) (hkv1.out _ _ (by repeat' (first | (refine heap_alloc_at _ _ _ ?_; (first | rfl | (simp; done) | (simp; omega))) | (refine heap_alloc_past _ _ _ _ ?_))) : v1.heap[w.heap.size + 1 + 1 + 1]? = some (.cells #[.int .i64 x0, .int .i64 x1] 44))).trans rfl
                have b1 : v1.cell? ⟨w.heap.size + 1 + 1 + 1, 1, none⟩ = some (.int .i64 x1) := (cell_row (j := 1) (hkv1.out _ _ (by repeat' (first | (refine heap_alloc_at _ _ _ ?_; (first | rfl | (simp; done) | (simp; omega))) | (refine heap_alloc_past _ _ _ _ ?_))) : v1.heap[w.heap.size + 1 + 1 + 1]? = some (.cells #[.int .i64 x0, .int .i64 x1] 44))).trans rfl
                have HB := HBv1
                clear hcv1 hfv1
                rw [H1.out]
                go_wp2_with fail
                refine (within_any _ _ _ _ _ _ [x0, x1] _ rfl (by simp) (cells_ints _ (by repeat' (first | (refine heap_alloc_at _ _ _ ?_; (first | rfl | (simp; done) | (simp; omega))) | (refine heap_alloc_past _ _ _ _ ?_))) rfl)).mono ?_
                rintro r w' ⟨rfl, rfl⟩
                rw [H2.out]
                go_wp2_with fail
                rw [rounds_succ]
                go_wp2_with fail
                refine (valid_any _ _ _).mono ?_
                rintro r v2 ⟨rfl, hb⟩
                have HBv2 := hid (show Below w.heap.size w v2 by have hB0 := HBv1.out; refine Below.trans ?_ (hb.mono ?_); (focus ((repeat' (first | (with_reducible exact Below.refl _ _) | (with_reducible assumption) | (with_reducible refine Below.alloc ?_ ?_ _) | (with_reducible refine Below.drew ?_) | (with_reducible refine below_drewN ?_ _) | (with_reducible refine Below.setCell ?_ ?_ _) | (with_reducible refine below_setRow ?_ ?_ _) | go_size)); done)); (focus (first | (simp; done) | (simp; omega) | (have hB1 := hB0.size; simp; omega))))
                have hsv2 := hb.size
                (try simp at hsv2)
                have hzv2 : w.heap.size < v2.heap.size := by omega
                obtain ⟨hcv2, hfv2⟩ := bcell hb
                have hkv2 := hid (fun n x => @heap_still _ _ n x hb)
                clear hb
                have b0 : v2.cell? ⟨v1.heap.size + 1, 0, none⟩ = some (.int .i64 y0) := (cell_row (j := 0) (hkv2.out _ _ (heap_alloc_at _ _ _ (by simp)) : v2.heap[v1.heap.size + 1]? = some (.cells #[.int .i64 y0, .int .i64 y1] 44))).trans rfl
                have b1 : v2.cell? ⟨v1.heap.size + 1, 1, none⟩ = some (.int .i64 y1) := (cell_row (j := 1) (hkv2.out _ _ (heap_alloc_at _ _ _ (by simp)) : v2.heap[v1.heap.size + 1]? = some (.cells #[.int .i64 y0, .int .i64 y1] 44))).trans rfl
                have Pv2 := hid (hkv2.out _ _ (by repeat' (first | exact Pv1.out | (refine heap_alloc_past _ _ _ _ ?_))) : v2.heap[w.heap.size]? = some (.cells #[.int .i64 x0, .int .i64 x1, .int .i64 y0, .int .i64 y1, .int .i64 z0, .int .i64 z1, .int .i64 a, .int .i64 b, .int .i64 c, .int .i64 d, .int .i64 t] 80))
                have Sv2 := hid (hkv2.out _ _ (by repeat' (first | exact Sv1.out | (refine heap_alloc_past _ _ _ _ ?_))) : v2.heap[w.heap.size + 1]? = some (row4 e f g h))
                have Rv2 := hid (hkv2.out _ _ (by repeat' (first | exact Rv1.out | (refine heap_alloc_past _ _ _ _ ?_))) : v2.heap[w.heap.size + 1 + 1]? = some (.cells #[.int .i64 r0, .int .i64 r1] 44))
                have HB := HBv2
                clear hcv2 hfv2
                rw [H3.out]
                go_wp2_with fail
                refine (within_any _ _ _ _ _ _ [y0, y1] _ rfl (by simp) (cells_ints _ (by repeat' (first | (refine heap_alloc_at _ _ _ ?_; (first | rfl | (simp; done) | (simp; omega))) | (refine heap_alloc_past _ _ _ _ ?_))) rfl)).mono ?_
                rintro r w' ⟨rfl, rfl⟩
                rw [H4.out]
                go_wp2_with fail
                rw [rounds_succ]
                go_wp2_with fail
                refine (valid_any _ _ _).mono ?_
                rintro r v3 ⟨rfl, hb⟩
                have HBv3 := hid (show Below w.heap.size w v3 by have hB0 := HBv2.out; refine Below.trans ?_ (hb.mono ?_); (focus ((repeat' (first | (with_reducible exact Below.refl _ _) | (with_reducible assumption) | (with_reducible refine Below.alloc ?_ ?_ _) | (with_reducible refine Below.drew ?_) | (with_reducible refine below_drewN ?_ _) | (with_reducible refine Below.setCell ?_ ?_ _) | (with_reducible refine below_setRow ?_ ?_ _) | go_size)); done)); (focus (first | (simp; done) | (simp; omega) | (have hB1 := hB0.size; simp; omega))))
                have hsv3 := hb.size
                (try simp at hsv3)
                have hzv3 : w.heap.size < v3.heap.size := by omega
                obtain ⟨hcv3, hfv3⟩ := bcell hb
                have hkv3 := hid (fun n x => @heap_still _ _ n x hb)
                clear hb
                have b0 : v3.cell? ⟨v2.heap.size + 1, 0, none⟩ = some (.int .i64 z0) := (cell_row (j := 0) (hkv3.out _ _ (heap_alloc_at _ _ _ (by simp)) : v3.heap[v2.heap.size + 1]? = some (.cells #[.int .i64 z0, .int .i64 z1] 44))).trans rfl
                have b1 : v3.cell? ⟨v2.heap.size + 1, 1, none⟩ = some (.int .i64 z1) := (cell_row (j := 1) (hkv3.out _ _ (heap_alloc_at _ _ _ (by simp)) : v3.heap[v2.heap.size + 1]? = some (.cells #[.int .i64 z0, .int .i64 z1] 44))).trans rfl
                have Pv3 := hid (hkv3.out _ _ (by repeat' (first | exact Pv2.out | (refine heap_alloc_past _ _ _ _ ?_))) : v3.heap[w.heap.size]? = some (.cells #[.int .i64 x0, .int .i64 x1, .int .i64 y0, .int .i64 y1, .int .i64 z0, .int .i64 z1, .int .i64 a, .int .i64 b, .int .i64 c, .int .i64 d, .int .i64 t] 80))
                have Sv3 := hid (hkv3.out _ _ (by repeat' (first | exact Sv2.out | (refine heap_alloc_past _ _ _ _ ?_))) : v3.heap[w.heap.size + 1]? = some (row4 e f g h))
                have Rv3 := hid (hkv3.out _ _ (by repeat' (first | exact Rv2.out | (refine heap_alloc_past _ _ _ _ ?_))) : v3.heap[w.heap.size + 1 + 1]? = some (.cells #[.int .i64 r0, .int .i64 r1] 44))
                have HB := HBv3
                clear hcv3 hfv3
                rw [H5.out]
                go_wp2_with fail
                refine (within_any _ _ _ _ _ _ [z0, z1] _ rfl (by simp) (cells_ints _ (by repeat' (first | (refine heap_alloc_at _ _ _ ?_; (first | rfl | (simp; done) | (simp; omega))) | (refine heap_alloc_past _ _ _ _ ?_))) rfl)).mono ?_
                rintro r w' ⟨rfl, rfl⟩
                rw [H6.out]
                go_wp2_with fail
                rw [rounds_succ]
                have hz2 : w.heap.size + 1 + 1 < v3.heap.size := (Array.getElem?_eq_some_iff.1 Rv3.out).1
                have t0 : v3.cell? ⟨w.heap.size, 10, none⟩ = some (.int .i64 t) := (cell_row (j := 10) Pv3.out).trans rfl
                go_wp2_with fail
                refine (within1 _ _ (t) _ _ _ ?_).mono ?_
                focus first | (simp; done) | (simp [go_sem]; done)
                rintro r w1 ⟨rfl, rfl⟩
                have b0 : ∀ o1 o2, ((v3.alloc o1).alloc o2).cell? ⟨w.heap.size + 1 + 1, 0, none⟩ = some (.int .i64 r0) := fun o1 o2 => (cell_row (j := 0) (heap_alloc_past _ _ _ _ (heap_alloc_past _ _ _ _ Rv3.out))).trans rfl
                have b1 : ∀ o1 o2, ((v3.alloc o1).alloc o2).cell? ⟨w.heap.size + 1 + 1, 1, none⟩ = some (.int .i64 r1) := fun o1 o2 => (cell_row (j := 1) (heap_alloc_past _ _ _ _ (heap_alloc_past _ _ _ _ Rv3.out))).trans rfl
                rw [H7.out]
                go_wp2_with fail
                go_ret
                refine ⟨by rw [HS.out]; rfl, ?_⟩
                (try have hB0 := HB.out)
                (repeat' (first | (with_reducible exact Below.refl _ _) | (with_reducible assumption) | (with_reducible refine Below.alloc ?_ ?_ _) | (with_reducible refine Below.drew ?_) | (with_reducible refine below_drewN ?_ _) | (with_reducible refine Below.setCell ?_ ?_ _) | (with_reducible refine below_setRow ?_ ?_ _) | go_size))
            · have HS := hid (show poseErr x0 x1 y0 y1 z0 z1 a b c d t e f g h r0 r1 = 2 by simp [poseErr, h1, h2, h3, h4, h5, h6])
              have H1 := hid h1
              have H2 := hid h2
              have H3 := hid h3
              have H4 := hid h4
              have H5 := hid h5
              have H6 := hid (Bool.eq_false_iff.2 h6)
              clear h1 h2 h3 h4 h5 h6
              go_enter Try.func94, Try.ntmps94
              go_wp2_with fail
              refine wp_loop_rounds 4 ?_
              rw [rounds_succ]
              go_wp2_with fail
              refine (valid_any _ _ _).mono ?_
              rintro r v1 ⟨rfl, hb⟩
              have HBv1 := hid (show Below w.heap.size w v1 by have hB0 := HBw.out; refine Below.trans ?_ (hb.mono ?_); (focus ((repeat' (first | (with_reducible exact Below.refl _ _) | (with_reducible assumption) | (with_reducible refine Below.alloc ?_ ?_ _) | (with_reducible refine Below.drew ?_) | (with_reducible refine below_drewN ?_ _) | (with_reducible refine Below.setCell ?_ ?_ _) | (with_reducible refine below_setRow ?_ ?_ _) | go_size)); done)); (focus (first | (simp; done) | (simp; omega) | (have hB1 := hB0.size; simp; omega))))
              have hsv1 := hb.size
              (try simp at hsv1)
              have hzv1 : w.heap.size < v1.heap.size := by omega
              obtain ⟨hcv1, hfv1⟩ := bcell hb
              have hkv1 := hid (fun n x => @heap_still _ _ n x hb)
              clear hb
              have Pv1 := hid (hkv1.out _ _ (by repeat' (first | (refine heap_alloc_at _ _ _ ?_; (first | rfl | (simp; done) | (simp; omega))) | (refine heap_alloc_past _ _ _ _ ?_))) : v1.heap[w.heap.size]? = some (.cells #[.int .i64 x0, .int .i64 x1, .int .i64 y0, .int .i64 y1, .int .i64 z0, .int .i64 z1, .int .i64 a, .int .i64 b, .int .i64 c, .int .i64 d, .int .i64 t] 80))
              have Sv1 := hid (hkv1.out _ _ (by repeat' (first | (refine heap_alloc_at _ _ _ ?_; (first | rfl | (simp; done) | (simp; omega))) | (refine heap_alloc_past _ _ _ _ ?_))) : v1.heap[w.heap.size + 1]? = some (row4 e f g h))
              have Rv1 := hid (hkv1.out _ _ (by repeat' (first | (refine heap_alloc_at _ _ _ ?_; (first | rfl | (simp; done) | (simp; omega))) | (refine heap_alloc_past _ _ _ _ ?_))) : v1.heap[w.heap.size + 1 + 1]? = some (.cells #[.int .i64 r0, .int .i64 r1] 44))
              have b0 : v1.cell? ⟨w.heap.size + 1 + 1 + 1, 0, none⟩ = some (.int .i64 x0) := (cell_row (j := 0) (hkv1.out _ _ (by repeat' (first | (refine heap_alloc_at _ _ _ ?_; (first | rfl | (simp; done) | (simp; omega))) | (refine heap_alloc_past _ _ _ _ ?_))) : v1.heap[w.heap.size + 1 + 1 + 1]? = some (.cells #[.int .i64 x0, .int .i64 x1] 44))).trans rfl
              have b1 : v1.cell? ⟨w.heap.size + 1 + 1 + 1, 1, none⟩ = some (.int .i64 x1) := (cell_row (j := 1) (hkv1.out _ _ (by repeat' (first | (refine heap_alloc_at _ _ _ ?_; (first | rfl | (simp; done) | (simp; omega))) | (refine heap_alloc_past _ _ _ _ ?_))) : v1.heap[w.heap.size + 1 + 1 + 1]? = some (.cells #[.int .i64 x0, .int .i64 x1] 44))).trans rfl
              have HB := HBv1
              clear hcv1 hfv1
              rw [H1.out]
              go_wp2_with fail
              refine (within_any _ _ _ _ _ _ [x0, x1] _ rfl (by simp) (cells_ints _ (by repeat' (first | (refine heap_alloc_at _ _ _ ?_; (first | rfl | (simp; done) | (simp; omega))) | (refine heap_alloc_past _ _ _ _ ?_))) rfl)).mono ?_
              rintro r w' ⟨rfl, rfl⟩
              rw [H2.out]
              go_wp2_with fail
              rw [rounds_succ]
              go_wp2_with fail
              refine (valid_any _ _ _).mono ?_
              rintro r v2 ⟨rfl, hb⟩
              have HBv2 := hid (show Below w.heap.size w v2 by have hB0 := HBv1.out; refine Below.trans ?_ (hb.mono ?_); (focus ((repeat' (first | (with_reducible exact Below.refl _ _) | (with_reducible assumption) | (with_reducible refine Below.alloc ?_ ?_ _) | (with_reducible refine Below.drew ?_) | (with_reducible refine below_drewN ?_ _) | (with_reducible refine Below.setCell ?_ ?_ _) | (with_reducible refine below_setRow ?_ ?_ _) | go_size)); done)); (focus (first | (simp; done) | (simp; omega) | (have hB1 := hB0.size; simp; omega))))
              have hsv2 := hb.size
              (try simp at hsv2)
              have hzv2 : w.heap.size < v2.heap.size := by omega
              obtain ⟨hcv2, hfv2⟩ := bcell hb
              have hkv2 := hid (fun n x => @heap_still _ _ n x hb)
              clear hb
              have b0 : v2.cell? ⟨v1.heap.size + 1, 0, none⟩ = some (.int .i64 y0) := (cell_row (j := 0) (hkv2.out _ _ (heap_alloc_at _ _ _ (by simp)) : v2.heap[v1.heap.size + 1]? = some (.cells #[.int .i64 y0, .int .i64 y1] 44))).trans rfl
              have b1 : v2.cell? ⟨v1.heap.size + 1, 1, none⟩ = some (.int .i64 y1) := (cell_row (j := 1) (hkv2.out _ _ (heap_alloc_at _ _ _ (by simp)) : v2.heap[v1.heap.size + 1]? = some (.cells #[.int .i64 y0, .int .i64 y1] 44))).trans rfl
              have Pv2 := hid (hkv2.out _ _ (by repeat' (first | exact Pv1.out | (refine heap_alloc_past _ _ _ _ ?_))) : v2.heap[w.heap.size]? = some (.cells #[.int .i64 x0, .int .i64 x1, .int .i64 y0, .int .i64 y1, .int .i64 z0, .int .i64 z1, .int .i64 a, .int .i64 b, .int .i64 c, .int .i64 d, .int .i64 t] 80))
              have Sv2 := hid (hkv2.out _ _ (by repeat' (first | exact Sv1.out | (refine heap_alloc_past _ _ _ _ ?_))) : v2.heap[w.heap.size + 1]? = some (row4 e f g h))
              have Rv2 := hid (hkv2.out _ _ (by repeat' (first | exact Rv1.out | (refine heap_alloc_past _ _ _ _ ?_))) : v2.heap[w.heap.size + 1 + 1]? = some (.cells #[.int .i64 r0, .int .i64 r1] 44))
              have HB := HBv2
              clear hcv2 hfv2
              rw [H3.out]
              go_wp2_with fail
              refine (within_any _ _ _ _ _ _ [y0, y1] _ rfl (by simp) (cells_ints _ (by repeat' (first | (refine heap_alloc_at _ _ _ ?_; (first | rfl | (simp; done) | (simp; omega))) | (refine heap_alloc_past _ _ _ _ ?_))) rfl)).mono ?_
              rintro r w' ⟨rfl, rfl⟩
              rw [H4.out]
              go_wp2_with fail
              rw [rounds_succ]
              go_wp2_with fail
              refine (valid_any _ _ _).mono ?_
              rintro r v3 ⟨rfl, hb⟩
              have HBv3 := hid (show Below w.heap.size w v3 by have hB0 := HBv2.out; refine Below.trans ?_ (hb.mono ?_); (focus ((repeat' (first | (with_reducible exact Below.refl _ _) | (with_reducible assumption) | (with_reducible refine Below.alloc ?_ ?_ _) | (with_reducible refine Below.drew ?_) | (with_reducible refine below_drewN ?_ _) | (with_reducible refine Below.setCell ?_ ?_ _) | (with_reducible refine below_setRow ?_ ?_ _) | go_size)); done)); (focus (first | (simp; done) | (simp; omega) | (have hB1 := hB0.size; simp; omega))))
              have hsv3 := hb.size
              (try simp at hsv3)
              have hzv3 : w.heap.size < v3.heap.size := by omega
              obtain ⟨hcv3, hfv3⟩ := bcell hb
              have hkv3 := hid (fun n x => @heap_still _ _ n x hb)
              clear hb
              have b0 : v3.cell? ⟨v2.heap.size + 1, 0, none⟩ = some (.int .i64 z0) := (cell_row (j := 0) (hkv3.out _ _ (heap_alloc_at _ _ _ (by simp)) : v3.heap[v2.heap.size + 1]? = some (.cells #[.int .i64 z0, .int .i64 z1] 44))).trans rfl
              have b1 : v3.cell? ⟨v2.heap.size + 1, 1, none⟩ = some (.int .i64 z1) := (cell_row (j := 1) (hkv3.out _ _ (heap_alloc_at _ _ _ (by simp)) : v3.heap[v2.heap.size + 1]? = some (.cells #[.int .i64 z0, .int .i64 z1] 44))).trans rfl
              have Pv3 := hid (hkv3.out _ _ (by repeat' (first | exact Pv2.out | (refine heap_alloc_past _ _ _ _ ?_))) : v3.heap[w.heap.size]? = some (.cells #[.int .i64 x0, .int .i64 x1, .int .i64 y0, .int .i64 y1, .int .i64 z0, .int .i64 z1, .int .i64 a, .int .i64 b, .int .i64 c, .int .i64 d, .int .i64 t] 80))
              have Sv3 := hid (hkv3.out _ _ (by repeat' (first | exact Sv2.out | (refine heap_alloc_past _ _ _ _ ?_))) : v3.heap[w.heap.size + 1]? = some (row4 e f g h))
              have Rv3 := hid (hkv3.out _ _ (by repeat' (first | exact Rv2.out | (refine heap_alloc_past _ _ _ _ ?_))) : v3.heap[w.heap.size + 1 + 1]? = some (.cells #[.int .i64 r0, .int .i64 r1] 44))
              have HB := HBv3
              clear hcv3 hfv3
              rw [H5.out]
              go_wp2_with fail
              refine (within_any _ _ _ _ _ _ [z0, z1] _ rfl (by simp) (cells_ints _ (by repeat' (first | (refine heap_alloc_at _ _ _ ?_; (first | rfl | (simp; done) | (simp; omega))) | (refine heap_alloc_past _ _ _ _ ?_))) rfl)).mono ?_
              rintro r w' ⟨rfl, rfl⟩
              rw [H6.out]
              go_wp2_with fail
              go_ret
              refine ⟨by rw [HS.out]; rfl, ?_⟩
              (try have hB0 := HB.out)
              (repeat' (first | (with_reducible exact Below.refl _ _) | (with_reducible assumption) | (with_reducible refine Below.alloc ?_ ?_ _) | (with_reducible refine Below.drew ?_) | (with_reducible refine below_drewN ?_ _) | (with_reducible refine Below.setCell ?_ ?_ _) | (with_reducible refine below_setRow ?_ ?_ _) | go_size))
          · have HS := hid (show poseErr x0 x1 y0 y1 z0 z1 a b c d t e f g h r0 r1 = 2 by simp [poseErr, h1, h2, h3, h4, h5])
            have H1 := hid h1
            have H2 := hid h2
            have H3 := hid h3
            have H4 := hid h4
            have H5 := hid (Bool.eq_false_iff.2 h5)
            clear h1 h2 h3 h4 h5
            go_enter Try.func94, Try.ntmps94
            go_wp2_with fail
            refine wp_loop_rounds 4 ?_
            rw [rounds_succ]
            go_wp2_with fail
            refine (valid_any _ _ _).mono ?_
            rintro r v1 ⟨rfl, hb⟩
            have HBv1 := hid (show Below w.heap.size w v1 by have hB0 := HBw.out; refine Below.trans ?_ (hb.mono ?_); (focus ((repeat' (first | (with_reducible exact Below.refl _ _) | (with_reducible assumption) | (with_reducible refine Below.alloc ?_ ?_ _) | (with_reducible refine Below.drew ?_) | (with_reducible refine below_drewN ?_ _) | (with_reducible refine Below.setCell ?_ ?_ _) | (with_reducible refine below_setRow ?_ ?_ _) | go_size)); done)); (focus (first | (simp; done) | (simp; omega) | (have hB1 := hB0.size; simp; omega))))
            have hsv1 := hb.size
            (try simp at hsv1)
            have hzv1 : w.heap.size < v1.heap.size := by omega
            obtain ⟨hcv1, hfv1⟩ := bcell hb
            have hkv1 := hid (fun n x => @heap_still _ _ n x hb)
            clear hb
            have Pv1 := hid (hkv1.out _ _ (by repeat' (first | (refine heap_alloc_at _ _ _ ?_; (first | rfl | (simp; done) | (simp; omega))) | (refine heap_alloc_past _ _ _ _ ?_))) : v1.heap[w.heap.size]? = some (.cells #[.int .i64 x0, .int .i64 x1, .int .i64 y0, .int .i64 y1, .int .i64 z0, .int .i64 z1, .int .i64 a, .int .i64 b, .int .i64 c, .int .i64 d, .int .i64 t] 80))
            have Sv1 := hid (hkv1.out _ _ (by repeat' (first | (refine heap_alloc_at _ _ _ ?_; (first | rfl | (simp; done) | (simp; omega))) | (refine heap_alloc_past _ _ _ _ ?_))) : v1.heap[w.heap.size + 1]? = some (row4 e f g h))
            have Rv1 := hid (hkv1.out _ _ (by repeat' (first | (refine heap_alloc_at _ _ _ ?_; (first | rfl | (simp; done) | (simp; omega))) | (refine heap_alloc_past _ _ _ _ ?_))) : v1.heap[w.heap.size + 1 + 1]? = some (.cells #[.int .i64 r0, .int .i64 r1] 44))
            have b0 : v1.cell? ⟨w.heap.size + 1 + 1 + 1, 0, none⟩ = some (.int .i64 x0) := (cell_row (j := 0) (hkv1.out _ _ (by repeat' (first | (refine heap_alloc_at _ _ _ ?_; (first | rfl | (simp; done) | (simp; omega))) | (refine heap_alloc_past _ _ _ _ ?_))) : v1.heap[w.heap.size + 1 + 1 + 1]? = some (.cells #[.int .i64 x0, .int .i64 x1] 44))).trans rfl
            have b1 : v1.cell? ⟨w.heap.size + 1 + 1 + 1, 1, none⟩ = some (.int .i64 x1) := (cell_row (j := 1) (hkv1.out _ _ (by repeat' (first | (refine heap_alloc_at _ _ _ ?_; (first | rfl | (simp; done) | (simp; omega))) | (refine heap_alloc_past _ _ _ _ ?_))) : v1.heap[w.heap.size + 1 + 1 + 1]? = some (.cells #[.int .i64 x0, .int .i64 x1] 44))).trans rfl
            have HB := HBv1
            clear hcv1 hfv1
            rw [H1.out]
            go_wp2_with fail
            refine (within_any _ _ _ _ _ _ [x0, x1] _ rfl (by simp) (cells_ints _ (by repeat' (first | (refine heap_alloc_at _ _ _ ?_; (first | rfl | (simp; done) | (simp; omega))) | (refine heap_alloc_past _ _ _ _ ?_))) rfl)).mono ?_
            rintro r w' ⟨rfl, rfl⟩
            rw [H2.out]
            go_wp2_with fail
            rw [rounds_succ]
            go_wp2_with fail
            refine (valid_any _ _ _).mono ?_
            rintro r v2 ⟨rfl, hb⟩
            have HBv2 := hid (show Below w.heap.size w v2 by have hB0 := HBv1.out; refine Below.trans ?_ (hb.mono ?_); (focus ((repeat' (first | (with_reducible exact Below.refl _ _) | (with_reducible assumption) | (with_reducible refine Below.alloc ?_ ?_ _) | (with_reducible refine Below.drew ?_) | (with_reducible refine below_drewN ?_ _) | (with_reducible refine Below.setCell ?_ ?_ _) | (with_reducible refine below_setRow ?_ ?_ _) | go_size)); done)); (focus (first | (simp; done) | (simp; omega) | (have hB1 := hB0.size; simp; omega))))
            have hsv2 := hb.size
            (try simp at hsv2)
            have hzv2 : w.heap.size < v2.heap.size := by omega
            obtain ⟨hcv2, hfv2⟩ := bcell hb
            have hkv2 := hid (fun n x => @heap_still _ _ n x hb)
            clear hb
            have b0 : v2.cell? ⟨v1.heap.size + 1, 0, none⟩ = some (.int .i64 y0) := (cell_row (j := 0) (hkv2.out _ _ (heap_alloc_at _ _ _ (by simp)) : v2.heap[v1.heap.size + 1]? = some (.cells #[.int .i64 y0, .int .i64 y1] 44))).trans rfl
            have b1 : v2.cell? ⟨v1.heap.size + 1, 1, none⟩ = some (.int .i64 y1) := (cell_row (j := 1) (hkv2.out _ _ (heap_alloc_at _ _ _ (by simp)) : v2.heap[v1.heap.size + 1]? = some (.cells #[.int .i64 y0, .int .i64 y1] 44))).trans rfl
            have Pv2 := hid (hkv2.out _ _ (by repeat' (first | exact Pv1.out | (refine heap_alloc_past _ _ _ _ ?_))) : v2.heap[w.heap.size]? = some (.cells #[.int .i64 x0, .int .i64 x1, .int .i64 y0, .int .i64 y1, .int .i64 z0, .int .i64 z1, .int .i64 a, .int .i64 b, .int .i64 c, .int .i64 d, .int .i64 t] 80))
            have Sv2 := hid (hkv2.out _ _ (by repeat' (first | exact Sv1.out | (refine heap_alloc_past _ _ _ _ ?_))) : v2.heap[w.heap.size + 1]? = some (row4 e f g h))
            have Rv2 := hid (hkv2.out _ _ (by repeat' (first | exact Rv1.out | (refine heap_alloc_past _ _ _ _ ?_))) : v2.heap[w.heap.size + 1 + 1]? = some (.cells #[.int .i64 r0, .int .i64 r1] 44))
            have HB := HBv2
            clear hcv2 hfv2
            rw [H3.out]
            go_wp2_with fail
            refine (within_any _ _ _ _ _ _ [y0, y1] _ rfl (by simp) (cells_ints _ (by repeat' (first | (refine heap_alloc_at _ _ _ ?_; (first | rfl | (simp; done) | (simp; omega))) | (refine heap_alloc_past _ _ _ _ ?_))) rfl)).mono ?_
            rintro r w' ⟨rfl, rfl⟩
            rw [H4.out]
            go_wp2_with fail
            rw [rounds_succ]
            go_wp2_with fail
            refine (valid_any _ _ _).mono ?_
            rintro r v3 ⟨rfl, hb⟩
            have HBv3 := hid (show Below w.heap.size w v3 by have hB0 := HBv2.out; refine Below.trans ?_ (hb.mono ?_); (focus ((repeat' (first | (with_reducible exact Below.refl _ _) | (with_reducible assumption) | (with_reducible refine Below.alloc ?_ ?_ _) | (with_reducible refine Below.drew ?_) | (with_reducible refine below_drewN ?_ _) | (with_reducible refine Below.setCell ?_ ?_ _) | (with_reducible refine below_setRow ?_ ?_ _) | go_size)); done)); (focus (first | (simp; done) | (simp; omega) | (have hB1 := hB0.size; simp; omega))))
            have hsv3 := hb.size
            (try simp at hsv3)
            have hzv3 : w.heap.size < v3.heap.size := by omega
            obtain ⟨hcv3, hfv3⟩ := bcell hb
            have hkv3 := hid (fun n x => @heap_still _ _ n x hb)
            clear hb
            have b0 : v3.cell? ⟨v2.heap.size + 1, 0, none⟩ = some (.int .i64 z0) := (cell_row (j := 0) (hkv3.out _ _ (heap_alloc_at _ _ _ (by simp)) : v3.heap[v2.heap.size + 1]? = some (.cells #[.int .i64 z0, .int .i64 z1] 44))).trans rfl
            have b1 : v3.cell? ⟨v2.heap.size + 1, 1, none⟩ = some (.int .i64 z1) := (cell_row (j := 1) (hkv3.out _ _ (heap_alloc_at _ _ _ (by simp)) : v3.heap[v2.heap.size + 1]? = some (.cells #[.int .i64 z0, .int .i64 z1] 44))).trans rfl
            have Pv3 := hid (hkv3.out _ _ (by repeat' (first | exact Pv2.out | (refine heap_alloc_past _ _ _ _ ?_))) : v3.heap[w.heap.size]? = some (.cells #[.int .i64 x0, .int .i64 x1, .int .i64 y0, .int .i64 y1, .int .i64 z0, .int .i64 z1, .int .i64 a, .int .i64 b, .int .i64 c, .int .i64 d, .int .i64 t] 80))
            have Sv3 := hid (hkv3.out _ _ (by repeat' (first | exact Sv2.out | (refine heap_alloc_past _ _ _ _ ?_))) : v3.heap[w.heap.size + 1]? = some (row4 e f g h))
            have Rv3 := hid (hkv3.out _ _ (by repeat' (first | exact Rv2.out | (refine heap_alloc_past _ _ _ _ ?_))) : v3.heap[w.heap.size + 1 + 1]? = some (.cells #[.int .i64 r0, .int .i64 r1] 44))
            have HB := HBv3
            clear hcv3 hfv3
            rw [H5.out]
            go_wp2_with fail
            go_ret
            refine ⟨by rw [HS.out]; rfl, ?_⟩
            (try have hB0 := HB.out)
            (repeat' (first | (with_reducible exact Below.refl _ _) | (with_reducible assumption) | (with_reducible refine Below.alloc ?_ ?_ _) | (with_reducible refine Below.drew ?_) | (with_reducible refine below_drewN ?_ _) | (with_reducible refine Below.setCell ?_ ?_ _) | (with_reducible refine below_setRow ?_ ?_ _) | go_size))
        · have HS := hid (show poseErr x0 x1 y0 y1 z0 z1 a b c d t e f g h r0 r1 = 2 by simp [poseErr, h1, h2, h3, h4])
          have H1 := hid h1
          have H2 := hid h2
          have H3 := hid h3
          have H4 := hid (Bool.eq_false_iff.2 h4)
          clear h1 h2 h3 h4
          go_enter Try.func94, Try.ntmps94
          go_wp2_with fail
          refine wp_loop_rounds 4 ?_
          rw [rounds_succ]
          go_wp2_with fail
          refine (valid_any _ _ _).mono ?_
          rintro r v1 ⟨rfl, hb⟩
          have HBv1 := hid (show Below w.heap.size w v1 by have hB0 := HBw.out; refine Below.trans ?_ (hb.mono ?_); (focus ((repeat' (first | (with_reducible exact Below.refl _ _) | (with_reducible assumption) | (with_reducible refine Below.alloc ?_ ?_ _) | (with_reducible refine Below.drew ?_) | (with_reducible refine below_drewN ?_ _) | (with_reducible refine Below.setCell ?_ ?_ _) | (with_reducible refine below_setRow ?_ ?_ _) | go_size)); done)); (focus (first | (simp; done) | (simp; omega) | (have hB1 := hB0.size; simp; omega))))
          have hsv1 := hb.size
          (try simp at hsv1)
          have hzv1 : w.heap.size < v1.heap.size := by omega
          obtain ⟨hcv1, hfv1⟩ := bcell hb
          have hkv1 := hid (fun n x => @heap_still _ _ n x hb)
          clear hb
          have Pv1 := hid (hkv1.out _ _ (by repeat' (first | (refine heap_alloc_at _ _ _ ?_; (first | rfl | (simp; done) | (simp; omega))) | (refine heap_alloc_past _ _ _ _ ?_))) : v1.heap[w.heap.size]? = some (.cells #[.int .i64 x0, .int .i64 x1, .int .i64 y0, .int .i64 y1, .int .i64 z0, .int .i64 z1, .int .i64 a, .int .i64 b, .int .i64 c, .int .i64 d, .int .i64 t] 80))
          have Sv1 := hid (hkv1.out _ _ (by repeat' (first | (refine heap_alloc_at _ _ _ ?_; (first | rfl | (simp; done) | (simp; omega))) | (refine heap_alloc_past _ _ _ _ ?_))) : v1.heap[w.heap.size + 1]? = some (row4 e f g h))
          have Rv1 := hid (hkv1.out _ _ (by repeat' (first | (refine heap_alloc_at _ _ _ ?_; (first | rfl | (simp; done) | (simp; omega))) | (refine heap_alloc_past _ _ _ _ ?_))) : v1.heap[w.heap.size + 1 + 1]? = some (.cells #[.int .i64 r0, .int .i64 r1] 44))
          have b0 : v1.cell? ⟨w.heap.size + 1 + 1 + 1, 0, none⟩ = some (.int .i64 x0) := (cell_row (j := 0) (hkv1.out _ _ (by repeat' (first | (refine heap_alloc_at _ _ _ ?_; (first | rfl | (simp; done) | (simp; omega))) | (refine heap_alloc_past _ _ _ _ ?_))) : v1.heap[w.heap.size + 1 + 1 + 1]? = some (.cells #[.int .i64 x0, .int .i64 x1] 44))).trans rfl
          have b1 : v1.cell? ⟨w.heap.size + 1 + 1 + 1, 1, none⟩ = some (.int .i64 x1) := (cell_row (j := 1) (hkv1.out _ _ (by repeat' (first | (refine heap_alloc_at _ _ _ ?_; (first | rfl | (simp; done) | (simp; omega))) | (refine heap_alloc_past _ _ _ _ ?_))) : v1.heap[w.heap.size + 1 + 1 + 1]? = some (.cells #[.int .i64 x0, .int .i64 x1] 44))).trans rfl
          have HB := HBv1
          clear hcv1 hfv1
          rw [H1.out]
          go_wp2_with fail
          refine (within_any _ _ _ _ _ _ [x0, x1] _ rfl (by simp) (cells_ints _ (by repeat' (first | (refine heap_alloc_at _ _ _ ?_; (first | rfl | (simp; done) | (simp; omega))) | (refine heap_alloc_past _ _ _ _ ?_))) rfl)).mono ?_
          rintro r w' ⟨rfl, rfl⟩
          rw [H2.out]
          go_wp2_with fail
          rw [rounds_succ]
          go_wp2_with fail
          refine (valid_any _ _ _).mono ?_
          rintro r v2 ⟨rfl, hb⟩
          have HBv2 := hid (show Below w.heap.size w v2 by have hB0 := HBv1.out; refine Below.trans ?_ (hb.mono ?_); (focus ((repeat' (first | (with_reducible exact Below.refl _ _) | (with_reducible assumption) | (with_reducible refine Below.alloc ?_ ?_ _) | (with_reducible refine Below.drew ?_) | (with_reducible refine below_drewN ?_ _) | (with_reducible refine Below.setCell ?_ ?_ _) | (with_reducible refine below_setRow ?_ ?_ _) | go_size)); done)); (focus (first | (simp; done) | (simp; omega) | (have hB1 := hB0.size; simp; omega))))
          have hsv2 := hb.size
          (try simp at hsv2)
          have hzv2 : w.heap.size < v2.heap.size := by omega
          obtain ⟨hcv2, hfv2⟩ := bcell hb
          have hkv2 := hid (fun n x => @heap_still _ _ n x hb)
          clear hb
          have b0 : v2.cell? ⟨v1.heap.size + 1, 0, none⟩ = some (.int .i64 y0) := (cell_row (j := 0) (hkv2.out _ _ (heap_alloc_at _ _ _ (by simp)) : v2.heap[v1.heap.size + 1]? = some (.cells #[.int .i64 y0, .int .i64 y1] 44))).trans rfl
          have b1 : v2.cell? ⟨v1.heap.size + 1, 1, none⟩ = some (.int .i64 y1) := (cell_row (j := 1) (hkv2.out _ _ (heap_alloc_at _ _ _ (by simp)) : v2.heap[v1.heap.size + 1]? = some (.cells #[.int .i64 y0, .int .i64 y1] 44))).trans rfl
          have Pv2 := hid (hkv2.out _ _ (by repeat' (first | exact Pv1.out | (refine heap_alloc_past _ _ _ _ ?_))) : v2.heap[w.heap.size]? = some (.cells #[.int .i64 x0, .int .i64 x1, .int .i64 y0, .int .i64 y1, .int .i64 z0, .int .i64 z1, .int .i64 a, .int .i64 b, .int .i64 c, .int .i64 d, .int .i64 t] 80))
          have Sv2 := hid (hkv2.out _ _ (by repeat' (first | exact Sv1.out | (refine heap_alloc_past _ _ _ _ ?_))) : v2.heap[w.heap.size + 1]? = some (row4 e f g h))
          have Rv2 := hid (hkv2.out _ _ (by repeat' (first | exact Rv1.out | (refine heap_alloc_past _ _ _ _ ?_))) : v2.heap[w.heap.size + 1 + 1]? = some (.cells #[.int .i64 r0, .int .i64 r1] 44))
          have HB := HBv2
          clear hcv2 hfv2
          rw [H3.out]
          go_wp2_with fail
          refine (within_any _ _ _ _ _ _ [y0, y1] _ rfl (by simp) (cells_ints _ (by repeat' (first | (refine heap_alloc_at _ _ _ ?_; (first | rfl | (simp; done) | (simp; omega))) | (refine heap_alloc_past _ _ _ _ ?_))) rfl)).mono ?_
          rintro r w' ⟨rfl, rfl⟩
          rw [H4.out]
          go_wp2_with fail
          go_ret
          refine ⟨by rw [HS.out]; rfl, ?_⟩
          (try have hB0 := HB.out)
          (repeat' (first | (with_reducible exact Below.refl _ _) | (with_reducible assumption) | (with_reducible refine Below.alloc ?_ ?_ _) | (with_reducible refine Below.drew ?_) | (with_reducible refine below_drewN ?_ _) | (with_reducible refine Below.setCell ?_ ?_ _) | (with_reducible refine below_setRow ?_ ?_ _) | go_size))
      · have HS := hid (show poseErr x0 x1 y0 y1 z0 z1 a b c d t e f g h r0 r1 = 2 by simp [poseErr, h1, h2, h3])
        have H1 := hid h1
        have H2 := hid h2
        have H3 := hid (Bool.eq_false_iff.2 h3)
        clear h1 h2 h3
        go_enter Try.func94, Try.ntmps94
        go_wp2_with fail
        refine wp_loop_rounds 4 ?_
        rw [rounds_succ]
        go_wp2_with fail
        refine (valid_any _ _ _).mono ?_
        rintro r v1 ⟨rfl, hb⟩
        have HBv1 := hid (show Below w.heap.size w v1 by have hB0 := HBw.out; refine Below.trans ?_ (hb.mono ?_); (focus ((repeat' (first | (with_reducible exact Below.refl _ _) | (with_reducible assumption) | (with_reducible refine Below.alloc ?_ ?_ _) | (with_reducible refine Below.drew ?_) | (with_reducible refine below_drewN ?_ _) | (with_reducible refine Below.setCell ?_ ?_ _) | (with_reducible refine below_setRow ?_ ?_ _) | go_size)); done)); (focus (first | (simp; done) | (simp; omega) | (have hB1 := hB0.size; simp; omega))))
        have hsv1 := hb.size
        (try simp at hsv1)
        have hzv1 : w.heap.size < v1.heap.size := by omega
        obtain ⟨hcv1, hfv1⟩ := bcell hb
        have hkv1 := hid (fun n x => @heap_still _ _ n x hb)
        clear hb
        have Pv1 := hid (hkv1.out _ _ (by repeat' (first | (refine heap_alloc_at _ _ _ ?_; (first | rfl | (simp; done) | (simp; omega))) | (refine heap_alloc_past _ _ _ _ ?_))) : v1.heap[w.heap.size]? = some (.cells #[.int .i64 x0, .int .i64 x1, .int .i64 y0, .int .i64 y1, .int .i64 z0, .int .i64 z1, .int .i64 a, .int .i64 b, .int .i64 c, .int .i64 d, .int .i64 t] 80))
        have Sv1 := hid (hkv1.out _ _ (by repeat' (first | (refine heap_alloc_at _ _ _ ?_; (first | rfl | (simp; done) | (simp; omega))) | (refine heap_alloc_past _ _ _ _ ?_))) : v1.heap[w.heap.size + 1]? = some (row4 e f g h))
        have Rv1 := hid (hkv1.out _ _ (by repeat' (first | (refine heap_alloc_at _ _ _ ?_; (first | rfl | (simp; done) | (simp; omega))) | (refine heap_alloc_past _ _ _ _ ?_))) : v1.heap[w.heap.size + 1 + 1]? = some (.cells #[.int .i64 r0, .int .i64 r1] 44))
        have b0 : v1.cell? ⟨w.heap.size + 1 + 1 + 1, 0, none⟩ = some (.int .i64 x0) := (cell_row (j := 0) (hkv1.out _ _ (by repeat' (first | (refine heap_alloc_at _ _ _ ?_; (first | rfl | (simp; done) | (simp; omega))) | (refine heap_alloc_past _ _ _ _ ?_))) : v1.heap[w.heap.size + 1 + 1 + 1]? = some (.cells #[.int .i64 x0, .int .i64 x1] 44))).trans rfl
        have b1 : v1.cell? ⟨w.heap.size + 1 + 1 + 1, 1, none⟩ = some (.int .i64 x1) := (cell_row (j := 1) (hkv1.out _ _ (by repeat' (first | (refine heap_alloc_at _ _ _ ?_; (first | rfl | (simp; done) | (simp; omega))) | (refine heap_alloc_past _ _ _ _ ?_))) : v1.heap[w.heap.size + 1 + 1 + 1]? = some (.cells #[.int .i64 x0, .int .i64 x1] 44))).trans rfl
        have HB := HBv1
        clear hcv1 hfv1
        rw [H1.out]
        go_wp2_with fail
        refine (within_any _ _ _ _ _ _ [x0, x1] _ rfl (by simp) (cells_ints _ (by repeat' (first | (refine heap_alloc_at _ _ _ ?_; (first | rfl | (simp; done) | (simp; omega))) | (refine heap_alloc_past _ _ _ _ ?_))) rfl)).mono ?_
        rintro r w' ⟨rfl, rfl⟩
        rw [H2.out]
        go_wp2_with fail
        rw [rounds_succ]
        go_wp2_with fail
        refine (valid_any _ _ _).mono ?_
        rintro r v2 ⟨rfl, hb⟩
        have HBv2 := hid (show Below w.heap.size w v2 by have hB0 := HBv1.out; refine Below.trans ?_ (hb.mono ?_); (focus ((repeat' (first | (with_reducible exact Below.refl _ _) | (with_reducible assumption) | (with_reducible refine Below.alloc ?_ ?_ _) | (with_reducible refine Below.drew ?_) | (with_reducible refine below_drewN ?_ _) | (with_reducible refine Below.setCell ?_ ?_ _) | (with_reducible refine below_setRow ?_ ?_ _) | go_size)); done)); (focus (first | (simp; done) | (simp; omega) | (have hB1 := hB0.size; simp; omega))))
        have hsv2 := hb.size
        (try simp at hsv2)
        have hzv2 : w.heap.size < v2.heap.size := by omega
        obtain ⟨hcv2, hfv2⟩ := bcell hb
        have hkv2 := hid (fun n x => @heap_still _ _ n x hb)
        clear hb
        have b0 : v2.cell? ⟨v1.heap.size + 1, 0, none⟩ = some (.int .i64 y0) := (cell_row (j := 0) (hkv2.out _ _ (heap_alloc_at _ _ _ (by simp)) : v2.heap[v1.heap.size + 1]? = some (.cells #[.int .i64 y0, .int .i64 y1] 44))).trans rfl
        have b1 : v2.cell? ⟨v1.heap.size + 1, 1, none⟩ = some (.int .i64 y1) := (cell_row (j := 1) (hkv2.out _ _ (heap_alloc_at _ _ _ (by simp)) : v2.heap[v1.heap.size + 1]? = some (.cells #[.int .i64 y0, .int .i64 y1] 44))).trans rfl
        have Pv2 := hid (hkv2.out _ _ (by repeat' (first | exact Pv1.out | (refine heap_alloc_past _ _ _ _ ?_))) : v2.heap[w.heap.size]? = some (.cells #[.int .i64 x0, .int .i64 x1, .int .i64 y0, .int .i64 y1, .int .i64 z0, .int .i64 z1, .int .i64 a, .int .i64 b, .int .i64 c, .int .i64 d, .int .i64 t] 80))
        have Sv2 := hid (hkv2.out _ _ (by repeat' (first | exact Sv1.out | (refine heap_alloc_past _ _ _ _ ?_))) : v2.heap[w.heap.size + 1]? = some (row4 e f g h))
        have Rv2 := hid (hkv2.out _ _ (by repeat' (first | exact Rv1.out | (refine heap_alloc_past _ _ _ _ ?_))) : v2.heap[w.heap.size + 1 + 1]? = some (.cells #[.int .i64 r0, .int .i64 r1] 44))
        have HB := HBv2
        clear hcv2 hfv2
        rw [H3.out]
        go_wp2_with fail
        go_ret
        refine ⟨by rw [HS.out]; rfl, ?_⟩
        (try have hB0 := HB.out)
        (repeat' (first | (with_reducible exact Below.refl _ _) | (with_reducible assumption) | (with_reducible refine Below.alloc ?_ ?_ _) | (with_reducible refine Below.drew ?_) | (with_reducible refine below_drewN ?_ _) | (with_reducible refine Below.setCell ?_ ?_ _) | (with_reducible refine below_setRow ?_ ?_ _) | go_size))
    · have HS := hid (show poseErr x0 x1 y0 y1 z0 z1 a b c d t e f g h r0 r1 = 2 by simp [poseErr, h1, h2])
      have H1 := hid h1
      have H2 := hid (Bool.eq_false_iff.2 h2)
      clear h1 h2
      go_enter Try.func94, Try.ntmps94
      go_wp2_with fail
      refine wp_loop_rounds 4 ?_
      rw [rounds_succ]
      go_wp2_with fail
      refine (valid_any _ _ _).mono ?_
      rintro r v1 ⟨rfl, hb⟩
      have HBv1 := hid (show Below w.heap.size w v1 by have hB0 := HBw.out; refine Below.trans ?_ (hb.mono ?_); (focus ((repeat' (first | (with_reducible exact Below.refl _ _) | (with_reducible assumption) | (with_reducible refine Below.alloc ?_ ?_ _) | (with_reducible refine Below.drew ?_) | (with_reducible refine below_drewN ?_ _) | (with_reducible refine Below.setCell ?_ ?_ _) | (with_reducible refine below_setRow ?_ ?_ _) | go_size)); done)); (focus (first | (simp; done) | (simp; omega) | (have hB1 := hB0.size; simp; omega))))
      have hsv1 := hb.size
      (try simp at hsv1)
      have hzv1 : w.heap.size < v1.heap.size := by omega
      obtain ⟨hcv1, hfv1⟩ := bcell hb
      have hkv1 := hid (fun n x => @heap_still _ _ n x hb)
      clear hb
      have Pv1 := hid (hkv1.out _ _ (by repeat' (first | (refine heap_alloc_at _ _ _ ?_; (first | rfl | (simp; done) | (simp; omega))) | (refine heap_alloc_past _ _ _ _ ?_))) : v1.heap[w.heap.size]? = some (.cells #[.int .i64 x0, .int .i64 x1, .int .i64 y0, .int .i64 y1, .int .i64 z0, .int .i64 z1, .int .i64 a, .int .i64 b, .int .i64 c, .int .i64 d, .int .i64 t] 80))
      have Sv1 := hid (hkv1.out _ _ (by repeat' (first | (refine heap_alloc_at _ _ _ ?_; (first | rfl | (simp; done) | (simp; omega))) | (refine heap_alloc_past _ _ _ _ ?_))) : v1.heap[w.heap.size + 1]? = some (row4 e f g h))
      have Rv1 := hid (hkv1.out _ _ (by repeat' (first | (refine heap_alloc_at _ _ _ ?_; (first | rfl | (simp; done) | (simp; omega))) | (refine heap_alloc_past _ _ _ _ ?_))) : v1.heap[w.heap.size + 1 + 1]? = some (.cells #[.int .i64 r0, .int .i64 r1] 44))
      have b0 : v1.cell? ⟨w.heap.size + 1 + 1 + 1, 0, none⟩ = some (.int .i64 x0) := (cell_row (j := 0) (hkv1.out _ _ (by repeat' (first | (refine heap_alloc_at _ _ _ ?_; (first | rfl | (simp; done) | (simp; omega))) | (refine heap_alloc_past _ _ _ _ ?_))) : v1.heap[w.heap.size + 1 + 1 + 1]? = some (.cells #[.int .i64 x0, .int .i64 x1] 44))).trans rfl
      have b1 : v1.cell? ⟨w.heap.size + 1 + 1 + 1, 1, none⟩ = some (.int .i64 x1) := (cell_row (j := 1) (hkv1.out _ _ (by repeat' (first | (refine heap_alloc_at _ _ _ ?_; (first | rfl | (simp; done) | (simp; omega))) | (refine heap_alloc_past _ _ _ _ ?_))) : v1.heap[w.heap.size + 1 + 1 + 1]? = some (.cells #[.int .i64 x0, .int .i64 x1] 44))).trans rfl
      have HB := HBv1
      clear hcv1 hfv1
      rw [H1.out]
      go_wp2_with fail
      refine (within_any _ _ _ _ _ _ [x0, x1] _ rfl (by simp) (cells_ints _ (by repeat' (first | (refine heap_alloc_at _ _ _ ?_; (first | rfl | (simp; done) | (simp; omega))) | (refine heap_alloc_past _ _ _ _ ?_))) rfl)).mono ?_
      rintro r w' ⟨rfl, rfl⟩
      rw [H2.out]
      go_wp2_with fail
      go_ret
      refine ⟨by rw [HS.out]; rfl, ?_⟩
      (try have hB0 := HB.out)
      (repeat' (first | (with_reducible exact Below.refl _ _) | (with_reducible assumption) | (with_reducible refine Below.alloc ?_ ?_ _) | (with_reducible refine Below.drew ?_) | (with_reducible refine below_drewN ?_ _) | (with_reducible refine Below.setCell ?_ ?_ _) | (with_reducible refine below_setRow ?_ ?_ _) | go_size))
  · have HS := hid (show poseErr x0 x1 y0 y1 z0 z1 a b c d t e f g h r0 r1 = 2 by simp [poseErr, h1])
    have H1 := hid (Bool.eq_false_iff.2 h1)
    clear h1
    go_enter Try.func94, Try.ntmps94
    go_wp2_with fail
    refine wp_loop_rounds 4 ?_
    rw [rounds_succ]
    go_wp2_with fail
    refine (valid_any _ _ _).mono ?_
    rintro r v1 ⟨rfl, hb⟩
    have HBv1 := hid (show Below w.heap.size w v1 by have hB0 := HBw.out; refine Below.trans ?_ (hb.mono ?_); (focus ((repeat' (first | (with_reducible exact Below.refl _ _) | (with_reducible assumption) | (with_reducible refine Below.alloc ?_ ?_ _) | (with_reducible refine Below.drew ?_) | (with_reducible refine below_drewN ?_ _) | (with_reducible refine Below.setCell ?_ ?_ _) | (with_reducible refine below_setRow ?_ ?_ _) | go_size)); done)); (focus (first | (simp; done) | (simp; omega) | (have hB1 := hB0.size; simp; omega))))
    have hsv1 := hb.size
    (try simp at hsv1)
    have hzv1 : w.heap.size < v1.heap.size := by omega
    obtain ⟨hcv1, hfv1⟩ := bcell hb
    have hkv1 := hid (fun n x => @heap_still _ _ n x hb)
    clear hb
    have Pv1 := hid (hkv1.out _ _ (by repeat' (first | (refine heap_alloc_at _ _ _ ?_; (first | rfl | (simp; done) | (simp; omega))) | (refine heap_alloc_past _ _ _ _ ?_))) : v1.heap[w.heap.size]? = some (.cells #[.int .i64 x0, .int .i64 x1, .int .i64 y0, .int .i64 y1, .int .i64 z0, .int .i64 z1, .int .i64 a, .int .i64 b, .int .i64 c, .int .i64 d, .int .i64 t] 80))
    have Sv1 := hid (hkv1.out _ _ (by repeat' (first | (refine heap_alloc_at _ _ _ ?_; (first | rfl | (simp; done) | (simp; omega))) | (refine heap_alloc_past _ _ _ _ ?_))) : v1.heap[w.heap.size + 1]? = some (row4 e f g h))
    have Rv1 := hid (hkv1.out _ _ (by repeat' (first | (refine heap_alloc_at _ _ _ ?_; (first | rfl | (simp; done) | (simp; omega))) | (refine heap_alloc_past _ _ _ _ ?_))) : v1.heap[w.heap.size + 1 + 1]? = some (.cells #[.int .i64 r0, .int .i64 r1] 44))
    have b0 : v1.cell? ⟨w.heap.size + 1 + 1 + 1, 0, none⟩ = some (.int .i64 x0) := (cell_row (j := 0) (hkv1.out _ _ (by repeat' (first | (refine heap_alloc_at _ _ _ ?_; (first | rfl | (simp; done) | (simp; omega))) | (refine heap_alloc_past _ _ _ _ ?_))) : v1.heap[w.heap.size + 1 + 1 + 1]? = some (.cells #[.int .i64 x0, .int .i64 x1] 44))).trans rfl
    have b1 : v1.cell? ⟨w.heap.size + 1 + 1 + 1, 1, none⟩ = some (.int .i64 x1) := (cell_row (j := 1) (hkv1.out _ _ (by repeat' (first | (refine heap_alloc_at _ _ _ ?_; (first | rfl | (simp; done) | (simp; omega))) | (refine heap_alloc_past _ _ _ _ ?_))) : v1.heap[w.heap.size + 1 + 1 + 1]? = some (.cells #[.int .i64 x0, .int .i64 x1] 44))).trans rfl
    have HB := HBv1
    clear hcv1 hfv1
    rw [H1.out]
    go_wp2_with fail
    go_ret
    refine ⟨by rw [HS.out]; rfl, ?_⟩
    (try have hB0 := HB.out)
    (repeat' (first | (with_reducible exact Below.refl _ _) | (with_reducible assumption) | (with_reducible refine Below.alloc ?_ ?_ _) | (with_reducible refine Below.drew ?_) | (with_reducible refine below_drewN ?_ _) | (with_reducible refine Below.setCell ?_ ?_ _) | (with_reducible refine below_setRow ?_ ?_ _) | go_size))
end Go.Proofs.Yteoikaedpgianaa
