/- The reference's pose within a part, at the time of a fix. -/
import Derived.Test.YteoikaedpgianaaPoseOf
import Derived.Test.YteoikaedpgianaaPart
import Derived.Test.YteoikaedpgianaaPoseAt
namespace Go.Proofs.Yteoikaedpgianaa
open Go.RowKit Limb

set_option maxRecDepth 100000 in
set_option maxHeartbeats 6400000 in
theorem rposeE_any (b o L C J : Nat) (F : Nat → Nat → Int) (m0 m1 m2 m3 time : Int) (w : World) (hb : b < w.heap.size) (hr : recs10 w b o L F) (hL : L ≤ 9223372036854775807) (hJ : J < L) (hle : ∀ j, j ≤ J → F j 0 ≤ time)
    (hnx : J + 1 < L → time < F (J + 1) 0) (hfix : fixF (F J) = true) (hq : F J 0 = time) :
    Calls Try.prog 114 #[.slice (some ⟨b, o, none⟩) L C, .agg #[.int .i64 m0, .int .i64 m1, .int .i64 m2, .int .i64 m3], .int .i64 time] w fun r w' => r = .returned (fixPose (F J)) ∧ Below w.heap.size w w' := by
  have HR := hid hr
  have HLE := hid hle
  have HNX := hid hnx
  have HQ := hid hq
  clear hr hle hnx hq
  have pa := fix_place hfix
  clear hfix
  go_enter Try.func114, Try.ntmps114
  go_wp2_with fail
  go_loopw [7] (fun i W => ∃ (k : Nat), k ≤ J ∧ i = .int .i64 k ∧ Below w.heap.size w W ∧ W.heap[w.heap.size]? = some (.cells #[.int .i64 m0, .int .i64 m1, .int .i64 m2, .int .i64 m3] 61) ∧ W.heap[w.heap.size + 1]? = some (.cells #[.int .i64 0, .int .i64 0, .int .i64 0, .int .i64 0, .int .i64 0, .int .i64 0, .int .i64 0, .int .i64 0, .int .i64 0, .int .i64 0, .int .i64 0] 80)) (fun i _ => J - (intOf i).toNat)
  case atStart => exact ⟨0, by omega, rfl, by (repeat' (first | (with_reducible exact Below.refl _ _) | (with_reducible assumption) | (with_reducible refine Below.alloc ?_ ?_ _) | (with_reducible refine Below.drew ?_) | (with_reducible refine below_drewN ?_ _) | (with_reducible refine Below.setCell ?_ ?_ _) | (with_reducible refine below_setRow ?_ ?_ _) | go_size)), (by repeat' (first | (refine heap_alloc_at _ _ _ ?_; (first | rfl | (simp; done) | (simp; omega))) | (refine heap_alloc_past _ _ _ _ ?_))), (by repeat' (first | (refine heap_alloc_at _ _ _ ?_; (first | rfl | (simp; done) | (simp; omega))) | (refine heap_alloc_past _ _ _ _ ?_)))⟩
  case round =>
    obtain ⟨k, hk, rfl, hB, hM, hD⟩ := hrel
    have HBwr := hid hB
    have HM := hid hM
    have HD := hid hD
    have HRW := hid (HR.out.still hB hb)
    have hszr : w.heap.size + 1 < wr.heap.size := (Array.getElem?_eq_some_iff.1 hD).1
    clear hB hM hD
    by_cases hkJ : k < J
    · have z0 := HRW.out (k + 1) (by omega) 0 (by omega)
      simp only [Nat.add_zero] at z0
      have hf := HLE.out (k + 1) (by omega)
      go_wp2_with fail
      go_roundw
      case rel => exact ⟨k + 1, by omega, by go_num, HBwr.out, HM.out, HD.out⟩
      case measure => simp [intOf]; omega
    · obtain rfl : k = J := by omega
      by_cases hn : k + 1 < L
      · have z0 := HRW.out (k + 1) (by omega) 0 (by omega)
        simp only [Nat.add_zero] at z0
        have hf := HNX.out hn
        have hr := HRW.out k (by omega)
        have c0 := hr 0 (by omega)
        simp only [Nat.add_zero] at c0
        have c1 := hr 1 (by omega)
        have c2 := hr 2 (by omega)
        have c3 := hr 3 (by omega)
        have c4 := hr 4 (by omega)
        have c5 := hr 5 (by omega)
        have c6 := hr 6 (by omega)
        have c7 := hr 7 (by omega)
        have c8 := hr 8 (by omega)
        have c9 := hr 9 (by omega)
        clear hr
        rw [HQ.out] at c0
        have hq := HQ.out
        subst hq
        go_wp2_with (first | (refine pt_load rfl 22 (.tmp 38) rfl wr.heap.size 5 rfl [.int .i64 (F k 5), .int .i64 (F k 6), .int .i64 (F k 7), .int .i64 (F k 8)] (heap_alloc_at _ _ _ rfl) rfl Try.underlying22 rfl size22 ?_) | (refine wpList_store_new rfl 55 (.tmp 8) (.tmp 37) rfl rfl rfl rfl size55 rfl rfl rfl ?_) | (refine wpList_store_new rfl 80 (.tmp 9) (.tmp 42) rfl rfl rfl rfl size80b rfl rfl rfl ?_))
        refine gen_world (fun V hV => ?_)
        have XA := hid (show V.heap[wr.heap.size]? = some (.cells #[.int .i64 (F k 0), .int .i64 (F k 1), .int .i64 (F k 2), .int .i64 (F k 3), .int .i64 (F k 4), .int .i64 (F k 5), .int .i64 (F k 6), .int .i64 (F k 7), .int .i64 (F k 8), .int .i64 (F k 9)] 55) by rw [hV]; (repeat' (first | (refine heap_alloc_at _ _ _ ?_; (first | rfl | (simp; done) | (simp; omega))) | (refine heap_alloc_past _ _ _ _ ?_))); first | done | exact HM.out | exact HD.out)
        have XD := hid (show V.heap[w.heap.size + 1]? = some (.cells #[.int .i64 0, .int .i64 0, .int .i64 0, .int .i64 0, .int .i64 0, .int .i64 0, .int .i64 0, .int .i64 0, .int .i64 0, .int .i64 0, .int .i64 0] 80) by rw [hV]; (repeat' (first | (refine heap_alloc_at _ _ _ ?_; (first | rfl | (simp; done) | (simp; omega))) | (refine heap_alloc_past _ _ _ _ ?_))); first | done | exact HM.out | exact HD.out)
        have XP := hid (show V.heap[wr.heap.size + 1]? = some (.cells #[.int .i64 0, .int .i64 0, .int .i64 0, .int .i64 0, .int .i64 0, .int .i64 0, .int .i64 (F k 5), .int .i64 (F k 6), .int .i64 (F k 7), .int .i64 (F k 8), .int .i64 (F k 9)] 80) by rw [hV]; (repeat' (first | (refine heap_alloc_at _ _ _ ?_; (first | rfl | (simp; done) | (simp; omega))) | (refine heap_alloc_past _ _ _ _ ?_))); first | done | exact HM.out | exact HD.out)
        have XW := hid (show Below w.heap.size w V by rw [hV]; have hB0 := HBwr.out; have hB1 := hB0.size; (repeat' (first | (with_reducible exact Below.refl _ _) | (with_reducible assumption) | (with_reducible refine Below.alloc ?_ ?_ _) | (with_reducible refine Below.drew ?_) | (with_reducible refine below_drewN ?_ _) | (with_reducible refine Below.setCell ?_ ?_ _) | (with_reducible refine below_setRow ?_ ?_ _) | go_size)))
        clear hV
        refine wp_loop_rounds 4 ?_
        rw [rounds_succ]
        refine gen_world (fun V0 hV => ?_)
        have YA := hid (show V0.heap[wr.heap.size]? = some (.cells #[.int .i64 (F k 0), .int .i64 (F k 1), .int .i64 (F k 2), .int .i64 (F k 3), .int .i64 (F k 4), .int .i64 (F k 5), .int .i64 (F k 6), .int .i64 (F k 7), .int .i64 (F k 8), .int .i64 (F k 9)] 55) by rw [hV]; exact XA.out)
        have YD := hid (show V0.heap[w.heap.size + 1]? = some (.cells #[.int .i64 0, .int .i64 0, .int .i64 0, .int .i64 0, .int .i64 0, .int .i64 0, .int .i64 0, .int .i64 0, .int .i64 0, .int .i64 0, .int .i64 0] 80) by rw [hV]; exact XD.out)
        have YP := hid (show V0.heap[wr.heap.size + 1]? = some (.cells #[.int .i64 0, .int .i64 0, .int .i64 0, .int .i64 0, .int .i64 0, .int .i64 0, .int .i64 (F k 5), .int .i64 (F k 6), .int .i64 (F k 7), .int .i64 (F k 8), .int .i64 (F k 9)] 80) by rw [hV]; exact XP.out)
        have YW := hid (show Below w.heap.size w V0 by rw [hV]; exact XW.out)
        clear hV XA XD XP XW
        go_wp2_with fail
        refine gen_act (fun A0 hA => ?_)
        refine wp_region_tail (by kernel_rfl) (by kernel_rfl) [some 50, some 51, some 52, some 53, some 54, some 55, some 56, some 57, some 58, some 59, some 60, some 61, some 62, some 63, some 64, some 65, some 66, some 67, none] rfl (by decide) 17 (by decide) (by kernel_rfl) (by kernel_rfl)
          [IsV (.int .i64 0), IsV (.int .i64 0), IsV (.pointer (some ⟨wr.heap.size, 1, none⟩)), IsV (.pointer (some ⟨wr.heap.size, 1, none⟩)), IsV (.int .i64 (F k 1)), IsV (.pointer (some ⟨wr.heap.size, 4, none⟩)), IsV (.int .i64 (F k 4)), IsV (.int .i64 (F k 1 - F k 4)), IsV (.int .i64 0), IsV (.pointer (some ⟨wr.heap.size, 1, none⟩)), IsV (.pointer (some ⟨wr.heap.size, 1, none⟩)), IsV (.int .i64 (F k 1)), IsV (.pointer (some ⟨wr.heap.size, 4, none⟩)), IsV (.int .i64 (F k 4)), IsV (.int .i64 (F k 1 + F k 4)), IsV (.agg #[.int .i64 (F k 1 - F k 4), .int .i64 (F k 1 + F k 4)]), IsV (.pointer (some ⟨wr.heap.size + 1, 0, none⟩))]
          ⟨IsV.stb _, IsV.stb _, IsV.stb _, IsV.stb _, IsV.stb _, IsV.stb _, IsV.stb _, IsV.stb _, IsV.stb _, IsV.stb _, IsV.stb _, IsV.stb _, IsV.stb _, IsV.stb _, IsV.stb _, IsV.stb _, IsV.stb _, trivial⟩ ?hs1_10_U0x ?hend_10_U0x
        case hs1_10_U0x =>
          refine ⟨?_, ?_, ?_, ?_, ?_, ?_, ?_, ?_, ?_, ?_, ?_, ?_, ?_, ?_, ?_, ?_, ?_, trivial⟩
          · intro K us W hK0 hB hd
            have hK := hid hK0; clear hK0
            have HBW := hid hB
            have hsW := hB.size
            have GB := hid (YW.out.trans (hB.mono YW.out.size))
            clear hd
            simp only [putF]
            rw [hA]
            go_frame
            go_wp2_with fail
            exact hK.out _ _ _ (by rw [hA]; simp only [putF]; kernel_rfl) (Below.refl _ _) rfl
          · intro K us W hK0 hB hd
            have hK := hid hK0; clear hK0
            have HBW := hid hB
            have hsW := hB.size
            have GB := hid (YW.out.trans (hB.mono YW.out.size))
            clear hd
            simp only [putF]
            rw [hA]
            go_frame
            go_wp2_with fail
            exact hK.out _ _ _ (by rw [hA]; simp only [putF]; kernel_rfl) (Below.refl _ _) rfl
          · intro K us W hK0 hB hd
            have hK := hid hK0; clear hK0
            have HBW := hid hB
            have hsW := hB.size
            have GB := hid (YW.out.trans (hB.mono YW.out.size))
            clear hd
            simp only [putF]
            rw [hA]
            go_frame
            go_wp2_with fail
            exact hK.out _ _ _ (by rw [hA]; simp only [putF]; kernel_rfl) (Below.refl _ _) rfl
          · intro K us W hK0 hB hd
            have hK := hid hK0; clear hK0
            have HBW := hid hB
            have hsW := hB.size
            have GB := hid (YW.out.trans (hB.mono YW.out.size))
            have e2 : us 2 = .pointer (some ⟨wr.heap.size, 1, none⟩) := hd ⟨2, Ground.data⟩ (by simp) rfl
            have e1 : us 1 = .int .i64 0 := hd ⟨1, Ground.data⟩ (by simp) rfl
            clear hd
            simp only [putF]
            rw [hA, e2, e1]
            go_frame
            go_wp2_with fail
            exact hK.out _ _ _ (by rw [hA]; simp only [putF]; rw [e2, e1]; kernel_rfl) (Below.refl _ _) rfl
          · intro K us W hK0 hB hd
            have hK := hid hK0; clear hK0
            have HBW := hid hB
            have hsW := hB.size
            have GB := hid (YW.out.trans (hB.mono YW.out.size))
            have e3 : us 3 = .pointer (some ⟨wr.heap.size, 1, none⟩) := hd ⟨3, Ground.data⟩ (by simp) rfl
            clear hd
            have G0 := hid (heap_still hB YA.out)
            have c0 : W.cell? ⟨wr.heap.size, 1, none⟩ = some (.int .i64 (F k 1)) := (cell_row (j := 1) G0.out).trans rfl
            simp only [putF]
            rw [hA, e3]
            go_frame
            go_wp2_with fail
            exact hK.out _ _ _ (by rw [hA]; simp only [putF]; rw [e3]; kernel_rfl) (Below.refl _ _) rfl
          · intro K us W hK0 hB hd
            have hK := hid hK0; clear hK0
            have HBW := hid hB
            have hsW := hB.size
            have GB := hid (YW.out.trans (hB.mono YW.out.size))
            clear hd
            simp only [putF]
            rw [hA]
            go_frame
            go_wp2_with fail
            exact hK.out _ _ _ (by rw [hA]; simp only [putF]; kernel_rfl) (Below.refl _ _) rfl
          · intro K us W hK0 hB hd
            have hK := hid hK0; clear hK0
            have HBW := hid hB
            have hsW := hB.size
            have GB := hid (YW.out.trans (hB.mono YW.out.size))
            have e5 : us 5 = .pointer (some ⟨wr.heap.size, 4, none⟩) := hd ⟨5, Ground.data⟩ (by simp) rfl
            clear hd
            have G0 := hid (heap_still hB YA.out)
            have c0 : W.cell? ⟨wr.heap.size, 4, none⟩ = some (.int .i64 (F k 4)) := (cell_row (j := 4) G0.out).trans rfl
            simp only [putF]
            rw [hA, e5]
            go_frame
            go_wp2_with fail
            exact hK.out _ _ _ (by rw [hA]; simp only [putF]; rw [e5]; kernel_rfl) (Below.refl _ _) rfl
          · intro K us W hK0 hB hd
            have hK := hid hK0; clear hK0
            have HBW := hid hB
            have hsW := hB.size
            have GB := hid (YW.out.trans (hB.mono YW.out.size))
            have e4 : us 4 = .int .i64 (F k 1) := hd ⟨4, Ground.data⟩ (by simp) rfl
            have e6 : us 6 = .int .i64 (F k 4) := hd ⟨6, Ground.data⟩ (by simp) rfl
            clear hd
            simp only [putF]
            rw [hA, e4, e6]
            go_frame
            go_wp2_with fail
            exact hK.out _ _ _ (by rw [hA]; simp only [putF]; rw [e4, e6]; kernel_rfl) (Below.refl _ _) rfl
          · intro K us W hK0 hB hd
            have hK := hid hK0; clear hK0
            have HBW := hid hB
            have hsW := hB.size
            have GB := hid (YW.out.trans (hB.mono YW.out.size))
            clear hd
            simp only [putF]
            rw [hA]
            go_frame
            go_wp2_with fail
            exact hK.out _ _ _ (by rw [hA]; simp only [putF]; kernel_rfl) (Below.refl _ _) rfl
          · intro K us W hK0 hB hd
            have hK := hid hK0; clear hK0
            have HBW := hid hB
            have hsW := hB.size
            have GB := hid (YW.out.trans (hB.mono YW.out.size))
            clear hd
            simp only [putF]
            rw [hA]
            go_frame
            go_wp2_with fail
            exact hK.out _ _ _ (by rw [hA]; simp only [putF]; kernel_rfl) (Below.refl _ _) rfl
          · intro K us W hK0 hB hd
            have hK := hid hK0; clear hK0
            have HBW := hid hB
            have hsW := hB.size
            have GB := hid (YW.out.trans (hB.mono YW.out.size))
            have e9 : us 9 = .pointer (some ⟨wr.heap.size, 1, none⟩) := hd ⟨9, Ground.data⟩ (by simp) rfl
            have e8 : us 8 = .int .i64 0 := hd ⟨8, Ground.data⟩ (by simp) rfl
            clear hd
            simp only [putF]
            rw [hA, e9, e8]
            go_frame
            go_wp2_with fail
            exact hK.out _ _ _ (by rw [hA]; simp only [putF]; rw [e9, e8]; kernel_rfl) (Below.refl _ _) rfl
          · intro K us W hK0 hB hd
            have hK := hid hK0; clear hK0
            have HBW := hid hB
            have hsW := hB.size
            have GB := hid (YW.out.trans (hB.mono YW.out.size))
            have e10 : us 10 = .pointer (some ⟨wr.heap.size, 1, none⟩) := hd ⟨10, Ground.data⟩ (by simp) rfl
            clear hd
            have G0 := hid (heap_still hB YA.out)
            have c0 : W.cell? ⟨wr.heap.size, 1, none⟩ = some (.int .i64 (F k 1)) := (cell_row (j := 1) G0.out).trans rfl
            simp only [putF]
            rw [hA, e10]
            go_frame
            go_wp2_with fail
            exact hK.out _ _ _ (by rw [hA]; simp only [putF]; rw [e10]; kernel_rfl) (Below.refl _ _) rfl
          · intro K us W hK0 hB hd
            have hK := hid hK0; clear hK0
            have HBW := hid hB
            have hsW := hB.size
            have GB := hid (YW.out.trans (hB.mono YW.out.size))
            clear hd
            simp only [putF]
            rw [hA]
            go_frame
            go_wp2_with fail
            exact hK.out _ _ _ (by rw [hA]; simp only [putF]; kernel_rfl) (Below.refl _ _) rfl
          · intro K us W hK0 hB hd
            have hK := hid hK0; clear hK0
            have HBW := hid hB
            have hsW := hB.size
            have GB := hid (YW.out.trans (hB.mono YW.out.size))
            have e12 : us 12 = .pointer (some ⟨wr.heap.size, 4, none⟩) := hd ⟨12, Ground.data⟩ (by simp) rfl
            clear hd
            have G0 := hid (heap_still hB YA.out)
            have c0 : W.cell? ⟨wr.heap.size, 4, none⟩ = some (.int .i64 (F k 4)) := (cell_row (j := 4) G0.out).trans rfl
            simp only [putF]
            rw [hA, e12]
            go_frame
            go_wp2_with fail
            exact hK.out _ _ _ (by rw [hA]; simp only [putF]; rw [e12]; kernel_rfl) (Below.refl _ _) rfl
          · intro K us W hK0 hB hd
            have hK := hid hK0; clear hK0
            have HBW := hid hB
            have hsW := hB.size
            have GB := hid (YW.out.trans (hB.mono YW.out.size))
            have e11 : us 11 = .int .i64 (F k 1) := hd ⟨11, Ground.data⟩ (by simp) rfl
            have e13 : us 13 = .int .i64 (F k 4) := hd ⟨13, Ground.data⟩ (by simp) rfl
            clear hd
            simp only [putF]
            rw [hA, e11, e13]
            go_frame
            go_wp2_with fail
            exact hK.out _ _ _ (by rw [hA]; simp only [putF]; rw [e11, e13]; kernel_rfl) (Below.refl _ _) rfl
          · intro K us W hK0 hB hd
            have hK := hid hK0; clear hK0
            have HBW := hid hB
            have hsW := hB.size
            have GB := hid (YW.out.trans (hB.mono YW.out.size))
            have e7 : us 7 = .int .i64 (F k 1 - F k 4) := hd ⟨7, Ground.data⟩ (by simp) rfl
            have e14 : us 14 = .int .i64 (F k 1 + F k 4) := hd ⟨14, Ground.data⟩ (by simp) rfl
            clear hd
            simp only [putF]
            rw [hA, e7, e14]
            go_frame
            go_wp2_with fail
            exact hK.out _ _ _ (by rw [hA]; simp only [putF]; rw [e7, e14]; kernel_rfl) (Below.refl _ _) rfl
          · intro K us W hK0 hB hd
            have hK := hid hK0; clear hK0
            have HBW := hid hB
            have hsW := hB.size
            have GB := hid (YW.out.trans (hB.mono YW.out.size))
            clear hd
            simp only [putF]
            rw [hA]
            go_frame
            go_wp2_with fail
            exact hK.out _ _ _ (by rw [hA]; simp only [putF]; kernel_rfl) (Below.refl _ _) rfl
        intro us U0x hB hp
        have e0 : us 0 = .int .i64 0 := hp 0 (by decide)
        have e15 : us 15 = .agg #[.int .i64 (F k 1 - F k 4), .int .i64 (F k 1 + F k 4)] := hp 15 (by decide)
        have e16 : us 16 = .pointer (some ⟨wr.heap.size + 1, 0, none⟩) := hp 16 (by decide)
        have HBU0x := hid (YW.out.trans (hB.mono YW.out.size))
        have HSU0x := hid (fun n x => @heap_still _ _ n x hB)
        have hzU0x := hB.size
        have hbU0x := hid hB
        clear hp
        clear hB
        simp only [putF]
        rw [hA, e0, e15, e16]
        clear hA e0 e15 e16
        go_frame
        refine tl_step rfl ?_
        intro K hK0
        have hK := hid hK0
        clear hK0
        go_wp2_with fail
        refine hK.out (.pointer (some ⟨wr.heap.size + 1, 0, none⟩)) _ _ (by kernel_rfl) ?_
        clear hK
        refine tl_step rfl ?_
        intro K hK0
        have hK := hid hK0
        clear hK0
        (try go_frame)
        go_wp2_with (refine pt_store rfl 44 (.tmp 67) (.tmp 65) rfl _ _ _ rfl rfl (HSU0x.out _ _ YP.out) size44 rfl (of_decide_eq_true rfl) rfl ?_)
        refine hK.out undef _ _ (by kernel_rfl) ?_
        clear hK
        refine tl_end rfl ?_
        (try go_frame)
        have XA := hid (setRow_past (cells := #[.int .i64 (F k 1 - F k 4), .int .i64 (F k 1 + F k 4), .int .i64 0, .int .i64 0, .int .i64 0, .int .i64 0, .int .i64 (F k 5), .int .i64 (F k 6), .int .i64 (F k 7), .int .i64 (F k 8), .int .i64 (F k 9)]) (HSU0x.out _ _ YA.out) (by omega : wr.heap.size ≠ wr.heap.size + 1))
        have XD := hid (setRow_past (cells := #[.int .i64 (F k 1 - F k 4), .int .i64 (F k 1 + F k 4), .int .i64 0, .int .i64 0, .int .i64 0, .int .i64 0, .int .i64 (F k 5), .int .i64 (F k 6), .int .i64 (F k 7), .int .i64 (F k 8), .int .i64 (F k 9)]) (HSU0x.out _ _ YD.out) (by omega : w.heap.size + 1 ≠ wr.heap.size + 1))
        have XP := hid (setRow_heap _ _ _ #[.int .i64 (F k 1 - F k 4), .int .i64 (F k 1 + F k 4), .int .i64 0, .int .i64 0, .int .i64 0, .int .i64 0, .int .i64 (F k 5), .int .i64 (F k 6), .int .i64 (F k 7), .int .i64 (F k 8), .int .i64 (F k 9)] _ _ (HSU0x.out _ _ YP.out))
        have XW := hid (below_setRow HBU0x.out (by omega : w.heap.size ≤ wr.heap.size + 1) #[.int .i64 (F k 1 - F k 4), .int .i64 (F k 1 + F k 4), .int .i64 0, .int .i64 0, .int .i64 0, .int .i64 0, .int .i64 (F k 5), .int .i64 (F k 6), .int .i64 (F k 7), .int .i64 (F k 8), .int .i64 (F k 9)])
        clear YA YD YP YW
        go_wp2_with fail
        rw [rounds_succ]
        refine gen_world (fun V1 hV => ?_)
        have YA := hid (show V1.heap[wr.heap.size]? = some (.cells #[.int .i64 (F k 0), .int .i64 (F k 1), .int .i64 (F k 2), .int .i64 (F k 3), .int .i64 (F k 4), .int .i64 (F k 5), .int .i64 (F k 6), .int .i64 (F k 7), .int .i64 (F k 8), .int .i64 (F k 9)] 55) by rw [hV]; exact XA.out)
        have YD := hid (show V1.heap[w.heap.size + 1]? = some (.cells #[.int .i64 0, .int .i64 0, .int .i64 0, .int .i64 0, .int .i64 0, .int .i64 0, .int .i64 0, .int .i64 0, .int .i64 0, .int .i64 0, .int .i64 0] 80) by rw [hV]; exact XD.out)
        have YP := hid (show V1.heap[wr.heap.size + 1]? = some (.cells #[.int .i64 (F k 1 - F k 4), .int .i64 (F k 1 + F k 4), .int .i64 0, .int .i64 0, .int .i64 0, .int .i64 0, .int .i64 (F k 5), .int .i64 (F k 6), .int .i64 (F k 7), .int .i64 (F k 8), .int .i64 (F k 9)] 80) by rw [hV]; exact XP.out)
        have YW := hid (show Below w.heap.size w V1 by rw [hV]; exact XW.out)
        clear hV XA XD XP XW
        go_wp2_with fail
        refine gen_act (fun A0 hA => ?_)
        refine wp_region_tail (by kernel_rfl) (by kernel_rfl) [some 50, some 51, some 52, some 53, some 54, some 55, some 56, some 57, some 58, some 59, some 60, some 61, some 62, some 63, some 64, some 65, some 66, some 67, none] rfl (by decide) 17 (by decide) (by kernel_rfl) (by kernel_rfl)
          [IsV (.int .i64 1), IsV (.int .i64 1), IsV (.pointer (some ⟨wr.heap.size, 1, none⟩)), IsV (.pointer (some ⟨wr.heap.size, 2, none⟩)), IsV (.int .i64 (F k 2)), IsV (.pointer (some ⟨wr.heap.size, 4, none⟩)), IsV (.int .i64 (F k 4)), IsV (.int .i64 (F k 2 - F k 4)), IsV (.int .i64 1), IsV (.pointer (some ⟨wr.heap.size, 1, none⟩)), IsV (.pointer (some ⟨wr.heap.size, 2, none⟩)), IsV (.int .i64 (F k 2)), IsV (.pointer (some ⟨wr.heap.size, 4, none⟩)), IsV (.int .i64 (F k 4)), IsV (.int .i64 (F k 2 + F k 4)), IsV (.agg #[.int .i64 (F k 2 - F k 4), .int .i64 (F k 2 + F k 4)]), IsV (.pointer (some ⟨wr.heap.size + 1, 0, none⟩))]
          ⟨IsV.stb _, IsV.stb _, IsV.stb _, IsV.stb _, IsV.stb _, IsV.stb _, IsV.stb _, IsV.stb _, IsV.stb _, IsV.stb _, IsV.stb _, IsV.stb _, IsV.stb _, IsV.stb _, IsV.stb _, IsV.stb _, IsV.stb _, trivial⟩ ?hs1_10_U1x ?hend_10_U1x
        case hs1_10_U1x =>
          refine ⟨?_, ?_, ?_, ?_, ?_, ?_, ?_, ?_, ?_, ?_, ?_, ?_, ?_, ?_, ?_, ?_, ?_, trivial⟩
          · intro K us W hK0 hB hd
            have hK := hid hK0; clear hK0
            have HBW := hid hB
            have hsW := hB.size
            have GB := hid (YW.out.trans (hB.mono YW.out.size))
            clear hd
            simp only [putF]
            rw [hA]
            go_frame
            go_wp2_with fail
            exact hK.out _ _ _ (by rw [hA]; simp only [putF]; kernel_rfl) (Below.refl _ _) rfl
          · intro K us W hK0 hB hd
            have hK := hid hK0; clear hK0
            have HBW := hid hB
            have hsW := hB.size
            have GB := hid (YW.out.trans (hB.mono YW.out.size))
            clear hd
            simp only [putF]
            rw [hA]
            go_frame
            go_wp2_with fail
            exact hK.out _ _ _ (by rw [hA]; simp only [putF]; kernel_rfl) (Below.refl _ _) rfl
          · intro K us W hK0 hB hd
            have hK := hid hK0; clear hK0
            have HBW := hid hB
            have hsW := hB.size
            have GB := hid (YW.out.trans (hB.mono YW.out.size))
            clear hd
            simp only [putF]
            rw [hA]
            go_frame
            go_wp2_with fail
            exact hK.out _ _ _ (by rw [hA]; simp only [putF]; kernel_rfl) (Below.refl _ _) rfl
          · intro K us W hK0 hB hd
            have hK := hid hK0; clear hK0
            have HBW := hid hB
            have hsW := hB.size
            have GB := hid (YW.out.trans (hB.mono YW.out.size))
            have e2 : us 2 = .pointer (some ⟨wr.heap.size, 1, none⟩) := hd ⟨2, Ground.data⟩ (by simp) rfl
            have e1 : us 1 = .int .i64 1 := hd ⟨1, Ground.data⟩ (by simp) rfl
            clear hd
            simp only [putF]
            rw [hA, e2, e1]
            go_frame
            go_wp2_with fail
            exact hK.out _ _ _ (by rw [hA]; simp only [putF]; rw [e2, e1]; kernel_rfl) (Below.refl _ _) rfl
          · intro K us W hK0 hB hd
            have hK := hid hK0; clear hK0
            have HBW := hid hB
            have hsW := hB.size
            have GB := hid (YW.out.trans (hB.mono YW.out.size))
            have e3 : us 3 = .pointer (some ⟨wr.heap.size, 2, none⟩) := hd ⟨3, Ground.data⟩ (by simp) rfl
            clear hd
            have G0 := hid (heap_still hB YA.out)
            have c0 : W.cell? ⟨wr.heap.size, 2, none⟩ = some (.int .i64 (F k 2)) := (cell_row (j := 2) G0.out).trans rfl
            simp only [putF]
            rw [hA, e3]
            go_frame
            go_wp2_with fail
            exact hK.out _ _ _ (by rw [hA]; simp only [putF]; rw [e3]; kernel_rfl) (Below.refl _ _) rfl
          · intro K us W hK0 hB hd
            have hK := hid hK0; clear hK0
            have HBW := hid hB
            have hsW := hB.size
            have GB := hid (YW.out.trans (hB.mono YW.out.size))
            clear hd
            simp only [putF]
            rw [hA]
            go_frame
            go_wp2_with fail
            exact hK.out _ _ _ (by rw [hA]; simp only [putF]; kernel_rfl) (Below.refl _ _) rfl
          · intro K us W hK0 hB hd
            have hK := hid hK0; clear hK0
            have HBW := hid hB
            have hsW := hB.size
            have GB := hid (YW.out.trans (hB.mono YW.out.size))
            have e5 : us 5 = .pointer (some ⟨wr.heap.size, 4, none⟩) := hd ⟨5, Ground.data⟩ (by simp) rfl
            clear hd
            have G0 := hid (heap_still hB YA.out)
            have c0 : W.cell? ⟨wr.heap.size, 4, none⟩ = some (.int .i64 (F k 4)) := (cell_row (j := 4) G0.out).trans rfl
            simp only [putF]
            rw [hA, e5]
            go_frame
            go_wp2_with fail
            exact hK.out _ _ _ (by rw [hA]; simp only [putF]; rw [e5]; kernel_rfl) (Below.refl _ _) rfl
          · intro K us W hK0 hB hd
            have hK := hid hK0; clear hK0
            have HBW := hid hB
            have hsW := hB.size
            have GB := hid (YW.out.trans (hB.mono YW.out.size))
            have e4 : us 4 = .int .i64 (F k 2) := hd ⟨4, Ground.data⟩ (by simp) rfl
            have e6 : us 6 = .int .i64 (F k 4) := hd ⟨6, Ground.data⟩ (by simp) rfl
            clear hd
            simp only [putF]
            rw [hA, e4, e6]
            go_frame
            go_wp2_with fail
            exact hK.out _ _ _ (by rw [hA]; simp only [putF]; rw [e4, e6]; kernel_rfl) (Below.refl _ _) rfl
          · intro K us W hK0 hB hd
            have hK := hid hK0; clear hK0
            have HBW := hid hB
            have hsW := hB.size
            have GB := hid (YW.out.trans (hB.mono YW.out.size))
            clear hd
            simp only [putF]
            rw [hA]
            go_frame
            go_wp2_with fail
            exact hK.out _ _ _ (by rw [hA]; simp only [putF]; kernel_rfl) (Below.refl _ _) rfl
          · intro K us W hK0 hB hd
            have hK := hid hK0; clear hK0
            have HBW := hid hB
            have hsW := hB.size
            have GB := hid (YW.out.trans (hB.mono YW.out.size))
            clear hd
            simp only [putF]
            rw [hA]
            go_frame
            go_wp2_with fail
            exact hK.out _ _ _ (by rw [hA]; simp only [putF]; kernel_rfl) (Below.refl _ _) rfl
          · intro K us W hK0 hB hd
            have hK := hid hK0; clear hK0
            have HBW := hid hB
            have hsW := hB.size
            have GB := hid (YW.out.trans (hB.mono YW.out.size))
            have e9 : us 9 = .pointer (some ⟨wr.heap.size, 1, none⟩) := hd ⟨9, Ground.data⟩ (by simp) rfl
            have e8 : us 8 = .int .i64 1 := hd ⟨8, Ground.data⟩ (by simp) rfl
            clear hd
            simp only [putF]
            rw [hA, e9, e8]
            go_frame
            go_wp2_with fail
            exact hK.out _ _ _ (by rw [hA]; simp only [putF]; rw [e9, e8]; kernel_rfl) (Below.refl _ _) rfl
          · intro K us W hK0 hB hd
            have hK := hid hK0; clear hK0
            have HBW := hid hB
            have hsW := hB.size
            have GB := hid (YW.out.trans (hB.mono YW.out.size))
            have e10 : us 10 = .pointer (some ⟨wr.heap.size, 2, none⟩) := hd ⟨10, Ground.data⟩ (by simp) rfl
            clear hd
            have G0 := hid (heap_still hB YA.out)
            have c0 : W.cell? ⟨wr.heap.size, 2, none⟩ = some (.int .i64 (F k 2)) := (cell_row (j := 2) G0.out).trans rfl
            simp only [putF]
            rw [hA, e10]
            go_frame
            go_wp2_with fail
            exact hK.out _ _ _ (by rw [hA]; simp only [putF]; rw [e10]; kernel_rfl) (Below.refl _ _) rfl
          · intro K us W hK0 hB hd
            have hK := hid hK0; clear hK0
            have HBW := hid hB
            have hsW := hB.size
            have GB := hid (YW.out.trans (hB.mono YW.out.size))
            clear hd
            simp only [putF]
            rw [hA]
            go_frame
            go_wp2_with fail
            exact hK.out _ _ _ (by rw [hA]; simp only [putF]; kernel_rfl) (Below.refl _ _) rfl
          · intro K us W hK0 hB hd
            have hK := hid hK0; clear hK0
            have HBW := hid hB
            have hsW := hB.size
            have GB := hid (YW.out.trans (hB.mono YW.out.size))
            have e12 : us 12 = .pointer (some ⟨wr.heap.size, 4, none⟩) := hd ⟨12, Ground.data⟩ (by simp) rfl
            clear hd
            have G0 := hid (heap_still hB YA.out)
            have c0 : W.cell? ⟨wr.heap.size, 4, none⟩ = some (.int .i64 (F k 4)) := (cell_row (j := 4) G0.out).trans rfl
            simp only [putF]
            rw [hA, e12]
            go_frame
            go_wp2_with fail
            exact hK.out _ _ _ (by rw [hA]; simp only [putF]; rw [e12]; kernel_rfl) (Below.refl _ _) rfl
          · intro K us W hK0 hB hd
            have hK := hid hK0; clear hK0
            have HBW := hid hB
            have hsW := hB.size
            have GB := hid (YW.out.trans (hB.mono YW.out.size))
            have e11 : us 11 = .int .i64 (F k 2) := hd ⟨11, Ground.data⟩ (by simp) rfl
            have e13 : us 13 = .int .i64 (F k 4) := hd ⟨13, Ground.data⟩ (by simp) rfl
            clear hd
            simp only [putF]
            rw [hA, e11, e13]
            go_frame
            go_wp2_with fail
            exact hK.out _ _ _ (by rw [hA]; simp only [putF]; rw [e11, e13]; kernel_rfl) (Below.refl _ _) rfl
          · intro K us W hK0 hB hd
            have hK := hid hK0; clear hK0
            have HBW := hid hB
            have hsW := hB.size
            have GB := hid (YW.out.trans (hB.mono YW.out.size))
            have e7 : us 7 = .int .i64 (F k 2 - F k 4) := hd ⟨7, Ground.data⟩ (by simp) rfl
            have e14 : us 14 = .int .i64 (F k 2 + F k 4) := hd ⟨14, Ground.data⟩ (by simp) rfl
            clear hd
            simp only [putF]
            rw [hA, e7, e14]
            go_frame
            go_wp2_with fail
            exact hK.out _ _ _ (by rw [hA]; simp only [putF]; rw [e7, e14]; kernel_rfl) (Below.refl _ _) rfl
          · intro K us W hK0 hB hd
            have hK := hid hK0; clear hK0
            have HBW := hid hB
            have hsW := hB.size
            have GB := hid (YW.out.trans (hB.mono YW.out.size))
            clear hd
            simp only [putF]
            rw [hA]
            go_frame
            go_wp2_with fail
            exact hK.out _ _ _ (by rw [hA]; simp only [putF]; kernel_rfl) (Below.refl _ _) rfl
        intro us U1x hB hp
        have e0 : us 0 = .int .i64 1 := hp 0 (by decide)
        have e15 : us 15 = .agg #[.int .i64 (F k 2 - F k 4), .int .i64 (F k 2 + F k 4)] := hp 15 (by decide)
        have e16 : us 16 = .pointer (some ⟨wr.heap.size + 1, 0, none⟩) := hp 16 (by decide)
        have HBU1x := hid (YW.out.trans (hB.mono YW.out.size))
        have HSU1x := hid (fun n x => @heap_still _ _ n x hB)
        have hzU1x := hB.size
        have hbU1x := hid hB
        clear hp
        clear hB
        simp only [putF]
        rw [hA, e0, e15, e16]
        clear hA e0 e15 e16
        go_frame
        refine tl_step rfl ?_
        intro K hK0
        have hK := hid hK0
        clear hK0
        go_wp2_with fail
        refine hK.out (.pointer (some ⟨wr.heap.size + 1, 2, none⟩)) _ _ (by kernel_rfl) ?_
        clear hK
        refine tl_step rfl ?_
        intro K hK0
        have hK := hid hK0
        clear hK0
        (try go_frame)
        go_wp2_with (refine pt_store rfl 44 (.tmp 67) (.tmp 65) rfl _ _ _ rfl rfl (HSU1x.out _ _ YP.out) size44 rfl (of_decide_eq_true rfl) rfl ?_)
        refine hK.out undef _ _ (by kernel_rfl) ?_
        clear hK
        refine tl_end rfl ?_
        (try go_frame)
        have XA := hid (setRow_past (cells := #[.int .i64 (F k 1 - F k 4), .int .i64 (F k 1 + F k 4), .int .i64 (F k 2 - F k 4), .int .i64 (F k 2 + F k 4), .int .i64 0, .int .i64 0, .int .i64 (F k 5), .int .i64 (F k 6), .int .i64 (F k 7), .int .i64 (F k 8), .int .i64 (F k 9)]) (HSU1x.out _ _ YA.out) (by omega : wr.heap.size ≠ wr.heap.size + 1))
        have XD := hid (setRow_past (cells := #[.int .i64 (F k 1 - F k 4), .int .i64 (F k 1 + F k 4), .int .i64 (F k 2 - F k 4), .int .i64 (F k 2 + F k 4), .int .i64 0, .int .i64 0, .int .i64 (F k 5), .int .i64 (F k 6), .int .i64 (F k 7), .int .i64 (F k 8), .int .i64 (F k 9)]) (HSU1x.out _ _ YD.out) (by omega : w.heap.size + 1 ≠ wr.heap.size + 1))
        have XP := hid (setRow_heap _ _ _ #[.int .i64 (F k 1 - F k 4), .int .i64 (F k 1 + F k 4), .int .i64 (F k 2 - F k 4), .int .i64 (F k 2 + F k 4), .int .i64 0, .int .i64 0, .int .i64 (F k 5), .int .i64 (F k 6), .int .i64 (F k 7), .int .i64 (F k 8), .int .i64 (F k 9)] _ _ (HSU1x.out _ _ YP.out))
        have XW := hid (below_setRow HBU1x.out (by omega : w.heap.size ≤ wr.heap.size + 1) #[.int .i64 (F k 1 - F k 4), .int .i64 (F k 1 + F k 4), .int .i64 (F k 2 - F k 4), .int .i64 (F k 2 + F k 4), .int .i64 0, .int .i64 0, .int .i64 (F k 5), .int .i64 (F k 6), .int .i64 (F k 7), .int .i64 (F k 8), .int .i64 (F k 9)])
        clear YA YD YP YW
        go_wp2_with fail
        rw [rounds_succ]
        refine gen_world (fun V2 hV => ?_)
        have YA := hid (show V2.heap[wr.heap.size]? = some (.cells #[.int .i64 (F k 0), .int .i64 (F k 1), .int .i64 (F k 2), .int .i64 (F k 3), .int .i64 (F k 4), .int .i64 (F k 5), .int .i64 (F k 6), .int .i64 (F k 7), .int .i64 (F k 8), .int .i64 (F k 9)] 55) by rw [hV]; exact XA.out)
        have YD := hid (show V2.heap[w.heap.size + 1]? = some (.cells #[.int .i64 0, .int .i64 0, .int .i64 0, .int .i64 0, .int .i64 0, .int .i64 0, .int .i64 0, .int .i64 0, .int .i64 0, .int .i64 0, .int .i64 0] 80) by rw [hV]; exact XD.out)
        have YP := hid (show V2.heap[wr.heap.size + 1]? = some (.cells #[.int .i64 (F k 1 - F k 4), .int .i64 (F k 1 + F k 4), .int .i64 (F k 2 - F k 4), .int .i64 (F k 2 + F k 4), .int .i64 0, .int .i64 0, .int .i64 (F k 5), .int .i64 (F k 6), .int .i64 (F k 7), .int .i64 (F k 8), .int .i64 (F k 9)] 80) by rw [hV]; exact XP.out)
        have YW := hid (show Below w.heap.size w V2 by rw [hV]; exact XW.out)
        clear hV XA XD XP XW
        go_wp2_with fail
        refine gen_act (fun A0 hA => ?_)
        refine wp_region_tail (by kernel_rfl) (by kernel_rfl) [some 50, some 51, some 52, some 53, some 54, some 55, some 56, some 57, some 58, some 59, some 60, some 61, some 62, some 63, some 64, some 65, some 66, some 67, none] rfl (by decide) 17 (by decide) (by kernel_rfl) (by kernel_rfl)
          [IsV (.int .i64 2), IsV (.int .i64 2), IsV (.pointer (some ⟨wr.heap.size, 1, none⟩)), IsV (.pointer (some ⟨wr.heap.size, 3, none⟩)), IsV (.int .i64 (F k 3)), IsV (.pointer (some ⟨wr.heap.size, 4, none⟩)), IsV (.int .i64 (F k 4)), IsV (.int .i64 (F k 3 - F k 4)), IsV (.int .i64 2), IsV (.pointer (some ⟨wr.heap.size, 1, none⟩)), IsV (.pointer (some ⟨wr.heap.size, 3, none⟩)), IsV (.int .i64 (F k 3)), IsV (.pointer (some ⟨wr.heap.size, 4, none⟩)), IsV (.int .i64 (F k 4)), IsV (.int .i64 (F k 3 + F k 4)), IsV (.agg #[.int .i64 (F k 3 - F k 4), .int .i64 (F k 3 + F k 4)]), IsV (.pointer (some ⟨wr.heap.size + 1, 0, none⟩))]
          ⟨IsV.stb _, IsV.stb _, IsV.stb _, IsV.stb _, IsV.stb _, IsV.stb _, IsV.stb _, IsV.stb _, IsV.stb _, IsV.stb _, IsV.stb _, IsV.stb _, IsV.stb _, IsV.stb _, IsV.stb _, IsV.stb _, IsV.stb _, trivial⟩ ?hs1_10_U2x ?hend_10_U2x
        case hs1_10_U2x =>
          refine ⟨?_, ?_, ?_, ?_, ?_, ?_, ?_, ?_, ?_, ?_, ?_, ?_, ?_, ?_, ?_, ?_, ?_, trivial⟩
          · intro K us W hK0 hB hd
            have hK := hid hK0; clear hK0
            have HBW := hid hB
            have hsW := hB.size
            have GB := hid (YW.out.trans (hB.mono YW.out.size))
            clear hd
            simp only [putF]
            rw [hA]
            go_frame
            go_wp2_with fail
            exact hK.out _ _ _ (by rw [hA]; simp only [putF]; kernel_rfl) (Below.refl _ _) rfl
          · intro K us W hK0 hB hd
            have hK := hid hK0; clear hK0
            have HBW := hid hB
            have hsW := hB.size
            have GB := hid (YW.out.trans (hB.mono YW.out.size))
            clear hd
            simp only [putF]
            rw [hA]
            go_frame
            go_wp2_with fail
            exact hK.out _ _ _ (by rw [hA]; simp only [putF]; kernel_rfl) (Below.refl _ _) rfl
          · intro K us W hK0 hB hd
            have hK := hid hK0; clear hK0
            have HBW := hid hB
            have hsW := hB.size
            have GB := hid (YW.out.trans (hB.mono YW.out.size))
            clear hd
            simp only [putF]
            rw [hA]
            go_frame
            go_wp2_with fail
            exact hK.out _ _ _ (by rw [hA]; simp only [putF]; kernel_rfl) (Below.refl _ _) rfl
          · intro K us W hK0 hB hd
            have hK := hid hK0; clear hK0
            have HBW := hid hB
            have hsW := hB.size
            have GB := hid (YW.out.trans (hB.mono YW.out.size))
            have e2 : us 2 = .pointer (some ⟨wr.heap.size, 1, none⟩) := hd ⟨2, Ground.data⟩ (by simp) rfl
            have e1 : us 1 = .int .i64 2 := hd ⟨1, Ground.data⟩ (by simp) rfl
            clear hd
            simp only [putF]
            rw [hA, e2, e1]
            go_frame
            go_wp2_with fail
            exact hK.out _ _ _ (by rw [hA]; simp only [putF]; rw [e2, e1]; kernel_rfl) (Below.refl _ _) rfl
          · intro K us W hK0 hB hd
            have hK := hid hK0; clear hK0
            have HBW := hid hB
            have hsW := hB.size
            have GB := hid (YW.out.trans (hB.mono YW.out.size))
            have e3 : us 3 = .pointer (some ⟨wr.heap.size, 3, none⟩) := hd ⟨3, Ground.data⟩ (by simp) rfl
            clear hd
            have G0 := hid (heap_still hB YA.out)
            have c0 : W.cell? ⟨wr.heap.size, 3, none⟩ = some (.int .i64 (F k 3)) := (cell_row (j := 3) G0.out).trans rfl
            simp only [putF]
            rw [hA, e3]
            go_frame
            go_wp2_with fail
            exact hK.out _ _ _ (by rw [hA]; simp only [putF]; rw [e3]; kernel_rfl) (Below.refl _ _) rfl
          · intro K us W hK0 hB hd
            have hK := hid hK0; clear hK0
            have HBW := hid hB
            have hsW := hB.size
            have GB := hid (YW.out.trans (hB.mono YW.out.size))
            clear hd
            simp only [putF]
            rw [hA]
            go_frame
            go_wp2_with fail
            exact hK.out _ _ _ (by rw [hA]; simp only [putF]; kernel_rfl) (Below.refl _ _) rfl
          · intro K us W hK0 hB hd
            have hK := hid hK0; clear hK0
            have HBW := hid hB
            have hsW := hB.size
            have GB := hid (YW.out.trans (hB.mono YW.out.size))
            have e5 : us 5 = .pointer (some ⟨wr.heap.size, 4, none⟩) := hd ⟨5, Ground.data⟩ (by simp) rfl
            clear hd
            have G0 := hid (heap_still hB YA.out)
            have c0 : W.cell? ⟨wr.heap.size, 4, none⟩ = some (.int .i64 (F k 4)) := (cell_row (j := 4) G0.out).trans rfl
            simp only [putF]
            rw [hA, e5]
            go_frame
            go_wp2_with fail
            exact hK.out _ _ _ (by rw [hA]; simp only [putF]; rw [e5]; kernel_rfl) (Below.refl _ _) rfl
          · intro K us W hK0 hB hd
            have hK := hid hK0; clear hK0
            have HBW := hid hB
            have hsW := hB.size
            have GB := hid (YW.out.trans (hB.mono YW.out.size))
            have e4 : us 4 = .int .i64 (F k 3) := hd ⟨4, Ground.data⟩ (by simp) rfl
            have e6 : us 6 = .int .i64 (F k 4) := hd ⟨6, Ground.data⟩ (by simp) rfl
            clear hd
            simp only [putF]
            rw [hA, e4, e6]
            go_frame
            go_wp2_with fail
            exact hK.out _ _ _ (by rw [hA]; simp only [putF]; rw [e4, e6]; kernel_rfl) (Below.refl _ _) rfl
          · intro K us W hK0 hB hd
            have hK := hid hK0; clear hK0
            have HBW := hid hB
            have hsW := hB.size
            have GB := hid (YW.out.trans (hB.mono YW.out.size))
            clear hd
            simp only [putF]
            rw [hA]
            go_frame
            go_wp2_with fail
            exact hK.out _ _ _ (by rw [hA]; simp only [putF]; kernel_rfl) (Below.refl _ _) rfl
          · intro K us W hK0 hB hd
            have hK := hid hK0; clear hK0
            have HBW := hid hB
            have hsW := hB.size
            have GB := hid (YW.out.trans (hB.mono YW.out.size))
            clear hd
            simp only [putF]
            rw [hA]
            go_frame
            go_wp2_with fail
            exact hK.out _ _ _ (by rw [hA]; simp only [putF]; kernel_rfl) (Below.refl _ _) rfl
          · intro K us W hK0 hB hd
            have hK := hid hK0; clear hK0
            have HBW := hid hB
            have hsW := hB.size
            have GB := hid (YW.out.trans (hB.mono YW.out.size))
            have e9 : us 9 = .pointer (some ⟨wr.heap.size, 1, none⟩) := hd ⟨9, Ground.data⟩ (by simp) rfl
            have e8 : us 8 = .int .i64 2 := hd ⟨8, Ground.data⟩ (by simp) rfl
            clear hd
            simp only [putF]
            rw [hA, e9, e8]
            go_frame
            go_wp2_with fail
            exact hK.out _ _ _ (by rw [hA]; simp only [putF]; rw [e9, e8]; kernel_rfl) (Below.refl _ _) rfl
          · intro K us W hK0 hB hd
            have hK := hid hK0; clear hK0
            have HBW := hid hB
            have hsW := hB.size
            have GB := hid (YW.out.trans (hB.mono YW.out.size))
            have e10 : us 10 = .pointer (some ⟨wr.heap.size, 3, none⟩) := hd ⟨10, Ground.data⟩ (by simp) rfl
            clear hd
            have G0 := hid (heap_still hB YA.out)
            have c0 : W.cell? ⟨wr.heap.size, 3, none⟩ = some (.int .i64 (F k 3)) := (cell_row (j := 3) G0.out).trans rfl
            simp only [putF]
            rw [hA, e10]
            go_frame
            go_wp2_with fail
            exact hK.out _ _ _ (by rw [hA]; simp only [putF]; rw [e10]; kernel_rfl) (Below.refl _ _) rfl
          · intro K us W hK0 hB hd
            have hK := hid hK0; clear hK0
            have HBW := hid hB
            have hsW := hB.size
            have GB := hid (YW.out.trans (hB.mono YW.out.size))
            clear hd
            simp only [putF]
            rw [hA]
            go_frame
            go_wp2_with fail
            exact hK.out _ _ _ (by rw [hA]; simp only [putF]; kernel_rfl) (Below.refl _ _) rfl
          · intro K us W hK0 hB hd
            have hK := hid hK0; clear hK0
            have HBW := hid hB
            have hsW := hB.size
            have GB := hid (YW.out.trans (hB.mono YW.out.size))
            have e12 : us 12 = .pointer (some ⟨wr.heap.size, 4, none⟩) := hd ⟨12, Ground.data⟩ (by simp) rfl
            clear hd
            have G0 := hid (heap_still hB YA.out)
            have c0 : W.cell? ⟨wr.heap.size, 4, none⟩ = some (.int .i64 (F k 4)) := (cell_row (j := 4) G0.out).trans rfl
            simp only [putF]
            rw [hA, e12]
            go_frame
            go_wp2_with fail
            exact hK.out _ _ _ (by rw [hA]; simp only [putF]; rw [e12]; kernel_rfl) (Below.refl _ _) rfl
          · intro K us W hK0 hB hd
            have hK := hid hK0; clear hK0
            have HBW := hid hB
            have hsW := hB.size
            have GB := hid (YW.out.trans (hB.mono YW.out.size))
            have e11 : us 11 = .int .i64 (F k 3) := hd ⟨11, Ground.data⟩ (by simp) rfl
            have e13 : us 13 = .int .i64 (F k 4) := hd ⟨13, Ground.data⟩ (by simp) rfl
            clear hd
            simp only [putF]
            rw [hA, e11, e13]
            go_frame
            go_wp2_with fail
            exact hK.out _ _ _ (by rw [hA]; simp only [putF]; rw [e11, e13]; kernel_rfl) (Below.refl _ _) rfl
          · intro K us W hK0 hB hd
            have hK := hid hK0; clear hK0
            have HBW := hid hB
            have hsW := hB.size
            have GB := hid (YW.out.trans (hB.mono YW.out.size))
            have e7 : us 7 = .int .i64 (F k 3 - F k 4) := hd ⟨7, Ground.data⟩ (by simp) rfl
            have e14 : us 14 = .int .i64 (F k 3 + F k 4) := hd ⟨14, Ground.data⟩ (by simp) rfl
            clear hd
            simp only [putF]
            rw [hA, e7, e14]
            go_frame
            go_wp2_with fail
            exact hK.out _ _ _ (by rw [hA]; simp only [putF]; rw [e7, e14]; kernel_rfl) (Below.refl _ _) rfl
          · intro K us W hK0 hB hd
            have hK := hid hK0; clear hK0
            have HBW := hid hB
            have hsW := hB.size
            have GB := hid (YW.out.trans (hB.mono YW.out.size))
            clear hd
            simp only [putF]
            rw [hA]
            go_frame
            go_wp2_with fail
            exact hK.out _ _ _ (by rw [hA]; simp only [putF]; kernel_rfl) (Below.refl _ _) rfl
        intro us U2x hB hp
        have e0 : us 0 = .int .i64 2 := hp 0 (by decide)
        have e15 : us 15 = .agg #[.int .i64 (F k 3 - F k 4), .int .i64 (F k 3 + F k 4)] := hp 15 (by decide)
        have e16 : us 16 = .pointer (some ⟨wr.heap.size + 1, 0, none⟩) := hp 16 (by decide)
        have HBU2x := hid (YW.out.trans (hB.mono YW.out.size))
        have HSU2x := hid (fun n x => @heap_still _ _ n x hB)
        have hzU2x := hB.size
        have hbU2x := hid hB
        clear hp
        clear hB
        simp only [putF]
        rw [hA, e0, e15, e16]
        clear hA e0 e15 e16
        go_frame
        refine tl_step rfl ?_
        intro K hK0
        have hK := hid hK0
        clear hK0
        go_wp2_with fail
        refine hK.out (.pointer (some ⟨wr.heap.size + 1, 4, none⟩)) _ _ (by kernel_rfl) ?_
        clear hK
        refine tl_step rfl ?_
        intro K hK0
        have hK := hid hK0
        clear hK0
        (try go_frame)
        go_wp2_with (refine pt_store rfl 44 (.tmp 67) (.tmp 65) rfl _ _ _ rfl rfl (HSU2x.out _ _ YP.out) size44 rfl (of_decide_eq_true rfl) rfl ?_)
        refine hK.out undef _ _ (by kernel_rfl) ?_
        clear hK
        refine tl_end rfl ?_
        (try go_frame)
        have XA := hid (setRow_past (cells := #[.int .i64 (F k 1 - F k 4), .int .i64 (F k 1 + F k 4), .int .i64 (F k 2 - F k 4), .int .i64 (F k 2 + F k 4), .int .i64 (F k 3 - F k 4), .int .i64 (F k 3 + F k 4), .int .i64 (F k 5), .int .i64 (F k 6), .int .i64 (F k 7), .int .i64 (F k 8), .int .i64 (F k 9)]) (HSU2x.out _ _ YA.out) (by omega : wr.heap.size ≠ wr.heap.size + 1))
        have XD := hid (setRow_past (cells := #[.int .i64 (F k 1 - F k 4), .int .i64 (F k 1 + F k 4), .int .i64 (F k 2 - F k 4), .int .i64 (F k 2 + F k 4), .int .i64 (F k 3 - F k 4), .int .i64 (F k 3 + F k 4), .int .i64 (F k 5), .int .i64 (F k 6), .int .i64 (F k 7), .int .i64 (F k 8), .int .i64 (F k 9)]) (HSU2x.out _ _ YD.out) (by omega : w.heap.size + 1 ≠ wr.heap.size + 1))
        have XP := hid (setRow_heap _ _ _ #[.int .i64 (F k 1 - F k 4), .int .i64 (F k 1 + F k 4), .int .i64 (F k 2 - F k 4), .int .i64 (F k 2 + F k 4), .int .i64 (F k 3 - F k 4), .int .i64 (F k 3 + F k 4), .int .i64 (F k 5), .int .i64 (F k 6), .int .i64 (F k 7), .int .i64 (F k 8), .int .i64 (F k 9)] _ _ (HSU2x.out _ _ YP.out))
        have XW := hid (below_setRow HBU2x.out (by omega : w.heap.size ≤ wr.heap.size + 1) #[.int .i64 (F k 1 - F k 4), .int .i64 (F k 1 + F k 4), .int .i64 (F k 2 - F k 4), .int .i64 (F k 2 + F k 4), .int .i64 (F k 3 - F k 4), .int .i64 (F k 3 + F k 4), .int .i64 (F k 5), .int .i64 (F k 6), .int .i64 (F k 7), .int .i64 (F k 8), .int .i64 (F k 9)])
        clear YA YD YP YW
        go_wp2_with fail
        rw [rounds_succ]
        refine gen_world (fun V9 hV => ?_)
        have YA := hid (show V9.heap[wr.heap.size]? = some (.cells #[.int .i64 (F k 0), .int .i64 (F k 1), .int .i64 (F k 2), .int .i64 (F k 3), .int .i64 (F k 4), .int .i64 (F k 5), .int .i64 (F k 6), .int .i64 (F k 7), .int .i64 (F k 8), .int .i64 (F k 9)] 55) by rw [hV]; exact XA.out)
        have YD := hid (show V9.heap[w.heap.size + 1]? = some (.cells #[.int .i64 0, .int .i64 0, .int .i64 0, .int .i64 0, .int .i64 0, .int .i64 0, .int .i64 0, .int .i64 0, .int .i64 0, .int .i64 0, .int .i64 0] 80) by rw [hV]; exact XD.out)
        have YP := hid (show V9.heap[wr.heap.size + 1]? = some (.cells #[.int .i64 (F k 1 - F k 4), .int .i64 (F k 1 + F k 4), .int .i64 (F k 2 - F k 4), .int .i64 (F k 2 + F k 4), .int .i64 (F k 3 - F k 4), .int .i64 (F k 3 + F k 4), .int .i64 (F k 5), .int .i64 (F k 6), .int .i64 (F k 7), .int .i64 (F k 8), .int .i64 (F k 9)] 80) by rw [hV]; exact XP.out)
        have YW := hid (show Below w.heap.size w V9 by rw [hV]; exact XW.out)
        clear hV XA XD XP XW
        go_wp2_with (first | (refine wpList_load_at rfl 80 (.tmp 9) rfl rfl YP.out Try.underlying80 rfl size80b rfl ?_) | (refine wpList_store_at rfl 80 (.tmp 6) (.tmp 69) rfl rfl rfl YD.out size80b rfl rfl rfl ?_))
        refine bodyPost_ret (results_at1 rfl rfl (setRow_heap _ _ _ _ _ _ YD.out) Try.underlying80 rfl size80b rfl) rfl ?_
        exact ⟨rfl, below_setRow YW.out (by omega) _⟩
      · have hr := HRW.out k (by omega)
        have c0 := hr 0 (by omega)
        simp only [Nat.add_zero] at c0
        have c1 := hr 1 (by omega)
        have c2 := hr 2 (by omega)
        have c3 := hr 3 (by omega)
        have c4 := hr 4 (by omega)
        have c5 := hr 5 (by omega)
        have c6 := hr 6 (by omega)
        have c7 := hr 7 (by omega)
        have c8 := hr 8 (by omega)
        have c9 := hr 9 (by omega)
        clear hr
        rw [HQ.out] at c0
        have hq := HQ.out
        subst hq
        go_wp2_with (first | (refine pt_load rfl 22 (.tmp 38) rfl wr.heap.size 5 rfl [.int .i64 (F k 5), .int .i64 (F k 6), .int .i64 (F k 7), .int .i64 (F k 8)] (heap_alloc_at _ _ _ rfl) rfl Try.underlying22 rfl size22 ?_) | (refine wpList_store_new rfl 55 (.tmp 8) (.tmp 37) rfl rfl rfl rfl size55 rfl rfl rfl ?_) | (refine wpList_store_new rfl 80 (.tmp 9) (.tmp 42) rfl rfl rfl rfl size80b rfl rfl rfl ?_))
        refine gen_world (fun V hV => ?_)
        have XA := hid (show V.heap[wr.heap.size]? = some (.cells #[.int .i64 (F k 0), .int .i64 (F k 1), .int .i64 (F k 2), .int .i64 (F k 3), .int .i64 (F k 4), .int .i64 (F k 5), .int .i64 (F k 6), .int .i64 (F k 7), .int .i64 (F k 8), .int .i64 (F k 9)] 55) by rw [hV]; (repeat' (first | (refine heap_alloc_at _ _ _ ?_; (first | rfl | (simp; done) | (simp; omega))) | (refine heap_alloc_past _ _ _ _ ?_))); first | done | exact HM.out | exact HD.out)
        have XD := hid (show V.heap[w.heap.size + 1]? = some (.cells #[.int .i64 0, .int .i64 0, .int .i64 0, .int .i64 0, .int .i64 0, .int .i64 0, .int .i64 0, .int .i64 0, .int .i64 0, .int .i64 0, .int .i64 0] 80) by rw [hV]; (repeat' (first | (refine heap_alloc_at _ _ _ ?_; (first | rfl | (simp; done) | (simp; omega))) | (refine heap_alloc_past _ _ _ _ ?_))); first | done | exact HM.out | exact HD.out)
        have XP := hid (show V.heap[wr.heap.size + 1]? = some (.cells #[.int .i64 0, .int .i64 0, .int .i64 0, .int .i64 0, .int .i64 0, .int .i64 0, .int .i64 (F k 5), .int .i64 (F k 6), .int .i64 (F k 7), .int .i64 (F k 8), .int .i64 (F k 9)] 80) by rw [hV]; (repeat' (first | (refine heap_alloc_at _ _ _ ?_; (first | rfl | (simp; done) | (simp; omega))) | (refine heap_alloc_past _ _ _ _ ?_))); first | done | exact HM.out | exact HD.out)
        have XW := hid (show Below w.heap.size w V by rw [hV]; have hB0 := HBwr.out; have hB1 := hB0.size; (repeat' (first | (with_reducible exact Below.refl _ _) | (with_reducible assumption) | (with_reducible refine Below.alloc ?_ ?_ _) | (with_reducible refine Below.drew ?_) | (with_reducible refine below_drewN ?_ _) | (with_reducible refine Below.setCell ?_ ?_ _) | (with_reducible refine below_setRow ?_ ?_ _) | go_size)))
        clear hV
        refine wp_loop_rounds 4 ?_
        rw [rounds_succ]
        refine gen_world (fun V0 hV => ?_)
        have YA := hid (show V0.heap[wr.heap.size]? = some (.cells #[.int .i64 (F k 0), .int .i64 (F k 1), .int .i64 (F k 2), .int .i64 (F k 3), .int .i64 (F k 4), .int .i64 (F k 5), .int .i64 (F k 6), .int .i64 (F k 7), .int .i64 (F k 8), .int .i64 (F k 9)] 55) by rw [hV]; exact XA.out)
        have YD := hid (show V0.heap[w.heap.size + 1]? = some (.cells #[.int .i64 0, .int .i64 0, .int .i64 0, .int .i64 0, .int .i64 0, .int .i64 0, .int .i64 0, .int .i64 0, .int .i64 0, .int .i64 0, .int .i64 0] 80) by rw [hV]; exact XD.out)
        have YP := hid (show V0.heap[wr.heap.size + 1]? = some (.cells #[.int .i64 0, .int .i64 0, .int .i64 0, .int .i64 0, .int .i64 0, .int .i64 0, .int .i64 (F k 5), .int .i64 (F k 6), .int .i64 (F k 7), .int .i64 (F k 8), .int .i64 (F k 9)] 80) by rw [hV]; exact XP.out)
        have YW := hid (show Below w.heap.size w V0 by rw [hV]; exact XW.out)
        clear hV XA XD XP XW
        go_wp2_with fail
        refine gen_act (fun A0 hA => ?_)
        refine wp_region_tail (by kernel_rfl) (by kernel_rfl) [some 50, some 51, some 52, some 53, some 54, some 55, some 56, some 57, some 58, some 59, some 60, some 61, some 62, some 63, some 64, some 65, some 66, some 67, none] rfl (by decide) 17 (by decide) (by kernel_rfl) (by kernel_rfl)
          [IsV (.int .i64 0), IsV (.int .i64 0), IsV (.pointer (some ⟨wr.heap.size, 1, none⟩)), IsV (.pointer (some ⟨wr.heap.size, 1, none⟩)), IsV (.int .i64 (F k 1)), IsV (.pointer (some ⟨wr.heap.size, 4, none⟩)), IsV (.int .i64 (F k 4)), IsV (.int .i64 (F k 1 - F k 4)), IsV (.int .i64 0), IsV (.pointer (some ⟨wr.heap.size, 1, none⟩)), IsV (.pointer (some ⟨wr.heap.size, 1, none⟩)), IsV (.int .i64 (F k 1)), IsV (.pointer (some ⟨wr.heap.size, 4, none⟩)), IsV (.int .i64 (F k 4)), IsV (.int .i64 (F k 1 + F k 4)), IsV (.agg #[.int .i64 (F k 1 - F k 4), .int .i64 (F k 1 + F k 4)]), IsV (.pointer (some ⟨wr.heap.size + 1, 0, none⟩))]
          ⟨IsV.stb _, IsV.stb _, IsV.stb _, IsV.stb _, IsV.stb _, IsV.stb _, IsV.stb _, IsV.stb _, IsV.stb _, IsV.stb _, IsV.stb _, IsV.stb _, IsV.stb _, IsV.stb _, IsV.stb _, IsV.stb _, IsV.stb _, trivial⟩ ?hs1_10_U0y ?hend_10_U0y
        case hs1_10_U0y =>
          refine ⟨?_, ?_, ?_, ?_, ?_, ?_, ?_, ?_, ?_, ?_, ?_, ?_, ?_, ?_, ?_, ?_, ?_, trivial⟩
          · intro K us W hK0 hB hd
            have hK := hid hK0; clear hK0
            have HBW := hid hB
            have hsW := hB.size
            have GB := hid (YW.out.trans (hB.mono YW.out.size))
            clear hd
            simp only [putF]
            rw [hA]
            go_frame
            go_wp2_with fail
            exact hK.out _ _ _ (by rw [hA]; simp only [putF]; kernel_rfl) (Below.refl _ _) rfl
          · intro K us W hK0 hB hd
            have hK := hid hK0; clear hK0
            have HBW := hid hB
            have hsW := hB.size
            have GB := hid (YW.out.trans (hB.mono YW.out.size))
            clear hd
            simp only [putF]
            rw [hA]
            go_frame
            go_wp2_with fail
            exact hK.out _ _ _ (by rw [hA]; simp only [putF]; kernel_rfl) (Below.refl _ _) rfl
          · intro K us W hK0 hB hd
            have hK := hid hK0; clear hK0
            have HBW := hid hB
            have hsW := hB.size
            have GB := hid (YW.out.trans (hB.mono YW.out.size))
            clear hd
            simp only [putF]
            rw [hA]
            go_frame
            go_wp2_with fail
            exact hK.out _ _ _ (by rw [hA]; simp only [putF]; kernel_rfl) (Below.refl _ _) rfl
          · intro K us W hK0 hB hd
            have hK := hid hK0; clear hK0
            have HBW := hid hB
            have hsW := hB.size
            have GB := hid (YW.out.trans (hB.mono YW.out.size))
            have e2 : us 2 = .pointer (some ⟨wr.heap.size, 1, none⟩) := hd ⟨2, Ground.data⟩ (by simp) rfl
            have e1 : us 1 = .int .i64 0 := hd ⟨1, Ground.data⟩ (by simp) rfl
            clear hd
            simp only [putF]
            rw [hA, e2, e1]
            go_frame
            go_wp2_with fail
            exact hK.out _ _ _ (by rw [hA]; simp only [putF]; rw [e2, e1]; kernel_rfl) (Below.refl _ _) rfl
          · intro K us W hK0 hB hd
            have hK := hid hK0; clear hK0
            have HBW := hid hB
            have hsW := hB.size
            have GB := hid (YW.out.trans (hB.mono YW.out.size))
            have e3 : us 3 = .pointer (some ⟨wr.heap.size, 1, none⟩) := hd ⟨3, Ground.data⟩ (by simp) rfl
            clear hd
            have G0 := hid (heap_still hB YA.out)
            have c0 : W.cell? ⟨wr.heap.size, 1, none⟩ = some (.int .i64 (F k 1)) := (cell_row (j := 1) G0.out).trans rfl
            simp only [putF]
            rw [hA, e3]
            go_frame
            go_wp2_with fail
            exact hK.out _ _ _ (by rw [hA]; simp only [putF]; rw [e3]; kernel_rfl) (Below.refl _ _) rfl
          · intro K us W hK0 hB hd
            have hK := hid hK0; clear hK0
            have HBW := hid hB
            have hsW := hB.size
            have GB := hid (YW.out.trans (hB.mono YW.out.size))
            clear hd
            simp only [putF]
            rw [hA]
            go_frame
            go_wp2_with fail
            exact hK.out _ _ _ (by rw [hA]; simp only [putF]; kernel_rfl) (Below.refl _ _) rfl
          · intro K us W hK0 hB hd
            have hK := hid hK0; clear hK0
            have HBW := hid hB
            have hsW := hB.size
            have GB := hid (YW.out.trans (hB.mono YW.out.size))
            have e5 : us 5 = .pointer (some ⟨wr.heap.size, 4, none⟩) := hd ⟨5, Ground.data⟩ (by simp) rfl
            clear hd
            have G0 := hid (heap_still hB YA.out)
            have c0 : W.cell? ⟨wr.heap.size, 4, none⟩ = some (.int .i64 (F k 4)) := (cell_row (j := 4) G0.out).trans rfl
            simp only [putF]
            rw [hA, e5]
            go_frame
            go_wp2_with fail
            exact hK.out _ _ _ (by rw [hA]; simp only [putF]; rw [e5]; kernel_rfl) (Below.refl _ _) rfl
          · intro K us W hK0 hB hd
            have hK := hid hK0; clear hK0
            have HBW := hid hB
            have hsW := hB.size
            have GB := hid (YW.out.trans (hB.mono YW.out.size))
            have e4 : us 4 = .int .i64 (F k 1) := hd ⟨4, Ground.data⟩ (by simp) rfl
            have e6 : us 6 = .int .i64 (F k 4) := hd ⟨6, Ground.data⟩ (by simp) rfl
            clear hd
            simp only [putF]
            rw [hA, e4, e6]
            go_frame
            go_wp2_with fail
            exact hK.out _ _ _ (by rw [hA]; simp only [putF]; rw [e4, e6]; kernel_rfl) (Below.refl _ _) rfl
          · intro K us W hK0 hB hd
            have hK := hid hK0; clear hK0
            have HBW := hid hB
            have hsW := hB.size
            have GB := hid (YW.out.trans (hB.mono YW.out.size))
            clear hd
            simp only [putF]
            rw [hA]
            go_frame
            go_wp2_with fail
            exact hK.out _ _ _ (by rw [hA]; simp only [putF]; kernel_rfl) (Below.refl _ _) rfl
          · intro K us W hK0 hB hd
            have hK := hid hK0; clear hK0
            have HBW := hid hB
            have hsW := hB.size
            have GB := hid (YW.out.trans (hB.mono YW.out.size))
            clear hd
            simp only [putF]
            rw [hA]
            go_frame
            go_wp2_with fail
            exact hK.out _ _ _ (by rw [hA]; simp only [putF]; kernel_rfl) (Below.refl _ _) rfl
          · intro K us W hK0 hB hd
            have hK := hid hK0; clear hK0
            have HBW := hid hB
            have hsW := hB.size
            have GB := hid (YW.out.trans (hB.mono YW.out.size))
            have e9 : us 9 = .pointer (some ⟨wr.heap.size, 1, none⟩) := hd ⟨9, Ground.data⟩ (by simp) rfl
            have e8 : us 8 = .int .i64 0 := hd ⟨8, Ground.data⟩ (by simp) rfl
            clear hd
            simp only [putF]
            rw [hA, e9, e8]
            go_frame
            go_wp2_with fail
            exact hK.out _ _ _ (by rw [hA]; simp only [putF]; rw [e9, e8]; kernel_rfl) (Below.refl _ _) rfl
          · intro K us W hK0 hB hd
            have hK := hid hK0; clear hK0
            have HBW := hid hB
            have hsW := hB.size
            have GB := hid (YW.out.trans (hB.mono YW.out.size))
            have e10 : us 10 = .pointer (some ⟨wr.heap.size, 1, none⟩) := hd ⟨10, Ground.data⟩ (by simp) rfl
            clear hd
            have G0 := hid (heap_still hB YA.out)
            have c0 : W.cell? ⟨wr.heap.size, 1, none⟩ = some (.int .i64 (F k 1)) := (cell_row (j := 1) G0.out).trans rfl
            simp only [putF]
            rw [hA, e10]
            go_frame
            go_wp2_with fail
            exact hK.out _ _ _ (by rw [hA]; simp only [putF]; rw [e10]; kernel_rfl) (Below.refl _ _) rfl
          · intro K us W hK0 hB hd
            have hK := hid hK0; clear hK0
            have HBW := hid hB
            have hsW := hB.size
            have GB := hid (YW.out.trans (hB.mono YW.out.size))
            clear hd
            simp only [putF]
            rw [hA]
            go_frame
            go_wp2_with fail
            exact hK.out _ _ _ (by rw [hA]; simp only [putF]; kernel_rfl) (Below.refl _ _) rfl
          · intro K us W hK0 hB hd
            have hK := hid hK0; clear hK0
            have HBW := hid hB
            have hsW := hB.size
            have GB := hid (YW.out.trans (hB.mono YW.out.size))
            have e12 : us 12 = .pointer (some ⟨wr.heap.size, 4, none⟩) := hd ⟨12, Ground.data⟩ (by simp) rfl
            clear hd
            have G0 := hid (heap_still hB YA.out)
            have c0 : W.cell? ⟨wr.heap.size, 4, none⟩ = some (.int .i64 (F k 4)) := (cell_row (j := 4) G0.out).trans rfl
            simp only [putF]
            rw [hA, e12]
            go_frame
            go_wp2_with fail
            exact hK.out _ _ _ (by rw [hA]; simp only [putF]; rw [e12]; kernel_rfl) (Below.refl _ _) rfl
          · intro K us W hK0 hB hd
            have hK := hid hK0; clear hK0
            have HBW := hid hB
            have hsW := hB.size
            have GB := hid (YW.out.trans (hB.mono YW.out.size))
            have e11 : us 11 = .int .i64 (F k 1) := hd ⟨11, Ground.data⟩ (by simp) rfl
            have e13 : us 13 = .int .i64 (F k 4) := hd ⟨13, Ground.data⟩ (by simp) rfl
            clear hd
            simp only [putF]
            rw [hA, e11, e13]
            go_frame
            go_wp2_with fail
            exact hK.out _ _ _ (by rw [hA]; simp only [putF]; rw [e11, e13]; kernel_rfl) (Below.refl _ _) rfl
          · intro K us W hK0 hB hd
            have hK := hid hK0; clear hK0
            have HBW := hid hB
            have hsW := hB.size
            have GB := hid (YW.out.trans (hB.mono YW.out.size))
            have e7 : us 7 = .int .i64 (F k 1 - F k 4) := hd ⟨7, Ground.data⟩ (by simp) rfl
            have e14 : us 14 = .int .i64 (F k 1 + F k 4) := hd ⟨14, Ground.data⟩ (by simp) rfl
            clear hd
            simp only [putF]
            rw [hA, e7, e14]
            go_frame
            go_wp2_with fail
            exact hK.out _ _ _ (by rw [hA]; simp only [putF]; rw [e7, e14]; kernel_rfl) (Below.refl _ _) rfl
          · intro K us W hK0 hB hd
            have hK := hid hK0; clear hK0
            have HBW := hid hB
            have hsW := hB.size
            have GB := hid (YW.out.trans (hB.mono YW.out.size))
            clear hd
            simp only [putF]
            rw [hA]
            go_frame
            go_wp2_with fail
            exact hK.out _ _ _ (by rw [hA]; simp only [putF]; kernel_rfl) (Below.refl _ _) rfl
        intro us U0y hB hp
        have e0 : us 0 = .int .i64 0 := hp 0 (by decide)
        have e15 : us 15 = .agg #[.int .i64 (F k 1 - F k 4), .int .i64 (F k 1 + F k 4)] := hp 15 (by decide)
        have e16 : us 16 = .pointer (some ⟨wr.heap.size + 1, 0, none⟩) := hp 16 (by decide)
        have HBU0y := hid (YW.out.trans (hB.mono YW.out.size))
        have HSU0y := hid (fun n x => @heap_still _ _ n x hB)
        have hzU0y := hB.size
        have hbU0y := hid hB
        clear hp
        clear hB
        simp only [putF]
        rw [hA, e0, e15, e16]
        clear hA e0 e15 e16
        go_frame
        refine tl_step rfl ?_
        intro K hK0
        have hK := hid hK0
        clear hK0
        go_wp2_with fail
        refine hK.out (.pointer (some ⟨wr.heap.size + 1, 0, none⟩)) _ _ (by kernel_rfl) ?_
        clear hK
        refine tl_step rfl ?_
        intro K hK0
        have hK := hid hK0
        clear hK0
        (try go_frame)
        go_wp2_with (refine pt_store rfl 44 (.tmp 67) (.tmp 65) rfl _ _ _ rfl rfl (HSU0y.out _ _ YP.out) size44 rfl (of_decide_eq_true rfl) rfl ?_)
        refine hK.out undef _ _ (by kernel_rfl) ?_
        clear hK
        refine tl_end rfl ?_
        (try go_frame)
        have XA := hid (setRow_past (cells := #[.int .i64 (F k 1 - F k 4), .int .i64 (F k 1 + F k 4), .int .i64 0, .int .i64 0, .int .i64 0, .int .i64 0, .int .i64 (F k 5), .int .i64 (F k 6), .int .i64 (F k 7), .int .i64 (F k 8), .int .i64 (F k 9)]) (HSU0y.out _ _ YA.out) (by omega : wr.heap.size ≠ wr.heap.size + 1))
        have XD := hid (setRow_past (cells := #[.int .i64 (F k 1 - F k 4), .int .i64 (F k 1 + F k 4), .int .i64 0, .int .i64 0, .int .i64 0, .int .i64 0, .int .i64 (F k 5), .int .i64 (F k 6), .int .i64 (F k 7), .int .i64 (F k 8), .int .i64 (F k 9)]) (HSU0y.out _ _ YD.out) (by omega : w.heap.size + 1 ≠ wr.heap.size + 1))
        have XP := hid (setRow_heap _ _ _ #[.int .i64 (F k 1 - F k 4), .int .i64 (F k 1 + F k 4), .int .i64 0, .int .i64 0, .int .i64 0, .int .i64 0, .int .i64 (F k 5), .int .i64 (F k 6), .int .i64 (F k 7), .int .i64 (F k 8), .int .i64 (F k 9)] _ _ (HSU0y.out _ _ YP.out))
        have XW := hid (below_setRow HBU0y.out (by omega : w.heap.size ≤ wr.heap.size + 1) #[.int .i64 (F k 1 - F k 4), .int .i64 (F k 1 + F k 4), .int .i64 0, .int .i64 0, .int .i64 0, .int .i64 0, .int .i64 (F k 5), .int .i64 (F k 6), .int .i64 (F k 7), .int .i64 (F k 8), .int .i64 (F k 9)])
        clear YA YD YP YW
        go_wp2_with fail
        rw [rounds_succ]
        refine gen_world (fun V1 hV => ?_)
        have YA := hid (show V1.heap[wr.heap.size]? = some (.cells #[.int .i64 (F k 0), .int .i64 (F k 1), .int .i64 (F k 2), .int .i64 (F k 3), .int .i64 (F k 4), .int .i64 (F k 5), .int .i64 (F k 6), .int .i64 (F k 7), .int .i64 (F k 8), .int .i64 (F k 9)] 55) by rw [hV]; exact XA.out)
        have YD := hid (show V1.heap[w.heap.size + 1]? = some (.cells #[.int .i64 0, .int .i64 0, .int .i64 0, .int .i64 0, .int .i64 0, .int .i64 0, .int .i64 0, .int .i64 0, .int .i64 0, .int .i64 0, .int .i64 0] 80) by rw [hV]; exact XD.out)
        have YP := hid (show V1.heap[wr.heap.size + 1]? = some (.cells #[.int .i64 (F k 1 - F k 4), .int .i64 (F k 1 + F k 4), .int .i64 0, .int .i64 0, .int .i64 0, .int .i64 0, .int .i64 (F k 5), .int .i64 (F k 6), .int .i64 (F k 7), .int .i64 (F k 8), .int .i64 (F k 9)] 80) by rw [hV]; exact XP.out)
        have YW := hid (show Below w.heap.size w V1 by rw [hV]; exact XW.out)
        clear hV XA XD XP XW
        go_wp2_with fail
        refine gen_act (fun A0 hA => ?_)
        refine wp_region_tail (by kernel_rfl) (by kernel_rfl) [some 50, some 51, some 52, some 53, some 54, some 55, some 56, some 57, some 58, some 59, some 60, some 61, some 62, some 63, some 64, some 65, some 66, some 67, none] rfl (by decide) 17 (by decide) (by kernel_rfl) (by kernel_rfl)
          [IsV (.int .i64 1), IsV (.int .i64 1), IsV (.pointer (some ⟨wr.heap.size, 1, none⟩)), IsV (.pointer (some ⟨wr.heap.size, 2, none⟩)), IsV (.int .i64 (F k 2)), IsV (.pointer (some ⟨wr.heap.size, 4, none⟩)), IsV (.int .i64 (F k 4)), IsV (.int .i64 (F k 2 - F k 4)), IsV (.int .i64 1), IsV (.pointer (some ⟨wr.heap.size, 1, none⟩)), IsV (.pointer (some ⟨wr.heap.size, 2, none⟩)), IsV (.int .i64 (F k 2)), IsV (.pointer (some ⟨wr.heap.size, 4, none⟩)), IsV (.int .i64 (F k 4)), IsV (.int .i64 (F k 2 + F k 4)), IsV (.agg #[.int .i64 (F k 2 - F k 4), .int .i64 (F k 2 + F k 4)]), IsV (.pointer (some ⟨wr.heap.size + 1, 0, none⟩))]
          ⟨IsV.stb _, IsV.stb _, IsV.stb _, IsV.stb _, IsV.stb _, IsV.stb _, IsV.stb _, IsV.stb _, IsV.stb _, IsV.stb _, IsV.stb _, IsV.stb _, IsV.stb _, IsV.stb _, IsV.stb _, IsV.stb _, IsV.stb _, trivial⟩ ?hs1_10_U1y ?hend_10_U1y
        case hs1_10_U1y =>
          refine ⟨?_, ?_, ?_, ?_, ?_, ?_, ?_, ?_, ?_, ?_, ?_, ?_, ?_, ?_, ?_, ?_, ?_, trivial⟩
          · intro K us W hK0 hB hd
            have hK := hid hK0; clear hK0
            have HBW := hid hB
            have hsW := hB.size
            have GB := hid (YW.out.trans (hB.mono YW.out.size))
            clear hd
            simp only [putF]
            rw [hA]
            go_frame
            go_wp2_with fail
            exact hK.out _ _ _ (by rw [hA]; simp only [putF]; kernel_rfl) (Below.refl _ _) rfl
          · intro K us W hK0 hB hd
            have hK := hid hK0; clear hK0
            have HBW := hid hB
            have hsW := hB.size
            have GB := hid (YW.out.trans (hB.mono YW.out.size))
            clear hd
            simp only [putF]
            rw [hA]
            go_frame
            go_wp2_with fail
            exact hK.out _ _ _ (by rw [hA]; simp only [putF]; kernel_rfl) (Below.refl _ _) rfl
          · intro K us W hK0 hB hd
            have hK := hid hK0; clear hK0
            have HBW := hid hB
            have hsW := hB.size
            have GB := hid (YW.out.trans (hB.mono YW.out.size))
            clear hd
            simp only [putF]
            rw [hA]
            go_frame
            go_wp2_with fail
            exact hK.out _ _ _ (by rw [hA]; simp only [putF]; kernel_rfl) (Below.refl _ _) rfl
          · intro K us W hK0 hB hd
            have hK := hid hK0; clear hK0
            have HBW := hid hB
            have hsW := hB.size
            have GB := hid (YW.out.trans (hB.mono YW.out.size))
            have e2 : us 2 = .pointer (some ⟨wr.heap.size, 1, none⟩) := hd ⟨2, Ground.data⟩ (by simp) rfl
            have e1 : us 1 = .int .i64 1 := hd ⟨1, Ground.data⟩ (by simp) rfl
            clear hd
            simp only [putF]
            rw [hA, e2, e1]
            go_frame
            go_wp2_with fail
            exact hK.out _ _ _ (by rw [hA]; simp only [putF]; rw [e2, e1]; kernel_rfl) (Below.refl _ _) rfl
          · intro K us W hK0 hB hd
            have hK := hid hK0; clear hK0
            have HBW := hid hB
            have hsW := hB.size
            have GB := hid (YW.out.trans (hB.mono YW.out.size))
            have e3 : us 3 = .pointer (some ⟨wr.heap.size, 2, none⟩) := hd ⟨3, Ground.data⟩ (by simp) rfl
            clear hd
            have G0 := hid (heap_still hB YA.out)
            have c0 : W.cell? ⟨wr.heap.size, 2, none⟩ = some (.int .i64 (F k 2)) := (cell_row (j := 2) G0.out).trans rfl
            simp only [putF]
            rw [hA, e3]
            go_frame
            go_wp2_with fail
            exact hK.out _ _ _ (by rw [hA]; simp only [putF]; rw [e3]; kernel_rfl) (Below.refl _ _) rfl
          · intro K us W hK0 hB hd
            have hK := hid hK0; clear hK0
            have HBW := hid hB
            have hsW := hB.size
            have GB := hid (YW.out.trans (hB.mono YW.out.size))
            clear hd
            simp only [putF]
            rw [hA]
            go_frame
            go_wp2_with fail
            exact hK.out _ _ _ (by rw [hA]; simp only [putF]; kernel_rfl) (Below.refl _ _) rfl
          · intro K us W hK0 hB hd
            have hK := hid hK0; clear hK0
            have HBW := hid hB
            have hsW := hB.size
            have GB := hid (YW.out.trans (hB.mono YW.out.size))
            have e5 : us 5 = .pointer (some ⟨wr.heap.size, 4, none⟩) := hd ⟨5, Ground.data⟩ (by simp) rfl
            clear hd
            have G0 := hid (heap_still hB YA.out)
            have c0 : W.cell? ⟨wr.heap.size, 4, none⟩ = some (.int .i64 (F k 4)) := (cell_row (j := 4) G0.out).trans rfl
            simp only [putF]
            rw [hA, e5]
            go_frame
            go_wp2_with fail
            exact hK.out _ _ _ (by rw [hA]; simp only [putF]; rw [e5]; kernel_rfl) (Below.refl _ _) rfl
          · intro K us W hK0 hB hd
            have hK := hid hK0; clear hK0
            have HBW := hid hB
            have hsW := hB.size
            have GB := hid (YW.out.trans (hB.mono YW.out.size))
            have e4 : us 4 = .int .i64 (F k 2) := hd ⟨4, Ground.data⟩ (by simp) rfl
            have e6 : us 6 = .int .i64 (F k 4) := hd ⟨6, Ground.data⟩ (by simp) rfl
            clear hd
            simp only [putF]
            rw [hA, e4, e6]
            go_frame
            go_wp2_with fail
            exact hK.out _ _ _ (by rw [hA]; simp only [putF]; rw [e4, e6]; kernel_rfl) (Below.refl _ _) rfl
          · intro K us W hK0 hB hd
            have hK := hid hK0; clear hK0
            have HBW := hid hB
            have hsW := hB.size
            have GB := hid (YW.out.trans (hB.mono YW.out.size))
            clear hd
            simp only [putF]
            rw [hA]
            go_frame
            go_wp2_with fail
            exact hK.out _ _ _ (by rw [hA]; simp only [putF]; kernel_rfl) (Below.refl _ _) rfl
          · intro K us W hK0 hB hd
            have hK := hid hK0; clear hK0
            have HBW := hid hB
            have hsW := hB.size
            have GB := hid (YW.out.trans (hB.mono YW.out.size))
            clear hd
            simp only [putF]
            rw [hA]
            go_frame
            go_wp2_with fail
            exact hK.out _ _ _ (by rw [hA]; simp only [putF]; kernel_rfl) (Below.refl _ _) rfl
          · intro K us W hK0 hB hd
            have hK := hid hK0; clear hK0
            have HBW := hid hB
            have hsW := hB.size
            have GB := hid (YW.out.trans (hB.mono YW.out.size))
            have e9 : us 9 = .pointer (some ⟨wr.heap.size, 1, none⟩) := hd ⟨9, Ground.data⟩ (by simp) rfl
            have e8 : us 8 = .int .i64 1 := hd ⟨8, Ground.data⟩ (by simp) rfl
            clear hd
            simp only [putF]
            rw [hA, e9, e8]
            go_frame
            go_wp2_with fail
            exact hK.out _ _ _ (by rw [hA]; simp only [putF]; rw [e9, e8]; kernel_rfl) (Below.refl _ _) rfl
          · intro K us W hK0 hB hd
            have hK := hid hK0; clear hK0
            have HBW := hid hB
            have hsW := hB.size
            have GB := hid (YW.out.trans (hB.mono YW.out.size))
            have e10 : us 10 = .pointer (some ⟨wr.heap.size, 2, none⟩) := hd ⟨10, Ground.data⟩ (by simp) rfl
            clear hd
            have G0 := hid (heap_still hB YA.out)
            have c0 : W.cell? ⟨wr.heap.size, 2, none⟩ = some (.int .i64 (F k 2)) := (cell_row (j := 2) G0.out).trans rfl
            simp only [putF]
            rw [hA, e10]
            go_frame
            go_wp2_with fail
            exact hK.out _ _ _ (by rw [hA]; simp only [putF]; rw [e10]; kernel_rfl) (Below.refl _ _) rfl
          · intro K us W hK0 hB hd
            have hK := hid hK0; clear hK0
            have HBW := hid hB
            have hsW := hB.size
            have GB := hid (YW.out.trans (hB.mono YW.out.size))
            clear hd
            simp only [putF]
            rw [hA]
            go_frame
            go_wp2_with fail
            exact hK.out _ _ _ (by rw [hA]; simp only [putF]; kernel_rfl) (Below.refl _ _) rfl
          · intro K us W hK0 hB hd
            have hK := hid hK0; clear hK0
            have HBW := hid hB
            have hsW := hB.size
            have GB := hid (YW.out.trans (hB.mono YW.out.size))
            have e12 : us 12 = .pointer (some ⟨wr.heap.size, 4, none⟩) := hd ⟨12, Ground.data⟩ (by simp) rfl
            clear hd
            have G0 := hid (heap_still hB YA.out)
            have c0 : W.cell? ⟨wr.heap.size, 4, none⟩ = some (.int .i64 (F k 4)) := (cell_row (j := 4) G0.out).trans rfl
            simp only [putF]
            rw [hA, e12]
            go_frame
            go_wp2_with fail
            exact hK.out _ _ _ (by rw [hA]; simp only [putF]; rw [e12]; kernel_rfl) (Below.refl _ _) rfl
          · intro K us W hK0 hB hd
            have hK := hid hK0; clear hK0
            have HBW := hid hB
            have hsW := hB.size
            have GB := hid (YW.out.trans (hB.mono YW.out.size))
            have e11 : us 11 = .int .i64 (F k 2) := hd ⟨11, Ground.data⟩ (by simp) rfl
            have e13 : us 13 = .int .i64 (F k 4) := hd ⟨13, Ground.data⟩ (by simp) rfl
            clear hd
            simp only [putF]
            rw [hA, e11, e13]
            go_frame
            go_wp2_with fail
            exact hK.out _ _ _ (by rw [hA]; simp only [putF]; rw [e11, e13]; kernel_rfl) (Below.refl _ _) rfl
          · intro K us W hK0 hB hd
            have hK := hid hK0; clear hK0
            have HBW := hid hB
            have hsW := hB.size
            have GB := hid (YW.out.trans (hB.mono YW.out.size))
            have e7 : us 7 = .int .i64 (F k 2 - F k 4) := hd ⟨7, Ground.data⟩ (by simp) rfl
            have e14 : us 14 = .int .i64 (F k 2 + F k 4) := hd ⟨14, Ground.data⟩ (by simp) rfl
            clear hd
            simp only [putF]
            rw [hA, e7, e14]
            go_frame
            go_wp2_with fail
            exact hK.out _ _ _ (by rw [hA]; simp only [putF]; rw [e7, e14]; kernel_rfl) (Below.refl _ _) rfl
          · intro K us W hK0 hB hd
            have hK := hid hK0; clear hK0
            have HBW := hid hB
            have hsW := hB.size
            have GB := hid (YW.out.trans (hB.mono YW.out.size))
            clear hd
            simp only [putF]
            rw [hA]
            go_frame
            go_wp2_with fail
            exact hK.out _ _ _ (by rw [hA]; simp only [putF]; kernel_rfl) (Below.refl _ _) rfl
        intro us U1y hB hp
        have e0 : us 0 = .int .i64 1 := hp 0 (by decide)
        have e15 : us 15 = .agg #[.int .i64 (F k 2 - F k 4), .int .i64 (F k 2 + F k 4)] := hp 15 (by decide)
        have e16 : us 16 = .pointer (some ⟨wr.heap.size + 1, 0, none⟩) := hp 16 (by decide)
        have HBU1y := hid (YW.out.trans (hB.mono YW.out.size))
        have HSU1y := hid (fun n x => @heap_still _ _ n x hB)
        have hzU1y := hB.size
        have hbU1y := hid hB
        clear hp
        clear hB
        simp only [putF]
        rw [hA, e0, e15, e16]
        clear hA e0 e15 e16
        go_frame
        refine tl_step rfl ?_
        intro K hK0
        have hK := hid hK0
        clear hK0
        go_wp2_with fail
        refine hK.out (.pointer (some ⟨wr.heap.size + 1, 2, none⟩)) _ _ (by kernel_rfl) ?_
        clear hK
        refine tl_step rfl ?_
        intro K hK0
        have hK := hid hK0
        clear hK0
        (try go_frame)
        go_wp2_with (refine pt_store rfl 44 (.tmp 67) (.tmp 65) rfl _ _ _ rfl rfl (HSU1y.out _ _ YP.out) size44 rfl (of_decide_eq_true rfl) rfl ?_)
        refine hK.out undef _ _ (by kernel_rfl) ?_
        clear hK
        refine tl_end rfl ?_
        (try go_frame)
        have XA := hid (setRow_past (cells := #[.int .i64 (F k 1 - F k 4), .int .i64 (F k 1 + F k 4), .int .i64 (F k 2 - F k 4), .int .i64 (F k 2 + F k 4), .int .i64 0, .int .i64 0, .int .i64 (F k 5), .int .i64 (F k 6), .int .i64 (F k 7), .int .i64 (F k 8), .int .i64 (F k 9)]) (HSU1y.out _ _ YA.out) (by omega : wr.heap.size ≠ wr.heap.size + 1))
        have XD := hid (setRow_past (cells := #[.int .i64 (F k 1 - F k 4), .int .i64 (F k 1 + F k 4), .int .i64 (F k 2 - F k 4), .int .i64 (F k 2 + F k 4), .int .i64 0, .int .i64 0, .int .i64 (F k 5), .int .i64 (F k 6), .int .i64 (F k 7), .int .i64 (F k 8), .int .i64 (F k 9)]) (HSU1y.out _ _ YD.out) (by omega : w.heap.size + 1 ≠ wr.heap.size + 1))
        have XP := hid (setRow_heap _ _ _ #[.int .i64 (F k 1 - F k 4), .int .i64 (F k 1 + F k 4), .int .i64 (F k 2 - F k 4), .int .i64 (F k 2 + F k 4), .int .i64 0, .int .i64 0, .int .i64 (F k 5), .int .i64 (F k 6), .int .i64 (F k 7), .int .i64 (F k 8), .int .i64 (F k 9)] _ _ (HSU1y.out _ _ YP.out))
        have XW := hid (below_setRow HBU1y.out (by omega : w.heap.size ≤ wr.heap.size + 1) #[.int .i64 (F k 1 - F k 4), .int .i64 (F k 1 + F k 4), .int .i64 (F k 2 - F k 4), .int .i64 (F k 2 + F k 4), .int .i64 0, .int .i64 0, .int .i64 (F k 5), .int .i64 (F k 6), .int .i64 (F k 7), .int .i64 (F k 8), .int .i64 (F k 9)])
        clear YA YD YP YW
        go_wp2_with fail
        rw [rounds_succ]
        refine gen_world (fun V2 hV => ?_)
        have YA := hid (show V2.heap[wr.heap.size]? = some (.cells #[.int .i64 (F k 0), .int .i64 (F k 1), .int .i64 (F k 2), .int .i64 (F k 3), .int .i64 (F k 4), .int .i64 (F k 5), .int .i64 (F k 6), .int .i64 (F k 7), .int .i64 (F k 8), .int .i64 (F k 9)] 55) by rw [hV]; exact XA.out)
        have YD := hid (show V2.heap[w.heap.size + 1]? = some (.cells #[.int .i64 0, .int .i64 0, .int .i64 0, .int .i64 0, .int .i64 0, .int .i64 0, .int .i64 0, .int .i64 0, .int .i64 0, .int .i64 0, .int .i64 0] 80) by rw [hV]; exact XD.out)
        have YP := hid (show V2.heap[wr.heap.size + 1]? = some (.cells #[.int .i64 (F k 1 - F k 4), .int .i64 (F k 1 + F k 4), .int .i64 (F k 2 - F k 4), .int .i64 (F k 2 + F k 4), .int .i64 0, .int .i64 0, .int .i64 (F k 5), .int .i64 (F k 6), .int .i64 (F k 7), .int .i64 (F k 8), .int .i64 (F k 9)] 80) by rw [hV]; exact XP.out)
        have YW := hid (show Below w.heap.size w V2 by rw [hV]; exact XW.out)
        clear hV XA XD XP XW
        go_wp2_with fail
        refine gen_act (fun A0 hA => ?_)
        refine wp_region_tail (by kernel_rfl) (by kernel_rfl) [some 50, some 51, some 52, some 53, some 54, some 55, some 56, some 57, some 58, some 59, some 60, some 61, some 62, some 63, some 64, some 65, some 66, some 67, none] rfl (by decide) 17 (by decide) (by kernel_rfl) (by kernel_rfl)
          [IsV (.int .i64 2), IsV (.int .i64 2), IsV (.pointer (some ⟨wr.heap.size, 1, none⟩)), IsV (.pointer (some ⟨wr.heap.size, 3, none⟩)), IsV (.int .i64 (F k 3)), IsV (.pointer (some ⟨wr.heap.size, 4, none⟩)), IsV (.int .i64 (F k 4)), IsV (.int .i64 (F k 3 - F k 4)), IsV (.int .i64 2), IsV (.pointer (some ⟨wr.heap.size, 1, none⟩)), IsV (.pointer (some ⟨wr.heap.size, 3, none⟩)), IsV (.int .i64 (F k 3)), IsV (.pointer (some ⟨wr.heap.size, 4, none⟩)), IsV (.int .i64 (F k 4)), IsV (.int .i64 (F k 3 + F k 4)), IsV (.agg #[.int .i64 (F k 3 - F k 4), .int .i64 (F k 3 + F k 4)]), IsV (.pointer (some ⟨wr.heap.size + 1, 0, none⟩))]
          ⟨IsV.stb _, IsV.stb _, IsV.stb _, IsV.stb _, IsV.stb _, IsV.stb _, IsV.stb _, IsV.stb _, IsV.stb _, IsV.stb _, IsV.stb _, IsV.stb _, IsV.stb _, IsV.stb _, IsV.stb _, IsV.stb _, IsV.stb _, trivial⟩ ?hs1_10_U2y ?hend_10_U2y
        case hs1_10_U2y =>
          refine ⟨?_, ?_, ?_, ?_, ?_, ?_, ?_, ?_, ?_, ?_, ?_, ?_, ?_, ?_, ?_, ?_, ?_, trivial⟩
          · intro K us W hK0 hB hd
            have hK := hid hK0; clear hK0
            have HBW := hid hB
            have hsW := hB.size
            have GB := hid (YW.out.trans (hB.mono YW.out.size))
            clear hd
            simp only [putF]
            rw [hA]
            go_frame
            go_wp2_with fail
            exact hK.out _ _ _ (by rw [hA]; simp only [putF]; kernel_rfl) (Below.refl _ _) rfl
          · intro K us W hK0 hB hd
            have hK := hid hK0; clear hK0
            have HBW := hid hB
            have hsW := hB.size
            have GB := hid (YW.out.trans (hB.mono YW.out.size))
            clear hd
            simp only [putF]
            rw [hA]
            go_frame
            go_wp2_with fail
            exact hK.out _ _ _ (by rw [hA]; simp only [putF]; kernel_rfl) (Below.refl _ _) rfl
          · intro K us W hK0 hB hd
            have hK := hid hK0; clear hK0
            have HBW := hid hB
            have hsW := hB.size
            have GB := hid (YW.out.trans (hB.mono YW.out.size))
            clear hd
            simp only [putF]
            rw [hA]
            go_frame
            go_wp2_with fail
            exact hK.out _ _ _ (by rw [hA]; simp only [putF]; kernel_rfl) (Below.refl _ _) rfl
          · intro K us W hK0 hB hd
            have hK := hid hK0; clear hK0
            have HBW := hid hB
            have hsW := hB.size
            have GB := hid (YW.out.trans (hB.mono YW.out.size))
            have e2 : us 2 = .pointer (some ⟨wr.heap.size, 1, none⟩) := hd ⟨2, Ground.data⟩ (by simp) rfl
            have e1 : us 1 = .int .i64 2 := hd ⟨1, Ground.data⟩ (by simp) rfl
            clear hd
            simp only [putF]
            rw [hA, e2, e1]
            go_frame
            go_wp2_with fail
            exact hK.out _ _ _ (by rw [hA]; simp only [putF]; rw [e2, e1]; kernel_rfl) (Below.refl _ _) rfl
          · intro K us W hK0 hB hd
            have hK := hid hK0; clear hK0
            have HBW := hid hB
            have hsW := hB.size
            have GB := hid (YW.out.trans (hB.mono YW.out.size))
            have e3 : us 3 = .pointer (some ⟨wr.heap.size, 3, none⟩) := hd ⟨3, Ground.data⟩ (by simp) rfl
            clear hd
            have G0 := hid (heap_still hB YA.out)
            have c0 : W.cell? ⟨wr.heap.size, 3, none⟩ = some (.int .i64 (F k 3)) := (cell_row (j := 3) G0.out).trans rfl
            simp only [putF]
            rw [hA, e3]
            go_frame
            go_wp2_with fail
            exact hK.out _ _ _ (by rw [hA]; simp only [putF]; rw [e3]; kernel_rfl) (Below.refl _ _) rfl
          · intro K us W hK0 hB hd
            have hK := hid hK0; clear hK0
            have HBW := hid hB
            have hsW := hB.size
            have GB := hid (YW.out.trans (hB.mono YW.out.size))
            clear hd
            simp only [putF]
            rw [hA]
            go_frame
            go_wp2_with fail
            exact hK.out _ _ _ (by rw [hA]; simp only [putF]; kernel_rfl) (Below.refl _ _) rfl
          · intro K us W hK0 hB hd
            have hK := hid hK0; clear hK0
            have HBW := hid hB
            have hsW := hB.size
            have GB := hid (YW.out.trans (hB.mono YW.out.size))
            have e5 : us 5 = .pointer (some ⟨wr.heap.size, 4, none⟩) := hd ⟨5, Ground.data⟩ (by simp) rfl
            clear hd
            have G0 := hid (heap_still hB YA.out)
            have c0 : W.cell? ⟨wr.heap.size, 4, none⟩ = some (.int .i64 (F k 4)) := (cell_row (j := 4) G0.out).trans rfl
            simp only [putF]
            rw [hA, e5]
            go_frame
            go_wp2_with fail
            exact hK.out _ _ _ (by rw [hA]; simp only [putF]; rw [e5]; kernel_rfl) (Below.refl _ _) rfl
          · intro K us W hK0 hB hd
            have hK := hid hK0; clear hK0
            have HBW := hid hB
            have hsW := hB.size
            have GB := hid (YW.out.trans (hB.mono YW.out.size))
            have e4 : us 4 = .int .i64 (F k 3) := hd ⟨4, Ground.data⟩ (by simp) rfl
            have e6 : us 6 = .int .i64 (F k 4) := hd ⟨6, Ground.data⟩ (by simp) rfl
            clear hd
            simp only [putF]
            rw [hA, e4, e6]
            go_frame
            go_wp2_with fail
            exact hK.out _ _ _ (by rw [hA]; simp only [putF]; rw [e4, e6]; kernel_rfl) (Below.refl _ _) rfl
          · intro K us W hK0 hB hd
            have hK := hid hK0; clear hK0
            have HBW := hid hB
            have hsW := hB.size
            have GB := hid (YW.out.trans (hB.mono YW.out.size))
            clear hd
            simp only [putF]
            rw [hA]
            go_frame
            go_wp2_with fail
            exact hK.out _ _ _ (by rw [hA]; simp only [putF]; kernel_rfl) (Below.refl _ _) rfl
          · intro K us W hK0 hB hd
            have hK := hid hK0; clear hK0
            have HBW := hid hB
            have hsW := hB.size
            have GB := hid (YW.out.trans (hB.mono YW.out.size))
            clear hd
            simp only [putF]
            rw [hA]
            go_frame
            go_wp2_with fail
            exact hK.out _ _ _ (by rw [hA]; simp only [putF]; kernel_rfl) (Below.refl _ _) rfl
          · intro K us W hK0 hB hd
            have hK := hid hK0; clear hK0
            have HBW := hid hB
            have hsW := hB.size
            have GB := hid (YW.out.trans (hB.mono YW.out.size))
            have e9 : us 9 = .pointer (some ⟨wr.heap.size, 1, none⟩) := hd ⟨9, Ground.data⟩ (by simp) rfl
            have e8 : us 8 = .int .i64 2 := hd ⟨8, Ground.data⟩ (by simp) rfl
            clear hd
            simp only [putF]
            rw [hA, e9, e8]
            go_frame
            go_wp2_with fail
            exact hK.out _ _ _ (by rw [hA]; simp only [putF]; rw [e9, e8]; kernel_rfl) (Below.refl _ _) rfl
          · intro K us W hK0 hB hd
            have hK := hid hK0; clear hK0
            have HBW := hid hB
            have hsW := hB.size
            have GB := hid (YW.out.trans (hB.mono YW.out.size))
            have e10 : us 10 = .pointer (some ⟨wr.heap.size, 3, none⟩) := hd ⟨10, Ground.data⟩ (by simp) rfl
            clear hd
            have G0 := hid (heap_still hB YA.out)
            have c0 : W.cell? ⟨wr.heap.size, 3, none⟩ = some (.int .i64 (F k 3)) := (cell_row (j := 3) G0.out).trans rfl
            simp only [putF]
            rw [hA, e10]
            go_frame
            go_wp2_with fail
            exact hK.out _ _ _ (by rw [hA]; simp only [putF]; rw [e10]; kernel_rfl) (Below.refl _ _) rfl
          · intro K us W hK0 hB hd
            have hK := hid hK0; clear hK0
            have HBW := hid hB
            have hsW := hB.size
            have GB := hid (YW.out.trans (hB.mono YW.out.size))
            clear hd
            simp only [putF]
            rw [hA]
            go_frame
            go_wp2_with fail
            exact hK.out _ _ _ (by rw [hA]; simp only [putF]; kernel_rfl) (Below.refl _ _) rfl
          · intro K us W hK0 hB hd
            have hK := hid hK0; clear hK0
            have HBW := hid hB
            have hsW := hB.size
            have GB := hid (YW.out.trans (hB.mono YW.out.size))
            have e12 : us 12 = .pointer (some ⟨wr.heap.size, 4, none⟩) := hd ⟨12, Ground.data⟩ (by simp) rfl
            clear hd
            have G0 := hid (heap_still hB YA.out)
            have c0 : W.cell? ⟨wr.heap.size, 4, none⟩ = some (.int .i64 (F k 4)) := (cell_row (j := 4) G0.out).trans rfl
            simp only [putF]
            rw [hA, e12]
            go_frame
            go_wp2_with fail
            exact hK.out _ _ _ (by rw [hA]; simp only [putF]; rw [e12]; kernel_rfl) (Below.refl _ _) rfl
          · intro K us W hK0 hB hd
            have hK := hid hK0; clear hK0
            have HBW := hid hB
            have hsW := hB.size
            have GB := hid (YW.out.trans (hB.mono YW.out.size))
            have e11 : us 11 = .int .i64 (F k 3) := hd ⟨11, Ground.data⟩ (by simp) rfl
            have e13 : us 13 = .int .i64 (F k 4) := hd ⟨13, Ground.data⟩ (by simp) rfl
            clear hd
            simp only [putF]
            rw [hA, e11, e13]
            go_frame
            go_wp2_with fail
            exact hK.out _ _ _ (by rw [hA]; simp only [putF]; rw [e11, e13]; kernel_rfl) (Below.refl _ _) rfl
          · intro K us W hK0 hB hd
            have hK := hid hK0; clear hK0
            have HBW := hid hB
            have hsW := hB.size
            have GB := hid (YW.out.trans (hB.mono YW.out.size))
            have e7 : us 7 = .int .i64 (F k 3 - F k 4) := hd ⟨7, Ground.data⟩ (by simp) rfl
            have e14 : us 14 = .int .i64 (F k 3 + F k 4) := hd ⟨14, Ground.data⟩ (by simp) rfl
            clear hd
            simp only [putF]
            rw [hA, e7, e14]
            go_frame
            go_wp2_with fail
            exact hK.out _ _ _ (by rw [hA]; simp only [putF]; rw [e7, e14]; kernel_rfl) (Below.refl _ _) rfl
          · intro K us W hK0 hB hd
            have hK := hid hK0; clear hK0
            have HBW := hid hB
            have hsW := hB.size
            have GB := hid (YW.out.trans (hB.mono YW.out.size))
            clear hd
            simp only [putF]
            rw [hA]
            go_frame
            go_wp2_with fail
            exact hK.out _ _ _ (by rw [hA]; simp only [putF]; kernel_rfl) (Below.refl _ _) rfl
        intro us U2y hB hp
        have e0 : us 0 = .int .i64 2 := hp 0 (by decide)
        have e15 : us 15 = .agg #[.int .i64 (F k 3 - F k 4), .int .i64 (F k 3 + F k 4)] := hp 15 (by decide)
        have e16 : us 16 = .pointer (some ⟨wr.heap.size + 1, 0, none⟩) := hp 16 (by decide)
        have HBU2y := hid (YW.out.trans (hB.mono YW.out.size))
        have HSU2y := hid (fun n x => @heap_still _ _ n x hB)
        have hzU2y := hB.size
        have hbU2y := hid hB
        clear hp
        clear hB
        simp only [putF]
        rw [hA, e0, e15, e16]
        clear hA e0 e15 e16
        go_frame
        refine tl_step rfl ?_
        intro K hK0
        have hK := hid hK0
        clear hK0
        go_wp2_with fail
        refine hK.out (.pointer (some ⟨wr.heap.size + 1, 4, none⟩)) _ _ (by kernel_rfl) ?_
        clear hK
        refine tl_step rfl ?_
        intro K hK0
        have hK := hid hK0
        clear hK0
        (try go_frame)
        go_wp2_with (refine pt_store rfl 44 (.tmp 67) (.tmp 65) rfl _ _ _ rfl rfl (HSU2y.out _ _ YP.out) size44 rfl (of_decide_eq_true rfl) rfl ?_)
        refine hK.out undef _ _ (by kernel_rfl) ?_
        clear hK
        refine tl_end rfl ?_
        (try go_frame)
        have XA := hid (setRow_past (cells := #[.int .i64 (F k 1 - F k 4), .int .i64 (F k 1 + F k 4), .int .i64 (F k 2 - F k 4), .int .i64 (F k 2 + F k 4), .int .i64 (F k 3 - F k 4), .int .i64 (F k 3 + F k 4), .int .i64 (F k 5), .int .i64 (F k 6), .int .i64 (F k 7), .int .i64 (F k 8), .int .i64 (F k 9)]) (HSU2y.out _ _ YA.out) (by omega : wr.heap.size ≠ wr.heap.size + 1))
        have XD := hid (setRow_past (cells := #[.int .i64 (F k 1 - F k 4), .int .i64 (F k 1 + F k 4), .int .i64 (F k 2 - F k 4), .int .i64 (F k 2 + F k 4), .int .i64 (F k 3 - F k 4), .int .i64 (F k 3 + F k 4), .int .i64 (F k 5), .int .i64 (F k 6), .int .i64 (F k 7), .int .i64 (F k 8), .int .i64 (F k 9)]) (HSU2y.out _ _ YD.out) (by omega : w.heap.size + 1 ≠ wr.heap.size + 1))
        have XP := hid (setRow_heap _ _ _ #[.int .i64 (F k 1 - F k 4), .int .i64 (F k 1 + F k 4), .int .i64 (F k 2 - F k 4), .int .i64 (F k 2 + F k 4), .int .i64 (F k 3 - F k 4), .int .i64 (F k 3 + F k 4), .int .i64 (F k 5), .int .i64 (F k 6), .int .i64 (F k 7), .int .i64 (F k 8), .int .i64 (F k 9)] _ _ (HSU2y.out _ _ YP.out))
        have XW := hid (below_setRow HBU2y.out (by omega : w.heap.size ≤ wr.heap.size + 1) #[.int .i64 (F k 1 - F k 4), .int .i64 (F k 1 + F k 4), .int .i64 (F k 2 - F k 4), .int .i64 (F k 2 + F k 4), .int .i64 (F k 3 - F k 4), .int .i64 (F k 3 + F k 4), .int .i64 (F k 5), .int .i64 (F k 6), .int .i64 (F k 7), .int .i64 (F k 8), .int .i64 (F k 9)])
        clear YA YD YP YW
        go_wp2_with fail
        rw [rounds_succ]
        refine gen_world (fun V9 hV => ?_)
        have YA := hid (show V9.heap[wr.heap.size]? = some (.cells #[.int .i64 (F k 0), .int .i64 (F k 1), .int .i64 (F k 2), .int .i64 (F k 3), .int .i64 (F k 4), .int .i64 (F k 5), .int .i64 (F k 6), .int .i64 (F k 7), .int .i64 (F k 8), .int .i64 (F k 9)] 55) by rw [hV]; exact XA.out)
        have YD := hid (show V9.heap[w.heap.size + 1]? = some (.cells #[.int .i64 0, .int .i64 0, .int .i64 0, .int .i64 0, .int .i64 0, .int .i64 0, .int .i64 0, .int .i64 0, .int .i64 0, .int .i64 0, .int .i64 0] 80) by rw [hV]; exact XD.out)
        have YP := hid (show V9.heap[wr.heap.size + 1]? = some (.cells #[.int .i64 (F k 1 - F k 4), .int .i64 (F k 1 + F k 4), .int .i64 (F k 2 - F k 4), .int .i64 (F k 2 + F k 4), .int .i64 (F k 3 - F k 4), .int .i64 (F k 3 + F k 4), .int .i64 (F k 5), .int .i64 (F k 6), .int .i64 (F k 7), .int .i64 (F k 8), .int .i64 (F k 9)] 80) by rw [hV]; exact XP.out)
        have YW := hid (show Below w.heap.size w V9 by rw [hV]; exact XW.out)
        clear hV XA XD XP XW
        go_wp2_with (first | (refine wpList_load_at rfl 80 (.tmp 9) rfl rfl YP.out Try.underlying80 rfl size80b rfl ?_) | (refine wpList_store_at rfl 80 (.tmp 6) (.tmp 69) rfl rfl rfl YD.out size80b rfl rfl rfl ?_))
        refine bodyPost_ret (results_at1 rfl rfl (setRow_heap _ _ _ _ _ _ YD.out) Try.underlying80 rfl size80b rfl) rfl ?_
        exact ⟨rfl, below_setRow YW.out (by omega) _⟩
end Go.Proofs.Yteoikaedpgianaa
