/- The program's pose within a part of a track. -/
import Derived.Test.YteoikaedpgianaaPoseOf
namespace Go.Proofs.Yteoikaedpgianaa
open Go.RowKit Limb

/-- the pose within a part, K the first fix whose time is not before the time -/
def inV (F : Nat → Nat → Int) (K : Nat) (acc rate time : Int) : Value := if F K 0 = time then fixPose (F K) else betV (F (K - 1)) (F K) acc rate time
set_option maxRecDepth 100000 in
set_option maxHeartbeats 1600000 in
theorem poseIn_any (b o L C K : Nat) (F : Nat → Nat → Int) (m0 m1 m2 m3 time : Int) (w : World) (hb : b < w.heap.size) (hr : recs10 w b o L F) (hL : L ≤ 9223372036854775807) (hK : K < L) (hle : time ≤ F K 0) (hlt : ∀ j, j < K → F j 0 < time)
    (hfix : ∀ j, j ≤ K → fixF (F j) = true) (hm2 : 0 ≤ m2 ∧ m2 ≤ 100000) (hm3 : 0 ≤ m3 ∧ m3 ≤ 10000000) (hgap : F K 0 = time ∨ (0 < K ∧ F K 0 - F (K - 1) 0 ≤ 10000000)) :
    Calls Try.prog 112 #[.slice (some ⟨b, o, none⟩) L C, .agg #[.int .i64 m0, .int .i64 m1, .int .i64 m2, .int .i64 m3], .int .i64 time] w fun r w' => r = .returned (inV F K m2 m3 time) ∧ Below w.heap.size w w' := by
  have HR := hid hr
  have HLT := hid hlt
  have HFIX := hid hfix
  have HGAP := hid hgap
  have HLE := hid hle
  obtain ⟨res, hres⟩ : ∃ res, res = inV F K m2 m3 time := ⟨_, rfl⟩
  rw [← hres]
  have HRES := hid hres
  clear hr hlt hfix hgap hres hle
  go_enter Try.func112, Try.ntmps112
  go_wp2_with fail
  go_loopw [7] (fun i W => ∃ (k : Nat), k ≤ K ∧ i = .int .i64 k ∧ Below w.heap.size w W ∧ W.heap[w.heap.size]? = some (.cells #[.int .i64 m0, .int .i64 m1, .int .i64 m2, .int .i64 m3] 61) ∧ W.heap[w.heap.size + 1]? = some (.cells #[.int .i64 0, .int .i64 0, .int .i64 0, .int .i64 0, .int .i64 0, .int .i64 0, .int .i64 0, .int .i64 0, .int .i64 0, .int .i64 0, .int .i64 0] 80)) (fun i _ => K - (intOf i).toNat)
  case atStart => exact ⟨0, by omega, rfl, by (repeat' (first | (with_reducible exact Below.refl _ _) | (with_reducible assumption) | (with_reducible refine Below.alloc ?_ ?_ _) | (with_reducible refine Below.drew ?_) | (with_reducible refine below_drewN ?_ _) | (with_reducible refine Below.setCell ?_ ?_ _) | (with_reducible refine below_setRow ?_ ?_ _) | go_size)), (by repeat' (first | (refine heap_alloc_at _ _ _ ?_; (first | rfl | (simp; done) | (simp; omega))) | (refine heap_alloc_past _ _ _ _ ?_))), (by repeat' (first | (refine heap_alloc_at _ _ _ ?_; (first | rfl | (simp; done) | (simp; omega))) | (refine heap_alloc_past _ _ _ _ ?_)))⟩
  case round =>
    obtain ⟨k, hk, rfl, hB, hM, hD⟩ := hrel
    have HBwr := hid hB
    have HM := hid hM
    have HD := hid hD
    have HRW := hid (HR.out.still hB hb)
    have hszr : w.heap.size + 1 < wr.heap.size := (Array.getElem?_eq_some_iff.1 hD).1
    clear hB hM hD
    have z0 := HRW.out k (by omega) 0 (by omega)
    simp only [Nat.add_zero] at z0
    by_cases hkK : k < K
    · have hf := HLT.out k hkK
      go_wp2_with fail
      go_roundw
      case rel => exact ⟨k + 1, by omega, by go_num, HBwr.out, HM.out, HD.out⟩
      case measure => simp [intOf]; omega
    · obtain rfl : k = K := by omega
      have hle := HLE.out
      by_cases hq : F k 0 = time
      · have HF := hid (show res = fixPose (F k) from HRES.out.trans (if_pos hq))
        clear z0
        have hr := HRW.out k (by omega)
        have c0 := hr 0 (by omega)
        simp only [Nat.add_zero] at c0
        have c1 := hr 1 (by omega)
        have c2 := hr 2 (by omega)
        have c3 := hr 3 (by omega)
        have c4 := hr 4 (by omega)
        have c5 := hr 5 (by omega)
        have c6 := hr 6 (by omega)
        have c7 := hr 7 (by omega)
        have c8 := hr 8 (by omega)
        have c9 := hr 9 (by omega)
        clear hr
        rw [hq] at c0
        have HP := hid (poseOf_any (F k) · (HFIX.out k (Nat.le_refl _)))
        rw [hq] at HP
        clear hle
        go_wp2_with fail
        refine (HP.out _).mono ?_
        rintro r w1 ⟨rfl, hb⟩
        have HBw1 := hid (show Below w.heap.size w w1 by have hB0 := HBwr.out; refine Below.trans ?_ (hb.mono ?_); (focus ((repeat' (first | (with_reducible exact Below.refl _ _) | (with_reducible assumption) | (with_reducible refine Below.alloc ?_ ?_ _) | (with_reducible refine Below.drew ?_) | (with_reducible refine below_drewN ?_ _) | (with_reducible refine Below.setCell ?_ ?_ _) | (with_reducible refine below_setRow ?_ ?_ _) | go_size)); done)); (focus (first | (simp; done) | (simp; omega) | (have hB1 := hB0.size; simp; omega))))
        have hsw1 := hb.size
        (try simp at hsw1)
        have hzw1 : w.heap.size < w1.heap.size := by omega
        obtain ⟨hcw1, hfw1⟩ := bcell hb
        have hkw1 := hid (fun n x => @heap_still _ _ n x hb)
        clear hb
        have HD1 := hid (hkw1.out _ _ HD.out)
        go_wp2_with (refine wpList_store_at rfl 80 (.tmp 6) (.tmp 28) rfl rfl rfl HD1.out size80b rfl rfl rfl ?_)
        refine bodyPost_ret (results_at1 rfl rfl (setRow_heap _ _ _ _ _ _ HD1.out) Try.underlying80 rfl size80b rfl) rfl ?_
        exact ⟨by rw [HF.out]; rfl, below_setRow HBw1.out (by omega) _⟩
      · have HF := hid (show res = betV (F (k - 1)) (F k) m2 m3 time from HRES.out.trans (if_neg hq))
        obtain ⟨hk0, hg⟩ : 0 < k ∧ F k 0 - F (k - 1) 0 ≤ 10000000 := by rcases HGAP.out with h | h; exact absurd h hq; exact h
        obtain ⟨q, rfl⟩ : ∃ q, k = q + 1 := ⟨k - 1, by omega⟩
        rw [Nat.add_sub_cancel] at HF hg
        have hl2 := HLT.out q (by omega)
        have HBT := hid (fun W => between_any (F q) (F (q + 1)) m0 m1 m2 m3 time W (HFIX.out q (by omega)) (HFIX.out (q + 1) (by omega)) hm2 hm3 (by omega) (by omega) (by omega))
        have hbq : (F (q + 1) 0 == time) = false := beq_eq_false_iff_ne.2 hq
        rw [show ((q + 1 : Nat) : Int) = (q : Int) + 1 from rfl]
        clear HRES HGAP
        go_wp2_with fail
        have hb9 : b < wr.heap.size := Nat.lt_of_lt_of_le hb HBwr.out.size
        clear z0
        refine gen_act (fun A0 hA => ?_)
        refine wp_region_last (by kernel_rfl) (by kernel_rfl) [some 29, some 30, some 31, some 32, some 33, some 34, some 35, some 36, some 37, some 38, some 39, some 40, none] rfl (by decide) 12 rfl (by kernel_rfl) (by kernel_rfl)
          [IsV (.slice (some ⟨b, o, none⟩) L C), IsV (.int .i64 ((q : Int) + 1)), IsV (.int .i64 (q : Int)), IsV (.pointer (some ⟨b, o + q * 10, none⟩)), IsV (.agg #[.int .i64 (F q 0), .int .i64 (F q 1), .int .i64 (F q 2), .int .i64 (F q 3), .int .i64 (F q 4), .int .i64 (F q 5), .int .i64 (F q 6), .int .i64 (F q 7), .int .i64 (F q 8), .int .i64 (F q 9)]), IsV (.slice (some ⟨b, o, none⟩) L C), IsV (.int .i64 ((q : Int) + 1)), IsV (.pointer (some ⟨b, o + (q + 1) * 10, none⟩)), IsV (.agg #[.int .i64 (F (q + 1) 0), .int .i64 (F (q + 1) 1), .int .i64 (F (q + 1) 2), .int .i64 (F (q + 1) 3), .int .i64 (F (q + 1) 4), .int .i64 (F (q + 1) 5), .int .i64 (F (q + 1) 6), .int .i64 (F (q + 1) 7), .int .i64 (F (q + 1) 8), .int .i64 (F (q + 1) 9)]), IsV (.agg #[.int .i64 m0, .int .i64 m1, .int .i64 m2, .int .i64 m3]), IsV (.int .i64 time), IsV (betV (F q) (F (q + 1)) m2 m3 time)]
          ⟨IsV.stb _, IsV.stb _, IsV.stb _, IsV.stb _, IsV.stb _, IsV.stb _, IsV.stb _, IsV.stb _, IsV.stb _, IsV.stb _, IsV.stb _, IsV.stb _, trivial⟩ ?hs1_6_W1 ?hlast_6_W1
        case hs1_6_W1 =>
          refine ⟨?_, ?_, ?_, ?_, ?_, ?_, ?_, ?_, ?_, ?_, ?_, ?_, trivial⟩
          · intro K us W hK0 hB hd
            have hK := hid hK0; clear hK0
            have HBW := hid hB
            have hsW := hB.size
            have GB := hid (HBwr.out.trans (hB.mono HBwr.out.size))
            clear hd
            simp only [putF]
            rw [hA]
            go_frame
            go_wp2_with fail
            exact hK.out _ _ _ (by rw [hA]; simp only [putF]; kernel_rfl) (Below.refl _ _) rfl
          · intro K us W hK0 hB hd
            have hK := hid hK0; clear hK0
            have HBW := hid hB
            have hsW := hB.size
            have GB := hid (HBwr.out.trans (hB.mono HBwr.out.size))
            clear hd
            simp only [putF]
            rw [hA]
            go_frame
            go_wp2_with fail
            exact hK.out _ _ _ (by rw [hA]; simp only [putF]; kernel_rfl) (Below.refl _ _) rfl
          · intro K us W hK0 hB hd
            have hK := hid hK0; clear hK0
            have HBW := hid hB
            have hsW := hB.size
            have GB := hid (HBwr.out.trans (hB.mono HBwr.out.size))
            have e1 : us 1 = .int .i64 ((q : Int) + 1) := hd ⟨1, Ground.data⟩ (by simp) rfl
            clear hd
            simp only [putF]
            rw [hA, e1]
            go_frame
            go_wp2_with fail
            exact hK.out _ _ _ (by rw [hA]; simp only [putF]; rw [e1]; kernel_rfl) (Below.refl _ _) rfl
          · intro K us W hK0 hB hd
            have hK := hid hK0; clear hK0
            have HBW := hid hB
            have hsW := hB.size
            have GB := hid (HBwr.out.trans (hB.mono HBwr.out.size))
            have e0 : us 0 = .slice (some ⟨b, o, none⟩) L C := hd ⟨0, Ground.data⟩ (by simp) rfl
            have e2 : us 2 = .int .i64 (q : Int) := hd ⟨2, Ground.data⟩ (by simp) rfl
            clear hd
            simp only [putF]
            rw [hA, e0, e2]
            go_frame
            go_wp2_with fail
            exact hK.out _ _ _ (by rw [hA]; simp only [putF]; rw [e0, e2]; kernel_rfl) (Below.refl _ _) rfl
          · intro K us W hK0 hB hd
            have hK := hid hK0; clear hK0
            have HBW := hid hB
            have hsW := hB.size
            have GB := hid (HBwr.out.trans (hB.mono HBwr.out.size))
            have e3 : us 3 = .pointer (some ⟨b, o + q * 10, none⟩) := hd ⟨3, Ground.data⟩ (by simp) rfl
            clear hd
            have hr := (HRW.out.still hB hb9) q (by omega)
            have c0 := hr 0 (by omega)
            simp only [Nat.add_zero] at c0
            have c1 := hr 1 (by omega)
            have c2 := hr 2 (by omega)
            have c3 := hr 3 (by omega)
            have c4 := hr 4 (by omega)
            have c5 := hr 5 (by omega)
            have c6 := hr 6 (by omega)
            have c7 := hr 7 (by omega)
            have c8 := hr 8 (by omega)
            have c9 := hr 9 (by omega)
            clear hr
            simp only [putF]
            rw [hA, e3]
            go_frame
            go_wp2_with fail
            exact hK.out _ _ _ (by rw [hA]; simp only [putF]; rw [e3]; kernel_rfl) (Below.refl _ _) rfl
          · intro K us W hK0 hB hd
            have hK := hid hK0; clear hK0
            have HBW := hid hB
            have hsW := hB.size
            have GB := hid (HBwr.out.trans (hB.mono HBwr.out.size))
            clear hd
            simp only [putF]
            rw [hA]
            go_frame
            go_wp2_with fail
            exact hK.out _ _ _ (by rw [hA]; simp only [putF]; kernel_rfl) (Below.refl _ _) rfl
          · intro K us W hK0 hB hd
            have hK := hid hK0; clear hK0
            have HBW := hid hB
            have hsW := hB.size
            have GB := hid (HBwr.out.trans (hB.mono HBwr.out.size))
            clear hd
            simp only [putF]
            rw [hA]
            go_frame
            go_wp2_with fail
            exact hK.out _ _ _ (by rw [hA]; simp only [putF]; kernel_rfl) (Below.refl _ _) rfl
          · intro K us W hK0 hB hd
            have hK := hid hK0; clear hK0
            have HBW := hid hB
            have hsW := hB.size
            have GB := hid (HBwr.out.trans (hB.mono HBwr.out.size))
            have e5 : us 5 = .slice (some ⟨b, o, none⟩) L C := hd ⟨5, Ground.data⟩ (by simp) rfl
            have e6 : us 6 = .int .i64 ((q : Int) + 1) := hd ⟨6, Ground.data⟩ (by simp) rfl
            clear hd
            simp only [putF]
            rw [hA, e5, e6]
            go_frame
            go_wp2_with fail
            exact hK.out _ _ _ (by rw [hA]; simp only [putF]; rw [e5, e6]; kernel_rfl) (Below.refl _ _) rfl
          · intro K us W hK0 hB hd
            have hK := hid hK0; clear hK0
            have HBW := hid hB
            have hsW := hB.size
            have GB := hid (HBwr.out.trans (hB.mono HBwr.out.size))
            have e7 : us 7 = .pointer (some ⟨b, o + (q + 1) * 10, none⟩) := hd ⟨7, Ground.data⟩ (by simp) rfl
            clear hd
            have hr := (HRW.out.still hB hb9) (q + 1) (by omega)
            have c0 := hr 0 (by omega)
            simp only [Nat.add_zero] at c0
            have c1 := hr 1 (by omega)
            have c2 := hr 2 (by omega)
            have c3 := hr 3 (by omega)
            have c4 := hr 4 (by omega)
            have c5 := hr 5 (by omega)
            have c6 := hr 6 (by omega)
            have c7 := hr 7 (by omega)
            have c8 := hr 8 (by omega)
            have c9 := hr 9 (by omega)
            clear hr
            simp only [putF]
            rw [hA, e7]
            go_frame
            go_wp2_with fail
            exact hK.out _ _ _ (by rw [hA]; simp only [putF]; rw [e7]; kernel_rfl) (Below.refl _ _) rfl
          · intro K us W hK0 hB hd
            have hK := hid hK0; clear hK0
            have HBW := hid hB
            have hsW := hB.size
            have GB := hid (HBwr.out.trans (hB.mono HBwr.out.size))
            clear hd
            have G0 := hid (heap_still hB HM.out)
            have c0 : W.cell? ⟨w.heap.size, 0, none⟩ = some (.int .i64 m0) := (cell_row (j := 0) G0.out).trans rfl
            have c1 : W.cell? ⟨w.heap.size, 1, none⟩ = some (.int .i64 m1) := (cell_row (j := 1) G0.out).trans rfl
            have c2 : W.cell? ⟨w.heap.size, 2, none⟩ = some (.int .i64 m2) := (cell_row (j := 2) G0.out).trans rfl
            have c3 : W.cell? ⟨w.heap.size, 3, none⟩ = some (.int .i64 m3) := (cell_row (j := 3) G0.out).trans rfl
            simp only [putF]
            rw [hA]
            go_frame
            go_wp2_with fail
            exact hK.out _ _ _ (by rw [hA]; simp only [putF]; kernel_rfl) (Below.refl _ _) rfl
          · intro K us W hK0 hB hd
            have hK := hid hK0; clear hK0
            have HBW := hid hB
            have hsW := hB.size
            have GB := hid (HBwr.out.trans (hB.mono HBwr.out.size))
            clear hd
            simp only [putF]
            rw [hA]
            go_frame
            go_wp2_with fail
            exact hK.out _ _ _ (by rw [hA]; simp only [putF]; kernel_rfl) (Below.refl _ _) rfl
          · intro K us W hK0 hB hd
            have hK := hid hK0; clear hK0
            have HBW := hid hB
            have hsW := hB.size
            have GB := hid (HBwr.out.trans (hB.mono HBwr.out.size))
            have e4 : us 4 = .agg #[.int .i64 (F q 0), .int .i64 (F q 1), .int .i64 (F q 2), .int .i64 (F q 3), .int .i64 (F q 4), .int .i64 (F q 5), .int .i64 (F q 6), .int .i64 (F q 7), .int .i64 (F q 8), .int .i64 (F q 9)] := hd ⟨4, Ground.data⟩ (by simp) rfl
            have e8 : us 8 = .agg #[.int .i64 (F (q + 1) 0), .int .i64 (F (q + 1) 1), .int .i64 (F (q + 1) 2), .int .i64 (F (q + 1) 3), .int .i64 (F (q + 1) 4), .int .i64 (F (q + 1) 5), .int .i64 (F (q + 1) 6), .int .i64 (F (q + 1) 7), .int .i64 (F (q + 1) 8), .int .i64 (F (q + 1) 9)] := hd ⟨8, Ground.data⟩ (by simp) rfl
            have e9 : us 9 = .agg #[.int .i64 m0, .int .i64 m1, .int .i64 m2, .int .i64 m3] := hd ⟨9, Ground.data⟩ (by simp) rfl
            have e10 : us 10 = .int .i64 time := hd ⟨10, Ground.data⟩ (by simp) rfl
            clear hd
            simp only [putF]
            rw [hA, e4, e8, e9, e10]
            go_frame
            go_wp2_with fail
            refine (HBT.out W).mono ?_
            rintro r W' ⟨rfl, hb⟩
            go_wp2_with fail
            exact hK.out _ _ _ (by rw [hA]; simp only [putF]; rw [e4, e8, e9, e10]; kernel_rfl) hb rfl
        intro K us W1 hK0 hB hp
        have hK := hid hK0
        clear hK0
        have e11 : us 11 = betV (F q) (F (q + 1)) m2 m3 time := hp 11 (by decide)
        have HB1 := hid (HBwr.out.trans (hB.mono HBwr.out.size))
        have HSW1 := hid (fun n x => @heap_still _ _ n x hB)
        have hzW1 := hB.size
        have hbW1 := hid hB
        clear hp
        simp only [putF]
        rw [hA, e11]
        skip
        go_frame
        go_wp2_with (refine wpList_store_at rfl 80 (.tmp 6) (.tmp 40) rfl rfl rfl (HSW1.out _ _ HD.out) size80b rfl rfl rfl ?_)
        refine hK.out undef _ _ (by rw [hA]; simp only [putF]; rw [e11]; kernel_rfl) ?_
        clear hK hB hA e11
        have HD1 := hid (HSW1.out _ _ HD.out)
        go_wp2_with fail
        refine bodyPost_ret (results_at1 rfl rfl (setRow_heap _ _ _ _ _ _ HD1.out) Try.underlying80 rfl size80b rfl) rfl ?_
        exact ⟨by rw [HF.out]; rfl, below_setRow HB1.out (by omega) _⟩
end Go.Proofs.Yteoikaedpgianaa
