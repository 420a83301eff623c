/- The reference's PoseOver, the span to be valid. -/
import Derived.Test.YteoikaedpgianaaPoseOver
import Derived.Test.YteoikaedpgianaaRPose
namespace Go.Proofs.Yteoikaedpgianaa
open Go.RowKit Limb

set_option maxRecDepth 100000 in
set_option maxHeartbeats 64000000 in
theorem rPoseOver_yes (ad : Option Addr) (n c : Nat) (A : Nat → Option Addr) (L C : Nat → Nat) (F : Nat → Nat → Nat → Int) (m0 m1 m2 m3 t0 t1 : Int) (w : World) (hn : n ≤ 9223372036854775807) (hL : ∀ p, L p ≤ 9223372036854775807) (ht : trackAny w ad n A L C F) :
    Calls Try.prog 64 #[.agg #[.slice ad n c], .agg #[.int .i64 m0, .int .i64 m1, .int .i64 m2, .int .i64 m3], .agg #[.int .i64 t0, .int .i64 t1], .bool true] w fun e w' => e = .returned (poseOverV true m0 m1 m2 m3 n L F t0 t1) ∧ Below w.heap.size w w' := by
  have HBw := hid (Below.refl w.heap.size w)
  have HT := hid (fun W (h : Below w.heap.size w W) => rTrack_any ad n c A L C F m0 m1 m2 m3 W (by omega) (fun p => by have := hL p; omega) (ht.still h))
  have HTR := hid ht
  have HL := hid hL
  obtain ⟨res, hres⟩ : ∃ r, r = poseOverV true m0 m1 m2 m3 n L F t0 t1 := ⟨_, rfl⟩
  rw [← hres]
  have HRES := hid hres
  clear ht hres hL
  have hB9 := HBw.out
  by_cases hru : rulesB m0 m1 m2 m3 = true
  · have HRU := hid hru
    by_cases htb : trackB m0 m1 m2 m3 n L F = true
    · have HTB := hid htb
      have H1 := hid (show checkV m0 m1 m2 m3 n L F = 0 by unfold checkV; rw [if_neg (by rw [hru]; decide), if_neg (by rw [htb]; decide)])
      have HP := hid (fun t W (h : Below w.heap.size w W) => rPart_any ad n c A L C F t W (by omega) (fun p => by have := HL.out p; omega) (HTR.out.still h) (fun p hp => (track_part htb hp).1))
      have hmb : m0 ≤ 10000000 ∧ (0 ≤ m1 ∧ m1 ≤ 1000000) ∧ (0 ≤ m2 ∧ m2 ≤ 100000) ∧ (0 ≤ m3 ∧ m3 ≤ 10000000) := by simp [rulesB, inB] at hru; omega
      clear htb hru
      by_cases hs : spanB t0 t1 = true
      · have HS := hid hs
        have HO := hid (show t0 ≤ t1 by simp [spanB] at hs; omega)
        have HSP := hid (show (true && !spanB t0 t1) = false by rw [hs]; rfl)
        clear hs
        rcases firstN_range (inPart L F t0) n with hf | ⟨p, hp, hf, hq⟩
        · have HF := hid hf
          have HRES2 := hid (show res = .tuple #[zeroPose, .int .i64 44] by rw [HRES.out]; unfold poseOverV; rw [if_neg (fun h => h H1.out), HSP.out, if_neg (by decide), if_pos (Or.inl (by rw [hf]; decide))])
          clear HRES hf HSP
          go_enter Try.func64, Try.ntmps64
          go_wp2_with fail
          refine (rRules_any _ _ _ _ _).mono ?_
          rintro r w1 ⟨rfl, hb⟩
          have HBw1 := hid (show Below w.heap.size w w1 by have hB0 := HBw.out; refine Below.trans ?_ (hb.mono ?_); (focus ((repeat' (first | (with_reducible exact Below.refl _ _) | (with_reducible assumption) | (with_reducible refine Below.alloc ?_ ?_ _) | (with_reducible refine Below.drew ?_) | (with_reducible refine below_drewN ?_ _) | (with_reducible refine Below.setCell ?_ ?_ _) | (with_reducible refine below_setRow ?_ ?_ _) | go_size)); done)); (focus (first | (simp; done) | (simp; omega) | (have hB1 := hB0.size; simp; omega))))
          have hsw1 := hb.size
          (try simp at hsw1)
          have hzw1 : w.heap.size < w1.heap.size := by omega
          obtain ⟨hcw1, hfw1⟩ := bcell hb
          have hkw1 := hid (fun n x => @heap_still _ _ n x hb)
          clear hb
          have A1 := hid (hkw1.out _ _ (by repeat' (first | (refine heap_alloc_at _ _ _ ?_; (first | rfl | (simp; done) | (simp; omega))) | (refine heap_alloc_past _ _ _ _ ?_))) : w1.heap[w.heap.size]? = some (.cells #[.slice ad n c] 64))
          have M1 := hid (hkw1.out _ _ (by repeat' (first | (refine heap_alloc_at _ _ _ ?_; (first | rfl | (simp; done) | (simp; omega))) | (refine heap_alloc_past _ _ _ _ ?_))) : w1.heap[w.heap.size + 1]? = some (.cells #[.int .i64 m0, .int .i64 m1, .int .i64 m2, .int .i64 m3] 61))
          have T1 := hid (hkw1.out _ _ (by repeat' (first | (refine heap_alloc_at _ _ _ ?_; (first | rfl | (simp; done) | (simp; omega))) | (refine heap_alloc_past _ _ _ _ ?_))) : w1.heap[w.heap.size + 1 + 1]? = some (.cells #[.int .i64 t0, .int .i64 t1] 44))
          have D1 := hid (hkw1.out _ _ (by repeat' (first | (refine heap_alloc_at _ _ _ ?_; (first | rfl | (simp; done) | (simp; omega))) | (refine heap_alloc_past _ _ _ _ ?_))) : w1.heap[w.heap.size + 1 + 1 + 1]? = some (.cells #[.int .i64 0, .int .i64 0, .int .i64 0, .int .i64 0, .int .i64 0, .int .i64 0, .int .i64 0, .int .i64 0, .int .i64 0, .int .i64 0, .int .i64 0] 80))
          clear hcw1 hfw1
          rw [HRU.out]
          go_wp2_with (first | (refine wpList_load_at rfl 61 (.tmp 5) rfl rfl M1.out Try.underlying61 rfl size61 rfl ?_) | (refine wpList_load_at rfl 64 (.tmp 4) rfl rfl A1.out Try.underlying64 rfl size64 rfl ?_))
          refine (HT.out _ HBw1.out).mono ?_
          rintro r w2 ⟨rfl, hb⟩
          have HBw2 := hid (show Below w.heap.size w w2 by have hB0 := HBw1.out; refine Below.trans ?_ (hb.mono ?_); (focus ((repeat' (first | (with_reducible exact Below.refl _ _) | (with_reducible assumption) | (with_reducible refine Below.alloc ?_ ?_ _) | (with_reducible refine Below.drew ?_) | (with_reducible refine below_drewN ?_ _) | (with_reducible refine Below.setCell ?_ ?_ _) | (with_reducible refine below_setRow ?_ ?_ _) | go_size)); done)); (focus (first | (simp; done) | (simp; omega) | (have hB1 := hB0.size; simp; omega))))
          have hsw2 := hb.size
          (try simp at hsw2)
          have hzw2 : w.heap.size < w2.heap.size := by omega
          obtain ⟨hcw2, hfw2⟩ := bcell hb
          have hkw2 := hid (fun n x => @heap_still _ _ n x hb)
          clear hb
          rw [HTB.out]
          have A2 := hid (hkw2.out _ _ A1.out)
          have M2 := hid (hkw2.out _ _ M1.out)
          have T2 := hid (hkw2.out _ _ T1.out)
          have D2 := hid (hkw2.out _ _ D1.out)
          clear hcw2 hfw2
          go_wp2_with (first | (refine wpList_load_at rfl 44 (.tmp 6) rfl rfl T2.out Try.underlying44 rfl size44 rfl ?_))
          refine (rvalid_any _ _ _).mono ?_
          rintro r w3 ⟨rfl, hb⟩
          have HBw3 := hid (show Below w.heap.size w w3 by have hB0 := HBw2.out; refine Below.trans ?_ (hb.mono ?_); (focus ((repeat' (first | (with_reducible exact Below.refl _ _) | (with_reducible assumption) | (with_reducible refine Below.alloc ?_ ?_ _) | (with_reducible refine Below.drew ?_) | (with_reducible refine below_drewN ?_ _) | (with_reducible refine Below.setCell ?_ ?_ _) | (with_reducible refine below_setRow ?_ ?_ _) | go_size)); done)); (focus (first | (simp; done) | (simp; omega) | (have hB1 := hB0.size; simp; omega))))
          have hsw3 := hb.size
          (try simp at hsw3)
          have hzw3 : w.heap.size < w3.heap.size := by omega
          obtain ⟨hcw3, hfw3⟩ := bcell hb
          have hkw3 := hid (fun n x => @heap_still _ _ n x hb)
          clear hb
          rw [HS.out]
          have A3 := hid (hkw3.out _ _ A2.out)
          have M3 := hid (hkw3.out _ _ M2.out)
          have T3 := hid (hkw3.out _ _ T2.out)
          have D3 := hid (hkw3.out _ _ D2.out)
          clear hcw3 hfw3
          have ct0 : w3.cell? ⟨w.heap.size + 1 + 1, 0, none⟩ = some (.int .i64 t0) := (cell_row (j := 0) T3.out).trans rfl
          go_wp2_with (first | (refine wpList_load_at rfl 64 (.tmp 4) rfl rfl A3.out Try.underlying64 rfl size64 rfl ?_))
          refine (HP.out t0 _ HBw3.out).mono ?_
          rintro r w4 ⟨rfl, hb⟩
          have HBw4 := hid (show Below w.heap.size w w4 by have hB0 := HBw3.out; refine Below.trans ?_ (hb.mono ?_); (focus ((repeat' (first | (with_reducible exact Below.refl _ _) | (with_reducible assumption) | (with_reducible refine Below.alloc ?_ ?_ _) | (with_reducible refine Below.drew ?_) | (with_reducible refine below_drewN ?_ _) | (with_reducible refine Below.setCell ?_ ?_ _) | (with_reducible refine below_setRow ?_ ?_ _) | go_size)); done)); (focus (first | (simp; done) | (simp; omega) | (have hB1 := hB0.size; simp; omega))))
          have hsw4 := hb.size
          (try simp at hsw4)
          have hzw4 : w.heap.size < w4.heap.size := by omega
          obtain ⟨hcw4, hfw4⟩ := bcell hb
          have hkw4 := hid (fun n x => @heap_still _ _ n x hb)
          clear hb
          have A4 := hid (hkw4.out _ _ A3.out)
          have M4 := hid (hkw4.out _ _ M3.out)
          have T4 := hid (hkw4.out _ _ T3.out)
          have D4 := hid (hkw4.out _ _ D3.out)
          clear hcw4 hfw4
          clear ct0
          rw [HF.out]
          go_wp2_with (refine wpList_store_at rfl 80 (.tmp 8) (.tmp 45) rfl rfl rfl D4.out size80b rfl rfl rfl ?_)
          refine bodyPost_ret (results_at2 rfl rfl (setRow_heap _ _ _ _ _ _ D4.out) Try.underlying80 rfl size80b rfl) rfl ?_
          exact ⟨by rw [HRES2.out]; rfl, below_setRow HBw4.out (by omega) _⟩
        · have HF := hid hf
          obtain ⟨K, hKe, hK1, hK2, hK3, hK4, hK5⟩ := part_ready HTB.out hp hq
          have hpt : (firstN (inPart L F t0) n).toNat = p := by rw [hf]; rfl
          by_cases hz : firstN (inPart L F t1) n = (p : Int)
          · have HZ := hid hz
            have HRES2 := hid (show res = .tuple #[poseR (overN (inN (F p) K m2 m3 t0) (upV m1 (t1 - t0) 1000000) (upV m3 (t1 - t0) 1000000)), .int .i64 0] by
              rw [HRES.out]; unfold poseOverV; rw [if_neg (fun h => h H1.out), HSP.out, if_neg (by decide), if_neg (by rw [hf, hz]; omega), hpt, ← hKe])
            obtain ⟨b, off, hadd, hbw, htr⟩ := HTR.out (by omega)
            obtain ⟨d0, hpp⟩ := htr p hp
            obtain ⟨b', o', ha, hb', hrec⟩ := hpp (by omega)
            rw [ha] at d0
            have HD0 := hid d0
            have HIN := hid (fun W (h : Below w.heap.size w W) => rpose_any b' o' (L p) (C p) K (F p) m0 m1 m2 m3 t0 W (Nat.lt_of_lt_of_le hb' h.size) (hrec.still h hb') (HL.out p) hK1 hK2 hK3 (fun h => by have := ((track_part HTB.out hp).2.2 K h).1; omega) hK4 hmb.2.2.1 hmb.2.2.2 (by rcases hK5 with h | h; exact Or.inl h; exact Or.inr ⟨h.1, by omega⟩))
            obtain ⟨hpb, hpg⟩ := inN_bd (m2 := m2) (m3 := m3) hK4 hK2 hK3 hmb.2.2.1 hmb.2.2.2 (by rcases hK5 with h | h; exact Or.inl h; exact Or.inr ⟨h.1, by omega⟩)
            rw [inV_N] at HIN
            have hlen : 0 ≤ t1 - t0 ∧ t1 - t0 ≤ 1125899906842624 := by
              have hq1 : inPart L F t1 p = true := by
                rcases firstN_range (inPart L F t1) n with h | ⟨p', _, h2, h3⟩
                · rw [hz] at h; omega
                · have : p' = p := by omega
                  subst this; exact h3
              obtain ⟨l1, l2, _⟩ := track_part HTB.out hp
              have f0 := fixF_time (l2 0 l1)
              have f1 := fixF_time (l2 (L p - 1) (by omega))
              have hsp := HO.out
              simp [inPart] at hq hq1
              omega
            have hwd : 0 ≤ upV m1 (t1 - t0) 1000000 ∧ upV m1 (t1 - t0) 1000000 ≤ 1125899906842624 := by
              have h1 := mul_in (x := m1) (y := t1 - t0) (l := 1000000) (m := 1125899906842624) (by omega) hlen
              have h2 : 0 ≤ m1 * (t1 - t0) := Int.mul_nonneg hmb.2.1.1 hlen.1
              unfold upV
              omega
            have hgd : 0 ≤ upV m3 (t1 - t0) 1000000 ∧ upV m3 (t1 - t0) 1000000 ≤ 11258999068426240 := by
              have h1 := mul_in (x := m3) (y := t1 - t0) (l := 10000000) (m := 1125899906842624) (by omega) hlen
              have h2 : 0 ≤ m3 * (t1 - t0) := Int.mul_nonneg hmb.2.2.2.1 hlen.1
              unfold upV
              omega
            have HSW1 := hid (fun W => up_any m1 (t1 - t0) 1000000 W (by omega) (by omega) (by decide) (by omega))
            have HSW3 := hid (fun W => up_any m3 (t1 - t0) 1000000 W (by omega) (by omega) (by decide) (by omega))
            have HADD := hid hadd
            have q0 := hpb 0 (by decide)
            have q1 := hpb 1 (by decide)
            have q2 := hpb 2 (by decide)
            have q3 := hpb 3 (by decide)
            have q4 := hpb 4 (by decide)
            have q5 := hpb 5 (by decide)
            clear hadd HRES hf hq hK1 hK2 hK3 hK4 hK5 hpt htr hpp d0 hrec ha hKe hz hpb HSP HO
            generalize inN (F p) K m2 m3 t0 = pn at *
            generalize upV m1 (t1 - t0) 1000000 = wd at *
            generalize upV m3 (t1 - t0) 1000000 = gd at *
            go_enter Try.func64, Try.ntmps64
            go_wp2_with fail
            refine (rRules_any _ _ _ _ _).mono ?_
            rintro r w1 ⟨rfl, hb⟩
            have HBw1 := hid (show Below w.heap.size w w1 by have hB0 := HBw.out; refine Below.trans ?_ (hb.mono ?_); (focus ((repeat' (first | (with_reducible exact Below.refl _ _) | (with_reducible assumption) | (with_reducible refine Below.alloc ?_ ?_ _) | (with_reducible refine Below.drew ?_) | (with_reducible refine below_drewN ?_ _) | (with_reducible refine Below.setCell ?_ ?_ _) | (with_reducible refine below_setRow ?_ ?_ _) | go_size)); done)); (focus (first | (simp; done) | (simp; omega) | (have hB1 := hB0.size; simp; omega))))
            have hsw1 := hb.size
            (try simp at hsw1)
            have hzw1 : w.heap.size < w1.heap.size := by omega
            obtain ⟨hcw1, hfw1⟩ := bcell hb
            have hkw1 := hid (fun n x => @heap_still _ _ n x hb)
            clear hb
            have A1 := hid (hkw1.out _ _ (by repeat' (first | (refine heap_alloc_at _ _ _ ?_; (first | rfl | (simp; done) | (simp; omega))) | (refine heap_alloc_past _ _ _ _ ?_))) : w1.heap[w.heap.size]? = some (.cells #[.slice ad n c] 64))
            have M1 := hid (hkw1.out _ _ (by repeat' (first | (refine heap_alloc_at _ _ _ ?_; (first | rfl | (simp; done) | (simp; omega))) | (refine heap_alloc_past _ _ _ _ ?_))) : w1.heap[w.heap.size + 1]? = some (.cells #[.int .i64 m0, .int .i64 m1, .int .i64 m2, .int .i64 m3] 61))
            have T1 := hid (hkw1.out _ _ (by repeat' (first | (refine heap_alloc_at _ _ _ ?_; (first | rfl | (simp; done) | (simp; omega))) | (refine heap_alloc_past _ _ _ _ ?_))) : w1.heap[w.heap.size + 1 + 1]? = some (.cells #[.int .i64 t0, .int .i64 t1] 44))
            have D1 := hid (hkw1.out _ _ (by repeat' (first | (refine heap_alloc_at _ _ _ ?_; (first | rfl | (simp; done) | (simp; omega))) | (refine heap_alloc_past _ _ _ _ ?_))) : w1.heap[w.heap.size + 1 + 1 + 1]? = some (.cells #[.int .i64 0, .int .i64 0, .int .i64 0, .int .i64 0, .int .i64 0, .int .i64 0, .int .i64 0, .int .i64 0, .int .i64 0, .int .i64 0, .int .i64 0] 80))
            clear hcw1 hfw1
            rw [HRU.out]
            go_wp2_with (first | (refine wpList_load_at rfl 61 (.tmp 5) rfl rfl M1.out Try.underlying61 rfl size61 rfl ?_) | (refine wpList_load_at rfl 64 (.tmp 4) rfl rfl A1.out Try.underlying64 rfl size64 rfl ?_))
            refine (HT.out _ HBw1.out).mono ?_
            rintro r w2 ⟨rfl, hb⟩
            have HBw2 := hid (show Below w.heap.size w w2 by have hB0 := HBw1.out; refine Below.trans ?_ (hb.mono ?_); (focus ((repeat' (first | (with_reducible exact Below.refl _ _) | (with_reducible assumption) | (with_reducible refine Below.alloc ?_ ?_ _) | (with_reducible refine Below.drew ?_) | (with_reducible refine below_drewN ?_ _) | (with_reducible refine Below.setCell ?_ ?_ _) | (with_reducible refine below_setRow ?_ ?_ _) | go_size)); done)); (focus (first | (simp; done) | (simp; omega) | (have hB1 := hB0.size; simp; omega))))
            have hsw2 := hb.size
            (try simp at hsw2)
            have hzw2 : w.heap.size < w2.heap.size := by omega
            obtain ⟨hcw2, hfw2⟩ := bcell hb
            have hkw2 := hid (fun n x => @heap_still _ _ n x hb)
            clear hb
            rw [HTB.out]
            have A2 := hid (hkw2.out _ _ A1.out)
            have M2 := hid (hkw2.out _ _ M1.out)
            have T2 := hid (hkw2.out _ _ T1.out)
            have D2 := hid (hkw2.out _ _ D1.out)
            clear hcw2 hfw2
            go_wp2_with (first | (refine wpList_load_at rfl 44 (.tmp 6) rfl rfl T2.out Try.underlying44 rfl size44 rfl ?_))
            refine (rvalid_any _ _ _).mono ?_
            rintro r w3 ⟨rfl, hb⟩
            have HBw3 := hid (show Below w.heap.size w w3 by have hB0 := HBw2.out; refine Below.trans ?_ (hb.mono ?_); (focus ((repeat' (first | (with_reducible exact Below.refl _ _) | (with_reducible assumption) | (with_reducible refine Below.alloc ?_ ?_ _) | (with_reducible refine Below.drew ?_) | (with_reducible refine below_drewN ?_ _) | (with_reducible refine Below.setCell ?_ ?_ _) | (with_reducible refine below_setRow ?_ ?_ _) | go_size)); done)); (focus (first | (simp; done) | (simp; omega) | (have hB1 := hB0.size; simp; omega))))
            have hsw3 := hb.size
            (try simp at hsw3)
            have hzw3 : w.heap.size < w3.heap.size := by omega
            obtain ⟨hcw3, hfw3⟩ := bcell hb
            have hkw3 := hid (fun n x => @heap_still _ _ n x hb)
            clear hb
            rw [HS.out]
            have A3 := hid (hkw3.out _ _ A2.out)
            have M3 := hid (hkw3.out _ _ M2.out)
            have T3 := hid (hkw3.out _ _ T2.out)
            have D3 := hid (hkw3.out _ _ D2.out)
            clear hcw3 hfw3
            have ct0 : w3.cell? ⟨w.heap.size + 1 + 1, 0, none⟩ = some (.int .i64 t0) := (cell_row (j := 0) T3.out).trans rfl
            go_wp2_with (first | (refine wpList_load_at rfl 64 (.tmp 4) rfl rfl A3.out Try.underlying64 rfl size64 rfl ?_))
            refine (HP.out t0 _ HBw3.out).mono ?_
            rintro r w4 ⟨rfl, hb⟩
            have HBw4 := hid (show Below w.heap.size w w4 by have hB0 := HBw3.out; refine Below.trans ?_ (hb.mono ?_); (focus ((repeat' (first | (with_reducible exact Below.refl _ _) | (with_reducible assumption) | (with_reducible refine Below.alloc ?_ ?_ _) | (with_reducible refine Below.drew ?_) | (with_reducible refine below_drewN ?_ _) | (with_reducible refine Below.setCell ?_ ?_ _) | (with_reducible refine below_setRow ?_ ?_ _) | go_size)); done)); (focus (first | (simp; done) | (simp; omega) | (have hB1 := hB0.size; simp; omega))))
            have hsw4 := hb.size
            (try simp at hsw4)
            have hzw4 : w.heap.size < w4.heap.size := by omega
            obtain ⟨hcw4, hfw4⟩ := bcell hb
            have hkw4 := hid (fun n x => @heap_still _ _ n x hb)
            clear hb
            have A4 := hid (hkw4.out _ _ A3.out)
            have M4 := hid (hkw4.out _ _ M3.out)
            have T4 := hid (hkw4.out _ _ T3.out)
            have D4 := hid (hkw4.out _ _ D3.out)
            clear hcw4 hfw4
            clear ct0
            rw [HF.out]
            have ct0 : w4.cell? ⟨w.heap.size + 1 + 1, 1, none⟩ = some (.int .i64 t1) := (cell_row (j := 1) T4.out).trans rfl
            go_wp2_with (first | (refine wpList_load_at rfl 64 (.tmp 4) rfl rfl A4.out Try.underlying64 rfl size64 rfl ?_))
            refine (HP.out t1 _ HBw4.out).mono ?_
            rintro r w5 ⟨rfl, hb⟩
            have HBw5 := hid (show Below w.heap.size w w5 by have hB0 := HBw4.out; refine Below.trans ?_ (hb.mono ?_); (focus ((repeat' (first | (with_reducible exact Below.refl _ _) | (with_reducible assumption) | (with_reducible refine Below.alloc ?_ ?_ _) | (with_reducible refine Below.drew ?_) | (with_reducible refine below_drewN ?_ _) | (with_reducible refine Below.setCell ?_ ?_ _) | (with_reducible refine below_setRow ?_ ?_ _) | go_size)); done)); (focus (first | (simp; done) | (simp; omega) | (have hB1 := hB0.size; simp; omega))))
            have hsw5 := hb.size
            (try simp at hsw5)
            have hzw5 : w.heap.size < w5.heap.size := by omega
            obtain ⟨hcw5, hfw5⟩ := bcell hb
            have hkw5 := hid (fun n x => @heap_still _ _ n x hb)
            clear hb
            have A5 := hid (hkw5.out _ _ A4.out)
            have M5 := hid (hkw5.out _ _ M4.out)
            have T5 := hid (hkw5.out _ _ T4.out)
            have D5 := hid (hkw5.out _ _ D4.out)
            clear hcw5 hfw5
            clear ct0
            rw [HZ.out]
            have hadd := HADD.out
            subst hadd
            clear HADD
            go_wp2_with fail
            have hb2 : b < w5.heap.size := Nat.lt_of_lt_of_le hbw HBw5.out.size
            have E5 := hid (show w5.cell? ⟨b, off + p, none⟩ = some (.slice (some ⟨b', o', none⟩) (L p) (C p)) by rw [HBw5.out.cell hbw]; exact HD0.out)
            refine gen_act (fun A0 hA => ?_)
            refine wp_region_last (by kernel_rfl) (by kernel_rfl) [some 46, some 47, some 48, some 49, some 50, some 51, some 52, some 53, some 54, some 11, none] rfl (by decide) 10 rfl (by kernel_rfl) (by kernel_rfl)
              [IsV (.pointer (some ⟨w.heap.size, 0, none⟩)), IsV (.slice (some ⟨b, off, none⟩) n c), IsV (.int .i64 (p : Int)), IsV (.pointer (some ⟨b, off + p, none⟩)), IsV (.slice (some ⟨b', o', none⟩) (L p) (C p)), IsV (.agg #[.int .i64 m0, .int .i64 m1, .int .i64 m2, .int .i64 m3]), IsV (.pointer (some ⟨w.heap.size + 1 + 1, 0, none⟩)), IsV (.int .i64 t0), IsV (poseR pn), Fresh80 w5.heap.size]
              ⟨IsV.stb _, IsV.stb _, IsV.stb _, IsV.stb _, IsV.stb _, IsV.stb _, IsV.stb _, IsV.stb _, IsV.stb _, Fresh80.stb _, trivial⟩ ?hs1_10_W6ROYES ?hlast_10_W6ROYES
            case hs1_10_W6ROYES =>
              refine ⟨?_, ?_, ?_, ?_, ?_, ?_, ?_, ?_, ?_, ?_, trivial⟩
              · intro K us W hK0 hB hd
                have hK := hid hK0; clear hK0
                have HBW := hid hB
                have hsW := hB.size
                have GB := hid (HBw5.out.trans (hB.mono HBw5.out.size))
                clear hd
                go_light
                simp only [putF]
                rw [hA]
                go_frame
                go_wp2_with fail
                exact hK.out _ _ _ (by rw [hA]; simp only [putF]; kernel_rfl) (Below.refl _ _) rfl
              · intro K us W hK0 hB hd
                have hK := hid hK0; clear hK0
                have HBW := hid hB
                have hsW := hB.size
                have GB := hid (HBw5.out.trans (hB.mono HBw5.out.size))
                have e0 : us 0 = .pointer (some ⟨w.heap.size, 0, none⟩) := hd ⟨0, Ground.data⟩ (by simp) rfl
                clear hd
                go_light
                have c0 : W.cell? ⟨w.heap.size, 0, none⟩ = some (.slice (some ⟨b, off, none⟩) n c) := (cell_row (j := 0) (heap_still hB A5.out)).trans rfl
                simp only [putF]
                rw [hA, e0]
                go_frame
                go_wp2_with fail
                exact hK.out _ _ _ (by rw [hA]; simp only [putF]; rw [e0]; kernel_rfl) (Below.refl _ _) rfl
              · intro K us W hK0 hB hd
                have hK := hid hK0; clear hK0
                have HBW := hid hB
                have hsW := hB.size
                have GB := hid (HBw5.out.trans (hB.mono HBw5.out.size))
                clear hd
                go_light
                simp only [putF]
                rw [hA]
                go_frame
                go_wp2_with fail
                exact hK.out _ _ _ (by rw [hA]; simp only [putF]; kernel_rfl) (Below.refl _ _) rfl
              · intro K us W hK0 hB hd
                have hK := hid hK0; clear hK0
                have HBW := hid hB
                have hsW := hB.size
                have GB := hid (HBw5.out.trans (hB.mono HBw5.out.size))
                have e1 : us 1 = .slice (some ⟨b, off, none⟩) n c := hd ⟨1, Ground.data⟩ (by simp) rfl
                have e2 : us 2 = .int .i64 (p : Int) := hd ⟨2, Ground.data⟩ (by simp) rfl
                clear hd
                go_light
                simp only [putF]
                rw [hA, e1, e2]
                go_frame
                go_wp2_with fail
                exact hK.out _ _ _ (by rw [hA]; simp only [putF]; rw [e1, e2]; kernel_rfl) (Below.refl _ _) rfl
              · intro K us W hK0 hB hd
                have hK := hid hK0; clear hK0
                have HBW := hid hB
                have hsW := hB.size
                have GB := hid (HBw5.out.trans (hB.mono HBw5.out.size))
                have e3 : us 3 = .pointer (some ⟨b, off + p, none⟩) := hd ⟨3, Ground.data⟩ (by simp) rfl
                clear hd
                go_light
                have c0 : W.cell? ⟨b, off + p, none⟩ = some (.slice (some ⟨b', o', none⟩) (L p) (C p)) := by rw [hB.cell hb2]; exact E5.out
                simp only [putF]
                rw [hA, e3]
                go_frame
                go_wp2_with fail
                exact hK.out _ _ _ (by rw [hA]; simp only [putF]; rw [e3]; kernel_rfl) (Below.refl _ _) rfl
              · intro K us W hK0 hB hd
                have hK := hid hK0; clear hK0
                have HBW := hid hB
                have hsW := hB.size
                have GB := hid (HBw5.out.trans (hB.mono HBw5.out.size))
                clear hd
                go_light
                have G0 := hid (heap_still hB M5.out)
                have c0 : W.cell? ⟨w.heap.size + 1, 0, none⟩ = some (.int .i64 m0) := (cell_row (j := 0) G0.out).trans rfl
                have c1 : W.cell? ⟨w.heap.size + 1, 1, none⟩ = some (.int .i64 m1) := (cell_row (j := 1) G0.out).trans rfl
                have c2 : W.cell? ⟨w.heap.size + 1, 2, none⟩ = some (.int .i64 m2) := (cell_row (j := 2) G0.out).trans rfl
                have c3 : W.cell? ⟨w.heap.size + 1, 3, none⟩ = some (.int .i64 m3) := (cell_row (j := 3) G0.out).trans rfl
                simp only [putF]
                rw [hA]
                go_frame
                go_wp2_with fail
                exact hK.out _ _ _ (by rw [hA]; simp only [putF]; kernel_rfl) (Below.refl _ _) rfl
              · intro K us W hK0 hB hd
                have hK := hid hK0; clear hK0
                have HBW := hid hB
                have hsW := hB.size
                have GB := hid (HBw5.out.trans (hB.mono HBw5.out.size))
                clear hd
                go_light
                simp only [putF]
                rw [hA]
                go_frame
                go_wp2_with fail
                exact hK.out _ _ _ (by rw [hA]; simp only [putF]; kernel_rfl) (Below.refl _ _) rfl
              · intro K us W hK0 hB hd
                have hK := hid hK0; clear hK0
                have HBW := hid hB
                have hsW := hB.size
                have GB := hid (HBw5.out.trans (hB.mono HBw5.out.size))
                have e6 : us 6 = .pointer (some ⟨w.heap.size + 1 + 1, 0, none⟩) := hd ⟨6, Ground.data⟩ (by simp) rfl
                clear hd
                go_light
                have G0 := hid (heap_still hB T5.out)
                have c0 : W.cell? ⟨w.heap.size + 1 + 1, 0, none⟩ = some (.int .i64 t0) := (cell_row (j := 0) G0.out).trans rfl
                simp only [putF]
                rw [hA, e6]
                go_frame
                go_wp2_with fail
                exact hK.out _ _ _ (by rw [hA]; simp only [putF]; rw [e6]; kernel_rfl) (Below.refl _ _) rfl
              · intro K us W hK0 hB hd
                have hK := hid hK0; clear hK0
                have HBW := hid hB
                have hsW := hB.size
                have GB := hid (HBw5.out.trans (hB.mono HBw5.out.size))
                have e4 : us 4 = .slice (some ⟨b', o', none⟩) (L p) (C p) := hd ⟨4, Ground.data⟩ (by simp) rfl
                have e5 : us 5 = .agg #[.int .i64 m0, .int .i64 m1, .int .i64 m2, .int .i64 m3] := hd ⟨5, Ground.data⟩ (by simp) rfl
                have e7 : us 7 = .int .i64 t0 := hd ⟨7, Ground.data⟩ (by simp) rfl
                clear hd
                go_light
                simp only [putF]
                rw [hA, e4, e5, e7]
                go_frame
                go_wp2_with fail
                refine (HIN.out W GB.out).mono ?_
                rintro r W' ⟨rfl, hb⟩
                go_wp2_with fail
                exact hK.out _ _ _ (by rw [hA]; simp only [putF]; rw [e4, e5, e7]; kernel_rfl) hb rfl
              · intro K us W hK0 hB hd
                have hK := hid hK0; clear hK0
                have HBW := hid hB
                have hsW := hB.size
                have GB := hid (HBw5.out.trans (hB.mono HBw5.out.size))
                clear hd
                go_light
                simp only [putF]
                rw [hA]
                go_frame
                go_wp2_with fail
                exact hK.out _ _ _ (by rw [hA]; simp only [putF]; kernel_rfl) ((Below.refl _ _).alloc (Nat.le_refl _) _) (⟨_, rfl, hsW, heap_alloc_at _ _ _ rfl⟩)
            intro K us W6ROYES hK0 hB hp
            have hK := hid hK0
            clear hK0
            have hd9 : (Fresh80 w5.heap.size) W6ROYES (us 9) := hp 9 (by decide)
            obtain ⟨g9, e9, hg9, hh9⟩ := hd9
            have e8 : us 8 = poseR pn := hp 8 (by decide)
            have HBW6ROYES := hid (HBw5.out.trans (hB.mono HBw5.out.size))
            have HSW6ROYES := hid (fun n x => @heap_still _ _ n x hB)
            have hzW6ROYES := hB.size
            have hbW6ROYES := hid hB
            clear hp
            simp only [putF]
            rw [hA, e9, e8]
            skip
            go_frame
            go_wp2_with (refine wpList_store_at rfl 80 (.tmp 11) (.tmp 54) rfl rfl rfl hh9 size80b rfl rfl rfl ?_)
            refine hK.out undef _ _ (by rw [hA]; simp only [putF]; rw [e9, e8]; kernel_rfl) ?_
            clear hK hB hA e9 e8
            have hg9a : w.heap.size + 1 + 1 + 1 < g9 := by have := (Array.getElem?_eq_some_iff.1 D5.out).1; omega
            have XP := hid (setRow_heap _ _ _ #[.int .i64 (pn 0), .int .i64 (pn 1), .int .i64 (pn 2), .int .i64 (pn 3), .int .i64 (pn 4), .int .i64 (pn 5), .int .i64 (pn 6), .int .i64 (pn 7), .int .i64 (pn 8), .int .i64 (pn 9), .int .i64 (pn 10)] _ _ hh9)
            have XM := hid (setRow_past (cells := #[.int .i64 (pn 0), .int .i64 (pn 1), .int .i64 (pn 2), .int .i64 (pn 3), .int .i64 (pn 4), .int .i64 (pn 5), .int .i64 (pn 6), .int .i64 (pn 7), .int .i64 (pn 8), .int .i64 (pn 9), .int .i64 (pn 10)]) (HSW6ROYES.out _ _ M5.out) (by omega : w.heap.size + 1 ≠ g9))
            have XT := hid (setRow_past (cells := #[.int .i64 (pn 0), .int .i64 (pn 1), .int .i64 (pn 2), .int .i64 (pn 3), .int .i64 (pn 4), .int .i64 (pn 5), .int .i64 (pn 6), .int .i64 (pn 7), .int .i64 (pn 8), .int .i64 (pn 9), .int .i64 (pn 10)]) (HSW6ROYES.out _ _ T5.out) (by omega : w.heap.size + 1 + 1 ≠ g9))
            have XD := hid (setRow_past (cells := #[.int .i64 (pn 0), .int .i64 (pn 1), .int .i64 (pn 2), .int .i64 (pn 3), .int .i64 (pn 4), .int .i64 (pn 5), .int .i64 (pn 6), .int .i64 (pn 7), .int .i64 (pn 8), .int .i64 (pn 9), .int .i64 (pn 10)]) (HSW6ROYES.out _ _ D5.out) (by omega : w.heap.size + 1 + 1 + 1 ≠ g9))
            have XW := hid (below_setRow HBW6ROYES.out (by omega : w.heap.size ≤ g9) #[.int .i64 (pn 0), .int .i64 (pn 1), .int .i64 (pn 2), .int .i64 (pn 3), .int .i64 (pn 4), .int .i64 (pn 5), .int .i64 (pn 6), .int .i64 (pn 7), .int .i64 (pn 8), .int .i64 (pn 9), .int .i64 (pn 10)])
            have ct0 : (W6ROYES.setRow g9 #[.int .i64 (pn 0), .int .i64 (pn 1), .int .i64 (pn 2), .int .i64 (pn 3), .int .i64 (pn 4), .int .i64 (pn 5), .int .i64 (pn 6), .int .i64 (pn 7), .int .i64 (pn 8), .int .i64 (pn 9), .int .i64 (pn 10)]).cell? ⟨w.heap.size + 1 + 1, 0, none⟩ = some (.int .i64 t0) := (cell_row (j := 0) XT.out).trans rfl
            have ct1 : (W6ROYES.setRow g9 #[.int .i64 (pn 0), .int .i64 (pn 1), .int .i64 (pn 2), .int .i64 (pn 3), .int .i64 (pn 4), .int .i64 (pn 5), .int .i64 (pn 6), .int .i64 (pn 7), .int .i64 (pn 8), .int .i64 (pn 9), .int .i64 (pn 10)]).cell? ⟨w.heap.size + 1 + 1, 1, none⟩ = some (.int .i64 t1) := (cell_row (j := 1) XT.out).trans rfl
            have cm1 : (W6ROYES.setRow g9 #[.int .i64 (pn 0), .int .i64 (pn 1), .int .i64 (pn 2), .int .i64 (pn 3), .int .i64 (pn 4), .int .i64 (pn 5), .int .i64 (pn 6), .int .i64 (pn 7), .int .i64 (pn 8), .int .i64 (pn 9), .int .i64 (pn 10)]).cell? ⟨w.heap.size + 1, 1, none⟩ = some (.int .i64 m1) := (cell_row (j := 1) XM.out).trans rfl
            generalize W6ROYES.setRow g9 #[.int .i64 (pn 0), .int .i64 (pn 1), .int .i64 (pn 2), .int .i64 (pn 3), .int .i64 (pn 4), .int .i64 (pn 5), .int .i64 (pn 6), .int .i64 (pn 7), .int .i64 (pn 8), .int .i64 (pn 9), .int .i64 (pn 10)] = W7 at *
            go_wp2_with fail
            refine (HSW1.out _).mono ?_
            rintro r W8 ⟨rfl, hb⟩
            have HB8 := hid (XW.out.trans (hb.mono XW.out.size))
            have XP := hid (heap_still hb XP.out)
            have XM := hid (heap_still hb XM.out)
            have XD := hid (heap_still hb XD.out)
            have XW := hid HB8.out
            clear hb ct0 ct1 cm1 HB8
            go_wp2_with fail
            refine wp_loop_rounds 4 ?_
            rw [rounds_succ]
            refine gen_world (fun V0 hW => ?_)
            have YP := hid (show V0.heap[g9]? = some (.cells #[.int .i64 (pn 0), .int .i64 (pn 1), .int .i64 (pn 2), .int .i64 (pn 3), .int .i64 (pn 4), .int .i64 (pn 5), .int .i64 (pn 6), .int .i64 (pn 7), .int .i64 (pn 8), .int .i64 (pn 9), .int .i64 (pn 10)] 80) by rw [hW]; exact XP.out)
            have YM := hid (show V0.heap[w.heap.size + 1]? = some (.cells #[.int .i64 m0, .int .i64 m1, .int .i64 m2, .int .i64 m3] 61) by rw [hW]; exact XM.out)
            have YD := hid (show V0.heap[w.heap.size + 1 + 1 + 1]? = some (.cells #[.int .i64 0, .int .i64 0, .int .i64 0, .int .i64 0, .int .i64 0, .int .i64 0, .int .i64 0, .int .i64 0, .int .i64 0, .int .i64 0, .int .i64 0] 80) by rw [hW]; exact XD.out)
            have YW := hid (show Below w.heap.size w V0 by rw [hW]; exact XW.out)
            clear hW XP XM XD XW
            go_wp2_with fail
            refine gen_act (fun A0 hA => ?_)
            refine wp_region_tail (by kernel_rfl) (by kernel_rfl) [some 67, some 68, some 69, some 70, some 71, some 72, some 73, some 74, some 75, some 76, some 77, some 78, some 79, some 80, some 81, some 82, some 83, some 84, none] rfl (by decide) 17 (by decide) (by kernel_rfl) (by kernel_rfl)
              [IsV (.int .i64 0), IsV (.int .i64 0), IsV (.pointer (some ⟨g9, 0, none⟩)), IsV (.pointer (some ⟨g9, 0, none⟩)), IsV (.pointer (some ⟨g9, 0, none⟩)), IsV (.int .i64 (pn 0)), IsV (.int .i64 wd), IsV (.int .i64 (pn 0 - wd)), IsV (.int .i64 0), IsV (.pointer (some ⟨g9, 0, none⟩)), IsV (.pointer (some ⟨g9, 0, none⟩)), IsV (.pointer (some ⟨g9, 1, none⟩)), IsV (.int .i64 (pn 1)), IsV (.int .i64 wd), IsV (.int .i64 (pn 1 + wd)), IsV (.agg #[.int .i64 (pn 0 - wd), .int .i64 (pn 1 + wd)]), IsV (.pointer (some ⟨g9, 0, none⟩))]
              ⟨IsV.stb _, IsV.stb _, IsV.stb _, IsV.stb _, IsV.stb _, IsV.stb _, IsV.stb _, IsV.stb _, IsV.stb _, IsV.stb _, IsV.stb _, IsV.stb _, IsV.stb _, IsV.stb _, IsV.stb _, IsV.stb _, IsV.stb _, trivial⟩ ?hs1_16_U0ROYES ?hend_16_U0ROYES
            case hs1_16_U0ROYES =>
              refine ⟨?_, ?_, ?_, ?_, ?_, ?_, ?_, ?_, ?_, ?_, ?_, ?_, ?_, ?_, ?_, ?_, ?_, trivial⟩
              · intro K us W hK0 hB hd
                have hK := hid hK0; clear hK0
                have HBW := hid hB
                have hsW := hB.size
                have GB := hid (YW.out.trans (hB.mono YW.out.size))
                clear hd
                go_light
                simp only [putF]
                rw [hA]
                go_frame
                go_wp2_with fail
                exact hK.out _ _ _ (by rw [hA]; simp only [putF]; kernel_rfl) (Below.refl _ _) rfl
              · intro K us W hK0 hB hd
                have hK := hid hK0; clear hK0
                have HBW := hid hB
                have hsW := hB.size
                have GB := hid (YW.out.trans (hB.mono YW.out.size))
                clear hd
                go_light
                simp only [putF]
                rw [hA]
                go_frame
                go_wp2_with fail
                exact hK.out _ _ _ (by rw [hA]; simp only [putF]; kernel_rfl) (Below.refl _ _) rfl
              · intro K us W hK0 hB hd
                have hK := hid hK0; clear hK0
                have HBW := hid hB
                have hsW := hB.size
                have GB := hid (YW.out.trans (hB.mono YW.out.size))
                clear hd
                go_light
                simp only [putF]
                rw [hA]
                go_frame
                go_wp2_with fail
                exact hK.out _ _ _ (by rw [hA]; simp only [putF]; kernel_rfl) (Below.refl _ _) rfl
              · intro K us W hK0 hB hd
                have hK := hid hK0; clear hK0
                have HBW := hid hB
                have hsW := hB.size
                have GB := hid (YW.out.trans (hB.mono YW.out.size))
                have e2 : us 2 = .pointer (some ⟨g9, 0, none⟩) := hd ⟨2, Ground.data⟩ (by simp) rfl
                have e1 : us 1 = .int .i64 0 := hd ⟨1, Ground.data⟩ (by simp) rfl
                clear hd
                go_light
                simp only [putF]
                rw [hA, e2, e1]
                go_frame
                go_wp2_with fail
                exact hK.out _ _ _ (by rw [hA]; simp only [putF]; rw [e2, e1]; kernel_rfl) (Below.refl _ _) rfl
              · intro K us W hK0 hB hd
                have hK := hid hK0; clear hK0
                have HBW := hid hB
                have hsW := hB.size
                have GB := hid (YW.out.trans (hB.mono YW.out.size))
                have e3 : us 3 = .pointer (some ⟨g9, 0, none⟩) := hd ⟨3, Ground.data⟩ (by simp) rfl
                clear hd
                go_light
                simp only [putF]
                rw [hA, e3]
                go_frame
                go_wp2_with fail
                exact hK.out _ _ _ (by rw [hA]; simp only [putF]; rw [e3]; kernel_rfl) (Below.refl _ _) rfl
              · intro K us W hK0 hB hd
                have hK := hid hK0; clear hK0
                have HBW := hid hB
                have hsW := hB.size
                have GB := hid (YW.out.trans (hB.mono YW.out.size))
                have e4 : us 4 = .pointer (some ⟨g9, 0, none⟩) := hd ⟨4, Ground.data⟩ (by simp) rfl
                clear hd
                go_light
                have G0 := hid (heap_still hB YP.out)
                have c0 : W.cell? ⟨g9, 0, none⟩ = some (.int .i64 (pn 0)) := (cell_row (j := 0) G0.out).trans rfl
                simp only [putF]
                rw [hA, e4]
                go_frame
                go_wp2_with fail
                exact hK.out _ _ _ (by rw [hA]; simp only [putF]; rw [e4]; kernel_rfl) (Below.refl _ _) rfl
              · intro K us W hK0 hB hd
                have hK := hid hK0; clear hK0
                have HBW := hid hB
                have hsW := hB.size
                have GB := hid (YW.out.trans (hB.mono YW.out.size))
                clear hd
                go_light
                simp only [putF]
                rw [hA]
                go_frame
                go_wp2_with fail
                exact hK.out _ _ _ (by rw [hA]; simp only [putF]; kernel_rfl) (Below.refl _ _) rfl
              · intro K us W hK0 hB hd
                have hK := hid hK0; clear hK0
                have HBW := hid hB
                have hsW := hB.size
                have GB := hid (YW.out.trans (hB.mono YW.out.size))
                have e5 : us 5 = .int .i64 (pn 0) := hd ⟨5, Ground.data⟩ (by simp) rfl
                have e6 : us 6 = .int .i64 wd := hd ⟨6, Ground.data⟩ (by simp) rfl
                clear hd
                go_light
                simp only [putF]
                rw [hA, e5, e6]
                go_frame
                go_wp2_with fail
                exact hK.out _ _ _ (by rw [hA]; simp only [putF]; rw [e5, e6]; kernel_rfl) (Below.refl _ _) rfl
              · intro K us W hK0 hB hd
                have hK := hid hK0; clear hK0
                have HBW := hid hB
                have hsW := hB.size
                have GB := hid (YW.out.trans (hB.mono YW.out.size))
                clear hd
                go_light
                simp only [putF]
                rw [hA]
                go_frame
                go_wp2_with fail
                exact hK.out _ _ _ (by rw [hA]; simp only [putF]; kernel_rfl) (Below.refl _ _) rfl
              · intro K us W hK0 hB hd
                have hK := hid hK0; clear hK0
                have HBW := hid hB
                have hsW := hB.size
                have GB := hid (YW.out.trans (hB.mono YW.out.size))
                clear hd
                go_light
                simp only [putF]
                rw [hA]
                go_frame
                go_wp2_with fail
                exact hK.out _ _ _ (by rw [hA]; simp only [putF]; kernel_rfl) (Below.refl _ _) rfl
              · intro K us W hK0 hB hd
                have hK := hid hK0; clear hK0
                have HBW := hid hB
                have hsW := hB.size
                have GB := hid (YW.out.trans (hB.mono YW.out.size))
                have e9 : us 9 = .pointer (some ⟨g9, 0, none⟩) := hd ⟨9, Ground.data⟩ (by simp) rfl
                have e8 : us 8 = .int .i64 0 := hd ⟨8, Ground.data⟩ (by simp) rfl
                clear hd
                go_light
                simp only [putF]
                rw [hA, e9, e8]
                go_frame
                go_wp2_with fail
                exact hK.out _ _ _ (by rw [hA]; simp only [putF]; rw [e9, e8]; kernel_rfl) (Below.refl _ _) rfl
              · intro K us W hK0 hB hd
                have hK := hid hK0; clear hK0
                have HBW := hid hB
                have hsW := hB.size
                have GB := hid (YW.out.trans (hB.mono YW.out.size))
                have e10 : us 10 = .pointer (some ⟨g9, 0, none⟩) := hd ⟨10, Ground.data⟩ (by simp) rfl
                clear hd
                go_light
                simp only [putF]
                rw [hA, e10]
                go_frame
                go_wp2_with fail
                exact hK.out _ _ _ (by rw [hA]; simp only [putF]; rw [e10]; kernel_rfl) (Below.refl _ _) rfl
              · intro K us W hK0 hB hd
                have hK := hid hK0; clear hK0
                have HBW := hid hB
                have hsW := hB.size
                have GB := hid (YW.out.trans (hB.mono YW.out.size))
                have e11 : us 11 = .pointer (some ⟨g9, 1, none⟩) := hd ⟨11, Ground.data⟩ (by simp) rfl
                clear hd
                go_light
                have G0 := hid (heap_still hB YP.out)
                have c0 : W.cell? ⟨g9, 1, none⟩ = some (.int .i64 (pn 1)) := (cell_row (j := 1) G0.out).trans rfl
                simp only [putF]
                rw [hA, e11]
                go_frame
                go_wp2_with fail
                exact hK.out _ _ _ (by rw [hA]; simp only [putF]; rw [e11]; kernel_rfl) (Below.refl _ _) rfl
              · intro K us W hK0 hB hd
                have hK := hid hK0; clear hK0
                have HBW := hid hB
                have hsW := hB.size
                have GB := hid (YW.out.trans (hB.mono YW.out.size))
                clear hd
                go_light
                simp only [putF]
                rw [hA]
                go_frame
                go_wp2_with fail
                exact hK.out _ _ _ (by rw [hA]; simp only [putF]; kernel_rfl) (Below.refl _ _) rfl
              · intro K us W hK0 hB hd
                have hK := hid hK0; clear hK0
                have HBW := hid hB
                have hsW := hB.size
                have GB := hid (YW.out.trans (hB.mono YW.out.size))
                have e12 : us 12 = .int .i64 (pn 1) := hd ⟨12, Ground.data⟩ (by simp) rfl
                have e13 : us 13 = .int .i64 wd := hd ⟨13, Ground.data⟩ (by simp) rfl
                clear hd
                go_light
                simp only [putF]
                rw [hA, e12, e13]
                go_frame
                go_wp2_with fail
                exact hK.out _ _ _ (by rw [hA]; simp only [putF]; rw [e12, e13]; kernel_rfl) (Below.refl _ _) rfl
              · intro K us W hK0 hB hd
                have hK := hid hK0; clear hK0
                have HBW := hid hB
                have hsW := hB.size
                have GB := hid (YW.out.trans (hB.mono YW.out.size))
                have e7 : us 7 = .int .i64 (pn 0 - wd) := hd ⟨7, Ground.data⟩ (by simp) rfl
                have e14 : us 14 = .int .i64 (pn 1 + wd) := hd ⟨14, Ground.data⟩ (by simp) rfl
                clear hd
                go_light
                simp only [putF]
                rw [hA, e7, e14]
                go_frame
                go_wp2_with fail
                exact hK.out _ _ _ (by rw [hA]; simp only [putF]; rw [e7, e14]; kernel_rfl) (Below.refl _ _) rfl
              · intro K us W hK0 hB hd
                have hK := hid hK0; clear hK0
                have HBW := hid hB
                have hsW := hB.size
                have GB := hid (YW.out.trans (hB.mono YW.out.size))
                clear hd
                go_light
                simp only [putF]
                rw [hA]
                go_frame
                go_wp2_with fail
                exact hK.out _ _ _ (by rw [hA]; simp only [putF]; kernel_rfl) (Below.refl _ _) rfl
            intro us U0ROYES hB hp
            have e0 : us 0 = .int .i64 0 := hp 0 (by decide)
            have e15 : us 15 = .agg #[.int .i64 (pn 0 - wd), .int .i64 (pn 1 + wd)] := hp 15 (by decide)
            have e16 : us 16 = .pointer (some ⟨g9, 0, none⟩) := hp 16 (by decide)
            have HBU0ROYES := hid (YW.out.trans (hB.mono YW.out.size))
            have HSU0ROYES := hid (fun n x => @heap_still _ _ n x hB)
            have hzU0ROYES := hB.size
            have hbU0ROYES := hid hB
            clear hp
            clear hB
            simp only [putF]
            rw [hA, e0, e15, e16]
            clear hA e0 e15 e16
            go_frame
            refine tl_step rfl ?_
            intro K hK0
            have hK := hid hK0
            clear hK0
            go_wp2_with fail
            refine hK.out (.pointer (some ⟨g9, 0, none⟩)) _ _ (by kernel_rfl) ?_
            clear hK
            refine tl_step rfl ?_
            intro K hK0
            have hK := hid hK0
            clear hK0
            (try go_frame)
            go_wp2_with (refine pt_store rfl 44 (.tmp 84) (.tmp 82) rfl _ _ _ rfl rfl (HSU0ROYES.out _ _ YP.out) size44 rfl (of_decide_eq_true rfl) rfl ?_)
            refine hK.out undef _ _ (by kernel_rfl) ?_
            clear hK
            refine tl_end rfl ?_
            (try go_frame)
            have XP := hid (setRow_heap _ _ _ #[.int .i64 (pn 0 - wd), .int .i64 (pn 1 + wd), .int .i64 (pn 2), .int .i64 (pn 3), .int .i64 (pn 4), .int .i64 (pn 5), .int .i64 (pn 6), .int .i64 (pn 7), .int .i64 (pn 8), .int .i64 (pn 9), .int .i64 (pn 10)] _ _ (HSU0ROYES.out _ _ YP.out))
            have XM := hid (setRow_past (cells := #[.int .i64 (pn 0 - wd), .int .i64 (pn 1 + wd), .int .i64 (pn 2), .int .i64 (pn 3), .int .i64 (pn 4), .int .i64 (pn 5), .int .i64 (pn 6), .int .i64 (pn 7), .int .i64 (pn 8), .int .i64 (pn 9), .int .i64 (pn 10)]) (HSU0ROYES.out _ _ YM.out) (by omega : w.heap.size + 1 ≠ g9))
            have XD := hid (setRow_past (cells := #[.int .i64 (pn 0 - wd), .int .i64 (pn 1 + wd), .int .i64 (pn 2), .int .i64 (pn 3), .int .i64 (pn 4), .int .i64 (pn 5), .int .i64 (pn 6), .int .i64 (pn 7), .int .i64 (pn 8), .int .i64 (pn 9), .int .i64 (pn 10)]) (HSU0ROYES.out _ _ YD.out) (by omega : w.heap.size + 1 + 1 + 1 ≠ g9))
            have XW := hid (below_setRow HBU0ROYES.out (by omega : w.heap.size ≤ g9) #[.int .i64 (pn 0 - wd), .int .i64 (pn 1 + wd), .int .i64 (pn 2), .int .i64 (pn 3), .int .i64 (pn 4), .int .i64 (pn 5), .int .i64 (pn 6), .int .i64 (pn 7), .int .i64 (pn 8), .int .i64 (pn 9), .int .i64 (pn 10)])
            clear YP YM YD YW HBU0ROYES HSU0ROYES hbU0ROYES
            go_wp2_with fail
            rw [rounds_succ]
            refine gen_world (fun V1 hW => ?_)
            have YP := hid (show V1.heap[g9]? = some (.cells #[.int .i64 (pn 0 - wd), .int .i64 (pn 1 + wd), .int .i64 (pn 2), .int .i64 (pn 3), .int .i64 (pn 4), .int .i64 (pn 5), .int .i64 (pn 6), .int .i64 (pn 7), .int .i64 (pn 8), .int .i64 (pn 9), .int .i64 (pn 10)] 80) by rw [hW]; exact XP.out)
            have YM := hid (show V1.heap[w.heap.size + 1]? = some (.cells #[.int .i64 m0, .int .i64 m1, .int .i64 m2, .int .i64 m3] 61) by rw [hW]; exact XM.out)
            have YD := hid (show V1.heap[w.heap.size + 1 + 1 + 1]? = some (.cells #[.int .i64 0, .int .i64 0, .int .i64 0, .int .i64 0, .int .i64 0, .int .i64 0, .int .i64 0, .int .i64 0, .int .i64 0, .int .i64 0, .int .i64 0] 80) by rw [hW]; exact XD.out)
            have YW := hid (show Below w.heap.size w V1 by rw [hW]; exact XW.out)
            clear hW XP XM XD XW
            go_wp2_with fail
            refine gen_act (fun A0 hA => ?_)
            refine wp_region_tail (by kernel_rfl) (by kernel_rfl) [some 67, some 68, some 69, some 70, some 71, some 72, some 73, some 74, some 75, some 76, some 77, some 78, some 79, some 80, some 81, some 82, some 83, some 84, none] rfl (by decide) 17 (by decide) (by kernel_rfl) (by kernel_rfl)
              [IsV (.int .i64 1), IsV (.int .i64 1), IsV (.pointer (some ⟨g9, 0, none⟩)), IsV (.pointer (some ⟨g9, 2, none⟩)), IsV (.pointer (some ⟨g9, 2, none⟩)), IsV (.int .i64 (pn 2)), IsV (.int .i64 wd), IsV (.int .i64 (pn 2 - wd)), IsV (.int .i64 1), IsV (.pointer (some ⟨g9, 0, none⟩)), IsV (.pointer (some ⟨g9, 2, none⟩)), IsV (.pointer (some ⟨g9, 3, none⟩)), IsV (.int .i64 (pn 3)), IsV (.int .i64 wd), IsV (.int .i64 (pn 3 + wd)), IsV (.agg #[.int .i64 (pn 2 - wd), .int .i64 (pn 3 + wd)]), IsV (.pointer (some ⟨g9, 0, none⟩))]
              ⟨IsV.stb _, IsV.stb _, IsV.stb _, IsV.stb _, IsV.stb _, IsV.stb _, IsV.stb _, IsV.stb _, IsV.stb _, IsV.stb _, IsV.stb _, IsV.stb _, IsV.stb _, IsV.stb _, IsV.stb _, IsV.stb _, IsV.stb _, trivial⟩ ?hs1_16_U1ROYES ?hend_16_U1ROYES
            case hs1_16_U1ROYES =>
              refine ⟨?_, ?_, ?_, ?_, ?_, ?_, ?_, ?_, ?_, ?_, ?_, ?_, ?_, ?_, ?_, ?_, ?_, trivial⟩
              · intro K us W hK0 hB hd
                have hK := hid hK0; clear hK0
                have HBW := hid hB
                have hsW := hB.size
                have GB := hid (YW.out.trans (hB.mono YW.out.size))
                clear hd
                go_light
                simp only [putF]
                rw [hA]
                go_frame
                go_wp2_with fail
                exact hK.out _ _ _ (by rw [hA]; simp only [putF]; kernel_rfl) (Below.refl _ _) rfl
              · intro K us W hK0 hB hd
                have hK := hid hK0; clear hK0
                have HBW := hid hB
                have hsW := hB.size
                have GB := hid (YW.out.trans (hB.mono YW.out.size))
                clear hd
                go_light
                simp only [putF]
                rw [hA]
                go_frame
                go_wp2_with fail
                exact hK.out _ _ _ (by rw [hA]; simp only [putF]; kernel_rfl) (Below.refl _ _) rfl
              · intro K us W hK0 hB hd
                have hK := hid hK0; clear hK0
                have HBW := hid hB
                have hsW := hB.size
                have GB := hid (YW.out.trans (hB.mono YW.out.size))
                clear hd
                go_light
                simp only [putF]
                rw [hA]
                go_frame
                go_wp2_with fail
                exact hK.out _ _ _ (by rw [hA]; simp only [putF]; kernel_rfl) (Below.refl _ _) rfl
              · intro K us W hK0 hB hd
                have hK := hid hK0; clear hK0
                have HBW := hid hB
                have hsW := hB.size
                have GB := hid (YW.out.trans (hB.mono YW.out.size))
                have e2 : us 2 = .pointer (some ⟨g9, 0, none⟩) := hd ⟨2, Ground.data⟩ (by simp) rfl
                have e1 : us 1 = .int .i64 1 := hd ⟨1, Ground.data⟩ (by simp) rfl
                clear hd
                go_light
                simp only [putF]
                rw [hA, e2, e1]
                go_frame
                go_wp2_with fail
                exact hK.out _ _ _ (by rw [hA]; simp only [putF]; rw [e2, e1]; kernel_rfl) (Below.refl _ _) rfl
              · intro K us W hK0 hB hd
                have hK := hid hK0; clear hK0
                have HBW := hid hB
                have hsW := hB.size
                have GB := hid (YW.out.trans (hB.mono YW.out.size))
                have e3 : us 3 = .pointer (some ⟨g9, 2, none⟩) := hd ⟨3, Ground.data⟩ (by simp) rfl
                clear hd
                go_light
                simp only [putF]
                rw [hA, e3]
                go_frame
                go_wp2_with fail
                exact hK.out _ _ _ (by rw [hA]; simp only [putF]; rw [e3]; kernel_rfl) (Below.refl _ _) rfl
              · intro K us W hK0 hB hd
                have hK := hid hK0; clear hK0
                have HBW := hid hB
                have hsW := hB.size
                have GB := hid (YW.out.trans (hB.mono YW.out.size))
                have e4 : us 4 = .pointer (some ⟨g9, 2, none⟩) := hd ⟨4, Ground.data⟩ (by simp) rfl
                clear hd
                go_light
                have G0 := hid (heap_still hB YP.out)
                have c0 : W.cell? ⟨g9, 2, none⟩ = some (.int .i64 (pn 2)) := (cell_row (j := 2) G0.out).trans rfl
                simp only [putF]
                rw [hA, e4]
                go_frame
                go_wp2_with fail
                exact hK.out _ _ _ (by rw [hA]; simp only [putF]; rw [e4]; kernel_rfl) (Below.refl _ _) rfl
              · intro K us W hK0 hB hd
                have hK := hid hK0; clear hK0
                have HBW := hid hB
                have hsW := hB.size
                have GB := hid (YW.out.trans (hB.mono YW.out.size))
                clear hd
                go_light
                simp only [putF]
                rw [hA]
                go_frame
                go_wp2_with fail
                exact hK.out _ _ _ (by rw [hA]; simp only [putF]; kernel_rfl) (Below.refl _ _) rfl
              · intro K us W hK0 hB hd
                have hK := hid hK0; clear hK0
                have HBW := hid hB
                have hsW := hB.size
                have GB := hid (YW.out.trans (hB.mono YW.out.size))
                have e5 : us 5 = .int .i64 (pn 2) := hd ⟨5, Ground.data⟩ (by simp) rfl
                have e6 : us 6 = .int .i64 wd := hd ⟨6, Ground.data⟩ (by simp) rfl
                clear hd
                go_light
                simp only [putF]
                rw [hA, e5, e6]
                go_frame
                go_wp2_with fail
                exact hK.out _ _ _ (by rw [hA]; simp only [putF]; rw [e5, e6]; kernel_rfl) (Below.refl _ _) rfl
              · intro K us W hK0 hB hd
                have hK := hid hK0; clear hK0
                have HBW := hid hB
                have hsW := hB.size
                have GB := hid (YW.out.trans (hB.mono YW.out.size))
                clear hd
                go_light
                simp only [putF]
                rw [hA]
                go_frame
                go_wp2_with fail
                exact hK.out _ _ _ (by rw [hA]; simp only [putF]; kernel_rfl) (Below.refl _ _) rfl
              · intro K us W hK0 hB hd
                have hK := hid hK0; clear hK0
                have HBW := hid hB
                have hsW := hB.size
                have GB := hid (YW.out.trans (hB.mono YW.out.size))
                clear hd
                go_light
                simp only [putF]
                rw [hA]
                go_frame
                go_wp2_with fail
                exact hK.out _ _ _ (by rw [hA]; simp only [putF]; kernel_rfl) (Below.refl _ _) rfl
              · intro K us W hK0 hB hd
                have hK := hid hK0; clear hK0
                have HBW := hid hB
                have hsW := hB.size
                have GB := hid (YW.out.trans (hB.mono YW.out.size))
                have e9 : us 9 = .pointer (some ⟨g9, 0, none⟩) := hd ⟨9, Ground.data⟩ (by simp) rfl
                have e8 : us 8 = .int .i64 1 := hd ⟨8, Ground.data⟩ (by simp) rfl
                clear hd
                go_light
                simp only [putF]
                rw [hA, e9, e8]
                go_frame
                go_wp2_with fail
                exact hK.out _ _ _ (by rw [hA]; simp only [putF]; rw [e9, e8]; kernel_rfl) (Below.refl _ _) rfl
              · intro K us W hK0 hB hd
                have hK := hid hK0; clear hK0
                have HBW := hid hB
                have hsW := hB.size
                have GB := hid (YW.out.trans (hB.mono YW.out.size))
                have e10 : us 10 = .pointer (some ⟨g9, 2, none⟩) := hd ⟨10, Ground.data⟩ (by simp) rfl
                clear hd
                go_light
                simp only [putF]
                rw [hA, e10]
                go_frame
                go_wp2_with fail
                exact hK.out _ _ _ (by rw [hA]; simp only [putF]; rw [e10]; kernel_rfl) (Below.refl _ _) rfl
              · intro K us W hK0 hB hd
                have hK := hid hK0; clear hK0
                have HBW := hid hB
                have hsW := hB.size
                have GB := hid (YW.out.trans (hB.mono YW.out.size))
                have e11 : us 11 = .pointer (some ⟨g9, 3, none⟩) := hd ⟨11, Ground.data⟩ (by simp) rfl
                clear hd
                go_light
                have G0 := hid (heap_still hB YP.out)
                have c0 : W.cell? ⟨g9, 3, none⟩ = some (.int .i64 (pn 3)) := (cell_row (j := 3) G0.out).trans rfl
                simp only [putF]
                rw [hA, e11]
                go_frame
                go_wp2_with fail
                exact hK.out _ _ _ (by rw [hA]; simp only [putF]; rw [e11]; kernel_rfl) (Below.refl _ _) rfl
              · intro K us W hK0 hB hd
                have hK := hid hK0; clear hK0
                have HBW := hid hB
                have hsW := hB.size
                have GB := hid (YW.out.trans (hB.mono YW.out.size))
                clear hd
                go_light
                simp only [putF]
                rw [hA]
                go_frame
                go_wp2_with fail
                exact hK.out _ _ _ (by rw [hA]; simp only [putF]; kernel_rfl) (Below.refl _ _) rfl
              · intro K us W hK0 hB hd
                have hK := hid hK0; clear hK0
                have HBW := hid hB
                have hsW := hB.size
                have GB := hid (YW.out.trans (hB.mono YW.out.size))
                have e12 : us 12 = .int .i64 (pn 3) := hd ⟨12, Ground.data⟩ (by simp) rfl
                have e13 : us 13 = .int .i64 wd := hd ⟨13, Ground.data⟩ (by simp) rfl
                clear hd
                go_light
                simp only [putF]
                rw [hA, e12, e13]
                go_frame
                go_wp2_with fail
                exact hK.out _ _ _ (by rw [hA]; simp only [putF]; rw [e12, e13]; kernel_rfl) (Below.refl _ _) rfl
              · intro K us W hK0 hB hd
                have hK := hid hK0; clear hK0
                have HBW := hid hB
                have hsW := hB.size
                have GB := hid (YW.out.trans (hB.mono YW.out.size))
                have e7 : us 7 = .int .i64 (pn 2 - wd) := hd ⟨7, Ground.data⟩ (by simp) rfl
                have e14 : us 14 = .int .i64 (pn 3 + wd) := hd ⟨14, Ground.data⟩ (by simp) rfl
                clear hd
                go_light
                simp only [putF]
                rw [hA, e7, e14]
                go_frame
                go_wp2_with fail
                exact hK.out _ _ _ (by rw [hA]; simp only [putF]; rw [e7, e14]; kernel_rfl) (Below.refl _ _) rfl
              · intro K us W hK0 hB hd
                have hK := hid hK0; clear hK0
                have HBW := hid hB
                have hsW := hB.size
                have GB := hid (YW.out.trans (hB.mono YW.out.size))
                clear hd
                go_light
                simp only [putF]
                rw [hA]
                go_frame
                go_wp2_with fail
                exact hK.out _ _ _ (by rw [hA]; simp only [putF]; kernel_rfl) (Below.refl _ _) rfl
            intro us U1ROYES hB hp
            have e0 : us 0 = .int .i64 1 := hp 0 (by decide)
            have e15 : us 15 = .agg #[.int .i64 (pn 2 - wd), .int .i64 (pn 3 + wd)] := hp 15 (by decide)
            have e16 : us 16 = .pointer (some ⟨g9, 0, none⟩) := hp 16 (by decide)
            have HBU1ROYES := hid (YW.out.trans (hB.mono YW.out.size))
            have HSU1ROYES := hid (fun n x => @heap_still _ _ n x hB)
            have hzU1ROYES := hB.size
            have hbU1ROYES := hid hB
            clear hp
            clear hB
            simp only [putF]
            rw [hA, e0, e15, e16]
            clear hA e0 e15 e16
            go_frame
            refine tl_step rfl ?_
            intro K hK0
            have hK := hid hK0
            clear hK0
            go_wp2_with fail
            refine hK.out (.pointer (some ⟨g9, 2, none⟩)) _ _ (by kernel_rfl) ?_
            clear hK
            refine tl_step rfl ?_
            intro K hK0
            have hK := hid hK0
            clear hK0
            (try go_frame)
            go_wp2_with (refine pt_store rfl 44 (.tmp 84) (.tmp 82) rfl _ _ _ rfl rfl (HSU1ROYES.out _ _ YP.out) size44 rfl (of_decide_eq_true rfl) rfl ?_)
            refine hK.out undef _ _ (by kernel_rfl) ?_
            clear hK
            refine tl_end rfl ?_
            (try go_frame)
            have XP := hid (setRow_heap _ _ _ #[.int .i64 (pn 0 - wd), .int .i64 (pn 1 + wd), .int .i64 (pn 2 - wd), .int .i64 (pn 3 + wd), .int .i64 (pn 4), .int .i64 (pn 5), .int .i64 (pn 6), .int .i64 (pn 7), .int .i64 (pn 8), .int .i64 (pn 9), .int .i64 (pn 10)] _ _ (HSU1ROYES.out _ _ YP.out))
            have XM := hid (setRow_past (cells := #[.int .i64 (pn 0 - wd), .int .i64 (pn 1 + wd), .int .i64 (pn 2 - wd), .int .i64 (pn 3 + wd), .int .i64 (pn 4), .int .i64 (pn 5), .int .i64 (pn 6), .int .i64 (pn 7), .int .i64 (pn 8), .int .i64 (pn 9), .int .i64 (pn 10)]) (HSU1ROYES.out _ _ YM.out) (by omega : w.heap.size + 1 ≠ g9))
            have XD := hid (setRow_past (cells := #[.int .i64 (pn 0 - wd), .int .i64 (pn 1 + wd), .int .i64 (pn 2 - wd), .int .i64 (pn 3 + wd), .int .i64 (pn 4), .int .i64 (pn 5), .int .i64 (pn 6), .int .i64 (pn 7), .int .i64 (pn 8), .int .i64 (pn 9), .int .i64 (pn 10)]) (HSU1ROYES.out _ _ YD.out) (by omega : w.heap.size + 1 + 1 + 1 ≠ g9))
            have XW := hid (below_setRow HBU1ROYES.out (by omega : w.heap.size ≤ g9) #[.int .i64 (pn 0 - wd), .int .i64 (pn 1 + wd), .int .i64 (pn 2 - wd), .int .i64 (pn 3 + wd), .int .i64 (pn 4), .int .i64 (pn 5), .int .i64 (pn 6), .int .i64 (pn 7), .int .i64 (pn 8), .int .i64 (pn 9), .int .i64 (pn 10)])
            clear YP YM YD YW HBU1ROYES HSU1ROYES hbU1ROYES
            go_wp2_with fail
            rw [rounds_succ]
            refine gen_world (fun V2 hW => ?_)
            have YP := hid (show V2.heap[g9]? = some (.cells #[.int .i64 (pn 0 - wd), .int .i64 (pn 1 + wd), .int .i64 (pn 2 - wd), .int .i64 (pn 3 + wd), .int .i64 (pn 4), .int .i64 (pn 5), .int .i64 (pn 6), .int .i64 (pn 7), .int .i64 (pn 8), .int .i64 (pn 9), .int .i64 (pn 10)] 80) by rw [hW]; exact XP.out)
            have YM := hid (show V2.heap[w.heap.size + 1]? = some (.cells #[.int .i64 m0, .int .i64 m1, .int .i64 m2, .int .i64 m3] 61) by rw [hW]; exact XM.out)
            have YD := hid (show V2.heap[w.heap.size + 1 + 1 + 1]? = some (.cells #[.int .i64 0, .int .i64 0, .int .i64 0, .int .i64 0, .int .i64 0, .int .i64 0, .int .i64 0, .int .i64 0, .int .i64 0, .int .i64 0, .int .i64 0] 80) by rw [hW]; exact XD.out)
            have YW := hid (show Below w.heap.size w V2 by rw [hW]; exact XW.out)
            clear hW XP XM XD XW
            go_wp2_with fail
            refine gen_act (fun A0 hA => ?_)
            refine wp_region_tail (by kernel_rfl) (by kernel_rfl) [some 67, some 68, some 69, some 70, some 71, some 72, some 73, some 74, some 75, some 76, some 77, some 78, some 79, some 80, some 81, some 82, some 83, some 84, none] rfl (by decide) 17 (by decide) (by kernel_rfl) (by kernel_rfl)
              [IsV (.int .i64 2), IsV (.int .i64 2), IsV (.pointer (some ⟨g9, 0, none⟩)), IsV (.pointer (some ⟨g9, 4, none⟩)), IsV (.pointer (some ⟨g9, 4, none⟩)), IsV (.int .i64 (pn 4)), IsV (.int .i64 wd), IsV (.int .i64 (pn 4 - wd)), IsV (.int .i64 2), IsV (.pointer (some ⟨g9, 0, none⟩)), IsV (.pointer (some ⟨g9, 4, none⟩)), IsV (.pointer (some ⟨g9, 5, none⟩)), IsV (.int .i64 (pn 5)), IsV (.int .i64 wd), IsV (.int .i64 (pn 5 + wd)), IsV (.agg #[.int .i64 (pn 4 - wd), .int .i64 (pn 5 + wd)]), IsV (.pointer (some ⟨g9, 0, none⟩))]
              ⟨IsV.stb _, IsV.stb _, IsV.stb _, IsV.stb _, IsV.stb _, IsV.stb _, IsV.stb _, IsV.stb _, IsV.stb _, IsV.stb _, IsV.stb _, IsV.stb _, IsV.stb _, IsV.stb _, IsV.stb _, IsV.stb _, IsV.stb _, trivial⟩ ?hs1_16_U2ROYES ?hend_16_U2ROYES
            case hs1_16_U2ROYES =>
              refine ⟨?_, ?_, ?_, ?_, ?_, ?_, ?_, ?_, ?_, ?_, ?_, ?_, ?_, ?_, ?_, ?_, ?_, trivial⟩
              · intro K us W hK0 hB hd
                have hK := hid hK0; clear hK0
                have HBW := hid hB
                have hsW := hB.size
                have GB := hid (YW.out.trans (hB.mono YW.out.size))
                clear hd
                go_light
                simp only [putF]
                rw [hA]
                go_frame
                go_wp2_with fail
                exact hK.out _ _ _ (by rw [hA]; simp only [putF]; kernel_rfl) (Below.refl _ _) rfl
              · intro K us W hK0 hB hd
                have hK := hid hK0; clear hK0
                have HBW := hid hB
                have hsW := hB.size
                have GB := hid (YW.out.trans (hB.mono YW.out.size))
                clear hd
                go_light
                simp only [putF]
                rw [hA]
                go_frame
                go_wp2_with fail
                exact hK.out _ _ _ (by rw [hA]; simp only [putF]; kernel_rfl) (Below.refl _ _) rfl
              · intro K us W hK0 hB hd
                have hK := hid hK0; clear hK0
                have HBW := hid hB
                have hsW := hB.size
                have GB := hid (YW.out.trans (hB.mono YW.out.size))
                clear hd
                go_light
                simp only [putF]
                rw [hA]
                go_frame
                go_wp2_with fail
                exact hK.out _ _ _ (by rw [hA]; simp only [putF]; kernel_rfl) (Below.refl _ _) rfl
              · intro K us W hK0 hB hd
                have hK := hid hK0; clear hK0
                have HBW := hid hB
                have hsW := hB.size
                have GB := hid (YW.out.trans (hB.mono YW.out.size))
                have e2 : us 2 = .pointer (some ⟨g9, 0, none⟩) := hd ⟨2, Ground.data⟩ (by simp) rfl
                have e1 : us 1 = .int .i64 2 := hd ⟨1, Ground.data⟩ (by simp) rfl
                clear hd
                go_light
                simp only [putF]
                rw [hA, e2, e1]
                go_frame
                go_wp2_with fail
                exact hK.out _ _ _ (by rw [hA]; simp only [putF]; rw [e2, e1]; kernel_rfl) (Below.refl _ _) rfl
              · intro K us W hK0 hB hd
                have hK := hid hK0; clear hK0
                have HBW := hid hB
                have hsW := hB.size
                have GB := hid (YW.out.trans (hB.mono YW.out.size))
                have e3 : us 3 = .pointer (some ⟨g9, 4, none⟩) := hd ⟨3, Ground.data⟩ (by simp) rfl
                clear hd
                go_light
                simp only [putF]
                rw [hA, e3]
                go_frame
                go_wp2_with fail
                exact hK.out _ _ _ (by rw [hA]; simp only [putF]; rw [e3]; kernel_rfl) (Below.refl _ _) rfl
              · intro K us W hK0 hB hd
                have hK := hid hK0; clear hK0
                have HBW := hid hB
                have hsW := hB.size
                have GB := hid (YW.out.trans (hB.mono YW.out.size))
                have e4 : us 4 = .pointer (some ⟨g9, 4, none⟩) := hd ⟨4, Ground.data⟩ (by simp) rfl
                clear hd
                go_light
                have G0 := hid (heap_still hB YP.out)
                have c0 : W.cell? ⟨g9, 4, none⟩ = some (.int .i64 (pn 4)) := (cell_row (j := 4) G0.out).trans rfl
                simp only [putF]
                rw [hA, e4]
                go_frame
                go_wp2_with fail
                exact hK.out _ _ _ (by rw [hA]; simp only [putF]; rw [e4]; kernel_rfl) (Below.refl _ _) rfl
              · intro K us W hK0 hB hd
                have hK := hid hK0; clear hK0
                have HBW := hid hB
                have hsW := hB.size
                have GB := hid (YW.out.trans (hB.mono YW.out.size))
                clear hd
                go_light
                simp only [putF]
                rw [hA]
                go_frame
                go_wp2_with fail
                exact hK.out _ _ _ (by rw [hA]; simp only [putF]; kernel_rfl) (Below.refl _ _) rfl
              · intro K us W hK0 hB hd
                have hK := hid hK0; clear hK0
                have HBW := hid hB
                have hsW := hB.size
                have GB := hid (YW.out.trans (hB.mono YW.out.size))
                have e5 : us 5 = .int .i64 (pn 4) := hd ⟨5, Ground.data⟩ (by simp) rfl
                have e6 : us 6 = .int .i64 wd := hd ⟨6, Ground.data⟩ (by simp) rfl
                clear hd
                go_light
                simp only [putF]
                rw [hA, e5, e6]
                go_frame
                go_wp2_with fail
                exact hK.out _ _ _ (by rw [hA]; simp only [putF]; rw [e5, e6]; kernel_rfl) (Below.refl _ _) rfl
              · intro K us W hK0 hB hd
                have hK := hid hK0; clear hK0
                have HBW := hid hB
                have hsW := hB.size
                have GB := hid (YW.out.trans (hB.mono YW.out.size))
                clear hd
                go_light
                simp only [putF]
                rw [hA]
                go_frame
                go_wp2_with fail
                exact hK.out _ _ _ (by rw [hA]; simp only [putF]; kernel_rfl) (Below.refl _ _) rfl
              · intro K us W hK0 hB hd
                have hK := hid hK0; clear hK0
                have HBW := hid hB
                have hsW := hB.size
                have GB := hid (YW.out.trans (hB.mono YW.out.size))
                clear hd
                go_light
                simp only [putF]
                rw [hA]
                go_frame
                go_wp2_with fail
                exact hK.out _ _ _ (by rw [hA]; simp only [putF]; kernel_rfl) (Below.refl _ _) rfl
              · intro K us W hK0 hB hd
                have hK := hid hK0; clear hK0
                have HBW := hid hB
                have hsW := hB.size
                have GB := hid (YW.out.trans (hB.mono YW.out.size))
                have e9 : us 9 = .pointer (some ⟨g9, 0, none⟩) := hd ⟨9, Ground.data⟩ (by simp) rfl
                have e8 : us 8 = .int .i64 2 := hd ⟨8, Ground.data⟩ (by simp) rfl
                clear hd
                go_light
                simp only [putF]
                rw [hA, e9, e8]
                go_frame
                go_wp2_with fail
                exact hK.out _ _ _ (by rw [hA]; simp only [putF]; rw [e9, e8]; kernel_rfl) (Below.refl _ _) rfl
              · intro K us W hK0 hB hd
                have hK := hid hK0; clear hK0
                have HBW := hid hB
                have hsW := hB.size
                have GB := hid (YW.out.trans (hB.mono YW.out.size))
                have e10 : us 10 = .pointer (some ⟨g9, 4, none⟩) := hd ⟨10, Ground.data⟩ (by simp) rfl
                clear hd
                go_light
                simp only [putF]
                rw [hA, e10]
                go_frame
                go_wp2_with fail
                exact hK.out _ _ _ (by rw [hA]; simp only [putF]; rw [e10]; kernel_rfl) (Below.refl _ _) rfl
              · intro K us W hK0 hB hd
                have hK := hid hK0; clear hK0
                have HBW := hid hB
                have hsW := hB.size
                have GB := hid (YW.out.trans (hB.mono YW.out.size))
                have e11 : us 11 = .pointer (some ⟨g9, 5, none⟩) := hd ⟨11, Ground.data⟩ (by simp) rfl
                clear hd
                go_light
                have G0 := hid (heap_still hB YP.out)
                have c0 : W.cell? ⟨g9, 5, none⟩ = some (.int .i64 (pn 5)) := (cell_row (j := 5) G0.out).trans rfl
                simp only [putF]
                rw [hA, e11]
                go_frame
                go_wp2_with fail
                exact hK.out _ _ _ (by rw [hA]; simp only [putF]; rw [e11]; kernel_rfl) (Below.refl _ _) rfl
              · intro K us W hK0 hB hd
                have hK := hid hK0; clear hK0
                have HBW := hid hB
                have hsW := hB.size
                have GB := hid (YW.out.trans (hB.mono YW.out.size))
                clear hd
                go_light
                simp only [putF]
                rw [hA]
                go_frame
                go_wp2_with fail
                exact hK.out _ _ _ (by rw [hA]; simp only [putF]; kernel_rfl) (Below.refl _ _) rfl
              · intro K us W hK0 hB hd
                have hK := hid hK0; clear hK0
                have HBW := hid hB
                have hsW := hB.size
                have GB := hid (YW.out.trans (hB.mono YW.out.size))
                have e12 : us 12 = .int .i64 (pn 5) := hd ⟨12, Ground.data⟩ (by simp) rfl
                have e13 : us 13 = .int .i64 wd := hd ⟨13, Ground.data⟩ (by simp) rfl
                clear hd
                go_light
                simp only [putF]
                rw [hA, e12, e13]
                go_frame
                go_wp2_with fail
                exact hK.out _ _ _ (by rw [hA]; simp only [putF]; rw [e12, e13]; kernel_rfl) (Below.refl _ _) rfl
              · intro K us W hK0 hB hd
                have hK := hid hK0; clear hK0
                have HBW := hid hB
                have hsW := hB.size
                have GB := hid (YW.out.trans (hB.mono YW.out.size))
                have e7 : us 7 = .int .i64 (pn 4 - wd) := hd ⟨7, Ground.data⟩ (by simp) rfl
                have e14 : us 14 = .int .i64 (pn 5 + wd) := hd ⟨14, Ground.data⟩ (by simp) rfl
                clear hd
                go_light
                simp only [putF]
                rw [hA, e7, e14]
                go_frame
                go_wp2_with fail
                exact hK.out _ _ _ (by rw [hA]; simp only [putF]; rw [e7, e14]; kernel_rfl) (Below.refl _ _) rfl
              · intro K us W hK0 hB hd
                have hK := hid hK0; clear hK0
                have HBW := hid hB
                have hsW := hB.size
                have GB := hid (YW.out.trans (hB.mono YW.out.size))
                clear hd
                go_light
                simp only [putF]
                rw [hA]
                go_frame
                go_wp2_with fail
                exact hK.out _ _ _ (by rw [hA]; simp only [putF]; kernel_rfl) (Below.refl _ _) rfl
            intro us U2ROYES hB hp
            have e0 : us 0 = .int .i64 2 := hp 0 (by decide)
            have e15 : us 15 = .agg #[.int .i64 (pn 4 - wd), .int .i64 (pn 5 + wd)] := hp 15 (by decide)
            have e16 : us 16 = .pointer (some ⟨g9, 0, none⟩) := hp 16 (by decide)
            have HBU2ROYES := hid (YW.out.trans (hB.mono YW.out.size))
            have HSU2ROYES := hid (fun n x => @heap_still _ _ n x hB)
            have hzU2ROYES := hB.size
            have hbU2ROYES := hid hB
            clear hp
            clear hB
            simp only [putF]
            rw [hA, e0, e15, e16]
            clear hA e0 e15 e16
            go_frame
            refine tl_step rfl ?_
            intro K hK0
            have hK := hid hK0
            clear hK0
            go_wp2_with fail
            refine hK.out (.pointer (some ⟨g9, 4, none⟩)) _ _ (by kernel_rfl) ?_
            clear hK
            refine tl_step rfl ?_
            intro K hK0
            have hK := hid hK0
            clear hK0
            (try go_frame)
            go_wp2_with (refine pt_store rfl 44 (.tmp 84) (.tmp 82) rfl _ _ _ rfl rfl (HSU2ROYES.out _ _ YP.out) size44 rfl (of_decide_eq_true rfl) rfl ?_)
            refine hK.out undef _ _ (by kernel_rfl) ?_
            clear hK
            refine tl_end rfl ?_
            (try go_frame)
            have XP := hid (setRow_heap _ _ _ #[.int .i64 (pn 0 - wd), .int .i64 (pn 1 + wd), .int .i64 (pn 2 - wd), .int .i64 (pn 3 + wd), .int .i64 (pn 4 - wd), .int .i64 (pn 5 + wd), .int .i64 (pn 6), .int .i64 (pn 7), .int .i64 (pn 8), .int .i64 (pn 9), .int .i64 (pn 10)] _ _ (HSU2ROYES.out _ _ YP.out))
            have XM := hid (setRow_past (cells := #[.int .i64 (pn 0 - wd), .int .i64 (pn 1 + wd), .int .i64 (pn 2 - wd), .int .i64 (pn 3 + wd), .int .i64 (pn 4 - wd), .int .i64 (pn 5 + wd), .int .i64 (pn 6), .int .i64 (pn 7), .int .i64 (pn 8), .int .i64 (pn 9), .int .i64 (pn 10)]) (HSU2ROYES.out _ _ YM.out) (by omega : w.heap.size + 1 ≠ g9))
            have XD := hid (setRow_past (cells := #[.int .i64 (pn 0 - wd), .int .i64 (pn 1 + wd), .int .i64 (pn 2 - wd), .int .i64 (pn 3 + wd), .int .i64 (pn 4 - wd), .int .i64 (pn 5 + wd), .int .i64 (pn 6), .int .i64 (pn 7), .int .i64 (pn 8), .int .i64 (pn 9), .int .i64 (pn 10)]) (HSU2ROYES.out _ _ YD.out) (by omega : w.heap.size + 1 + 1 + 1 ≠ g9))
            have XW := hid (below_setRow HBU2ROYES.out (by omega : w.heap.size ≤ g9) #[.int .i64 (pn 0 - wd), .int .i64 (pn 1 + wd), .int .i64 (pn 2 - wd), .int .i64 (pn 3 + wd), .int .i64 (pn 4 - wd), .int .i64 (pn 5 + wd), .int .i64 (pn 6), .int .i64 (pn 7), .int .i64 (pn 8), .int .i64 (pn 9), .int .i64 (pn 10)])
            clear YP YM YD YW HBU2ROYES HSU2ROYES hbU2ROYES
            go_wp2_with fail
            rw [rounds_succ]
            refine gen_world (fun V3 hW => ?_)
            have YP := hid (show V3.heap[g9]? = some (.cells #[.int .i64 (pn 0 - wd), .int .i64 (pn 1 + wd), .int .i64 (pn 2 - wd), .int .i64 (pn 3 + wd), .int .i64 (pn 4 - wd), .int .i64 (pn 5 + wd), .int .i64 (pn 6), .int .i64 (pn 7), .int .i64 (pn 8), .int .i64 (pn 9), .int .i64 (pn 10)] 80) by rw [hW]; exact XP.out)
            have YM := hid (show V3.heap[w.heap.size + 1]? = some (.cells #[.int .i64 m0, .int .i64 m1, .int .i64 m2, .int .i64 m3] 61) by rw [hW]; exact XM.out)
            have YD := hid (show V3.heap[w.heap.size + 1 + 1 + 1]? = some (.cells #[.int .i64 0, .int .i64 0, .int .i64 0, .int .i64 0, .int .i64 0, .int .i64 0, .int .i64 0, .int .i64 0, .int .i64 0, .int .i64 0, .int .i64 0] 80) by rw [hW]; exact XD.out)
            have YW := hid (show Below w.heap.size w V3 by rw [hW]; exact XW.out)
            clear hW XP XM XD XW
            go_wp2_with fail
            refine gen_act (fun A0 hA => ?_)
            refine wp_region_last (by kernel_rfl) (by kernel_rfl) [some 86, some 87, some 88, some 89, some 90, some 91, some 92, some 93, none] rfl (by decide) 8 rfl (by kernel_rfl) (by kernel_rfl)
              [IsV (.pointer (some ⟨g9, 10, none⟩)), IsV (.int .i64 (pn 10)), IsV (.pointer (some ⟨w.heap.size + 1, 3, none⟩)), IsV (.int .i64 m3), IsV (.int .i64 (t1 - t0)), IsV (.int .i64 gd), IsV (.int .i64 (pn 10 + gd)), IsV (.pointer (some ⟨g9, 10, none⟩))]
              ⟨IsV.stb _, IsV.stb _, IsV.stb _, IsV.stb _, IsV.stb _, IsV.stb _, IsV.stb _, IsV.stb _, trivial⟩ ?hs1_18_W9ROYES ?hlast_18_W9ROYES
            case hs1_18_W9ROYES =>
              refine ⟨?_, ?_, ?_, ?_, ?_, ?_, ?_, ?_, trivial⟩
              · intro K us W hK0 hB hd
                have hK := hid hK0; clear hK0
                have HBW := hid hB
                have hsW := hB.size
                have GB := hid (YW.out.trans (hB.mono YW.out.size))
                clear hd
                go_light
                simp only [putF]
                rw [hA]
                go_frame
                go_wp2_with fail
                exact hK.out _ _ _ (by rw [hA]; simp only [putF]; kernel_rfl) (Below.refl _ _) rfl
              · intro K us W hK0 hB hd
                have hK := hid hK0; clear hK0
                have HBW := hid hB
                have hsW := hB.size
                have GB := hid (YW.out.trans (hB.mono YW.out.size))
                have e0 : us 0 = .pointer (some ⟨g9, 10, none⟩) := hd ⟨0, Ground.data⟩ (by simp) rfl
                clear hd
                go_light
                have G0 := hid (heap_still hB YP.out)
                have c0 : W.cell? ⟨g9, 10, none⟩ = some (.int .i64 (pn 10)) := (cell_row (j := 10) G0.out).trans rfl
                simp only [putF]
                rw [hA, e0]
                go_frame
                go_wp2_with fail
                exact hK.out _ _ _ (by rw [hA]; simp only [putF]; rw [e0]; kernel_rfl) (Below.refl _ _) rfl
              · intro K us W hK0 hB hd
                have hK := hid hK0; clear hK0
                have HBW := hid hB
                have hsW := hB.size
                have GB := hid (YW.out.trans (hB.mono YW.out.size))
                clear hd
                go_light
                simp only [putF]
                rw [hA]
                go_frame
                go_wp2_with fail
                exact hK.out _ _ _ (by rw [hA]; simp only [putF]; kernel_rfl) (Below.refl _ _) rfl
              · intro K us W hK0 hB hd
                have hK := hid hK0; clear hK0
                have HBW := hid hB
                have hsW := hB.size
                have GB := hid (YW.out.trans (hB.mono YW.out.size))
                have e2 : us 2 = .pointer (some ⟨w.heap.size + 1, 3, none⟩) := hd ⟨2, Ground.data⟩ (by simp) rfl
                clear hd
                go_light
                have G0 := hid (heap_still hB YM.out)
                have c0 : W.cell? ⟨w.heap.size + 1, 3, none⟩ = some (.int .i64 m3) := (cell_row (j := 3) G0.out).trans rfl
                simp only [putF]
                rw [hA, e2]
                go_frame
                go_wp2_with fail
                exact hK.out _ _ _ (by rw [hA]; simp only [putF]; rw [e2]; kernel_rfl) (Below.refl _ _) rfl
              · intro K us W hK0 hB hd
                have hK := hid hK0; clear hK0
                have HBW := hid hB
                have hsW := hB.size
                have GB := hid (YW.out.trans (hB.mono YW.out.size))
                clear hd
                go_light
                simp only [putF]
                rw [hA]
                go_frame
                go_wp2_with fail
                exact hK.out _ _ _ (by rw [hA]; simp only [putF]; kernel_rfl) (Below.refl _ _) rfl
              · intro K us W hK0 hB hd
                have hK := hid hK0; clear hK0
                have HBW := hid hB
                have hsW := hB.size
                have GB := hid (YW.out.trans (hB.mono YW.out.size))
                have e3 : us 3 = .int .i64 m3 := hd ⟨3, Ground.data⟩ (by simp) rfl
                have e4 : us 4 = .int .i64 (t1 - t0) := hd ⟨4, Ground.data⟩ (by simp) rfl
                clear hd
                go_light
                simp only [putF]
                rw [hA, e3, e4]
                go_frame
                go_wp2_with fail
                refine (HSW3.out W).mono ?_
                rintro r W' ⟨rfl, hb⟩
                go_wp2_with fail
                exact hK.out _ _ _ (by rw [hA]; simp only [putF]; rw [e3, e4]; kernel_rfl) hb rfl
              · intro K us W hK0 hB hd
                have hK := hid hK0; clear hK0
                have HBW := hid hB
                have hsW := hB.size
                have GB := hid (YW.out.trans (hB.mono YW.out.size))
                have e1 : us 1 = .int .i64 (pn 10) := hd ⟨1, Ground.data⟩ (by simp) rfl
                have e5 : us 5 = .int .i64 gd := hd ⟨5, Ground.data⟩ (by simp) rfl
                clear hd
                go_light
                simp only [putF]
                rw [hA, e1, e5]
                go_frame
                go_wp2_with fail
                exact hK.out _ _ _ (by rw [hA]; simp only [putF]; rw [e1, e5]; kernel_rfl) (Below.refl _ _) rfl
              · intro K us W hK0 hB hd
                have hK := hid hK0; clear hK0
                have HBW := hid hB
                have hsW := hB.size
                have GB := hid (YW.out.trans (hB.mono YW.out.size))
                clear hd
                go_light
                simp only [putF]
                rw [hA]
                go_frame
                go_wp2_with fail
                exact hK.out _ _ _ (by rw [hA]; simp only [putF]; kernel_rfl) (Below.refl _ _) rfl
            intro K us W9ROYES hK0 hB hp
            have hK := hid hK0
            clear hK0
            have e7 : us 7 = .pointer (some ⟨g9, 10, none⟩) := hp 7 (by decide)
            have e6 : us 6 = .int .i64 (pn 10 + gd) := hp 6 (by decide)
            have HBW9ROYES := hid (YW.out.trans (hB.mono YW.out.size))
            have HSW9ROYES := hid (fun n x => @heap_still _ _ n x hB)
            have hzW9ROYES := hB.size
            have hbW9ROYES := hid hB
            clear hp
            simp only [putF]
            rw [hA, e7, e6]
            skip
            go_frame
            go_wp2_with (refine pt_store1 rfl 3 (.tmp 93) (.tmp 92) rfl g9 10 _ rfl rfl rfl rfl (HSW9ROYES.out _ _ YP.out) size3 (of_decide_eq_true rfl) ?_)
            refine hK.out undef _ _ (by rw [hA]; simp only [putF]; rw [e7, e6]; kernel_rfl) ?_
            clear hK hB hA e7 e6
            have ZP := hid (setRow_heap _ _ _ #[.int .i64 (pn 0 - wd), .int .i64 (pn 1 + wd), .int .i64 (pn 2 - wd), .int .i64 (pn 3 + wd), .int .i64 (pn 4 - wd), .int .i64 (pn 5 + wd), .int .i64 (pn 6), .int .i64 (pn 7), .int .i64 (pn 8), .int .i64 (pn 9), .int .i64 (pn 10 + gd)] _ _ (HSW9ROYES.out _ _ YP.out))
            have ZD := hid (setRow_past (cells := #[.int .i64 (pn 0 - wd), .int .i64 (pn 1 + wd), .int .i64 (pn 2 - wd), .int .i64 (pn 3 + wd), .int .i64 (pn 4 - wd), .int .i64 (pn 5 + wd), .int .i64 (pn 6), .int .i64 (pn 7), .int .i64 (pn 8), .int .i64 (pn 9), .int .i64 (pn 10 + gd)]) (HSW9ROYES.out _ _ YD.out) (by omega : w.heap.size + 1 + 1 + 1 ≠ g9))
            go_wp2_with (first | (refine wpList_load_at rfl 80 (.tmp 11) rfl rfl ZP.out Try.underlying80 rfl size80b rfl ?_) | (refine wpList_store_at rfl 80 (.tmp 8) (.tmp 94) rfl rfl rfl ZD.out size80b rfl rfl rfl ?_))
            refine bodyPost_ret (results_at2 rfl rfl (setRow_heap _ _ _ _ _ _ ZD.out) Try.underlying80 rfl size80b rfl) rfl ?_
            exact ⟨by rw [HRES2.out]; rfl, below_setRow (below_setRow HBW9ROYES.out (by omega) _) (by omega) _⟩
          · have HZ := hid (show ((p : Int) != firstN (inPart L F t1) n) = true by simp; omega)
            have HRES2 := hid (show res = .tuple #[zeroPose, .int .i64 44] by
              rw [HRES.out]; unfold poseOverV; rw [if_neg (fun h => h H1.out), HSP.out, if_neg (by decide), if_pos (Or.inr (by rw [hf]; omega))])
            clear HRES hf hpt hKe HSP
            go_enter Try.func64, Try.ntmps64
            go_wp2_with fail
            refine (rRules_any _ _ _ _ _).mono ?_
            rintro r w1 ⟨rfl, hb⟩
            have HBw1 := hid (show Below w.heap.size w w1 by have hB0 := HBw.out; refine Below.trans ?_ (hb.mono ?_); (focus ((repeat' (first | (with_reducible exact Below.refl _ _) | (with_reducible assumption) | (with_reducible refine Below.alloc ?_ ?_ _) | (with_reducible refine Below.drew ?_) | (with_reducible refine below_drewN ?_ _) | (with_reducible refine Below.setCell ?_ ?_ _) | (with_reducible refine below_setRow ?_ ?_ _) | go_size)); done)); (focus (first | (simp; done) | (simp; omega) | (have hB1 := hB0.size; simp; omega))))
            have hsw1 := hb.size
            (try simp at hsw1)
            have hzw1 : w.heap.size < w1.heap.size := by omega
            obtain ⟨hcw1, hfw1⟩ := bcell hb
            have hkw1 := hid (fun n x => @heap_still _ _ n x hb)
            clear hb
            have A1 := hid (hkw1.out _ _ (by repeat' (first | (refine heap_alloc_at _ _ _ ?_; (first | rfl | (simp; done) | (simp; omega))) | (refine heap_alloc_past _ _ _ _ ?_))) : w1.heap[w.heap.size]? = some (.cells #[.slice ad n c] 64))
            have M1 := hid (hkw1.out _ _ (by repeat' (first | (refine heap_alloc_at _ _ _ ?_; (first | rfl | (simp; done) | (simp; omega))) | (refine heap_alloc_past _ _ _ _ ?_))) : w1.heap[w.heap.size + 1]? = some (.cells #[.int .i64 m0, .int .i64 m1, .int .i64 m2, .int .i64 m3] 61))
            have T1 := hid (hkw1.out _ _ (by repeat' (first | (refine heap_alloc_at _ _ _ ?_; (first | rfl | (simp; done) | (simp; omega))) | (refine heap_alloc_past _ _ _ _ ?_))) : w1.heap[w.heap.size + 1 + 1]? = some (.cells #[.int .i64 t0, .int .i64 t1] 44))
            have D1 := hid (hkw1.out _ _ (by repeat' (first | (refine heap_alloc_at _ _ _ ?_; (first | rfl | (simp; done) | (simp; omega))) | (refine heap_alloc_past _ _ _ _ ?_))) : w1.heap[w.heap.size + 1 + 1 + 1]? = some (.cells #[.int .i64 0, .int .i64 0, .int .i64 0, .int .i64 0, .int .i64 0, .int .i64 0, .int .i64 0, .int .i64 0, .int .i64 0, .int .i64 0, .int .i64 0] 80))
            clear hcw1 hfw1
            rw [HRU.out]
            go_wp2_with (first | (refine wpList_load_at rfl 61 (.tmp 5) rfl rfl M1.out Try.underlying61 rfl size61 rfl ?_) | (refine wpList_load_at rfl 64 (.tmp 4) rfl rfl A1.out Try.underlying64 rfl size64 rfl ?_))
            refine (HT.out _ HBw1.out).mono ?_
            rintro r w2 ⟨rfl, hb⟩
            have HBw2 := hid (show Below w.heap.size w w2 by have hB0 := HBw1.out; refine Below.trans ?_ (hb.mono ?_); (focus ((repeat' (first | (with_reducible exact Below.refl _ _) | (with_reducible assumption) | (with_reducible refine Below.alloc ?_ ?_ _) | (with_reducible refine Below.drew ?_) | (with_reducible refine below_drewN ?_ _) | (with_reducible refine Below.setCell ?_ ?_ _) | (with_reducible refine below_setRow ?_ ?_ _) | go_size)); done)); (focus (first | (simp; done) | (simp; omega) | (have hB1 := hB0.size; simp; omega))))
            have hsw2 := hb.size
            (try simp at hsw2)
            have hzw2 : w.heap.size < w2.heap.size := by omega
            obtain ⟨hcw2, hfw2⟩ := bcell hb
            have hkw2 := hid (fun n x => @heap_still _ _ n x hb)
            clear hb
            rw [HTB.out]
            have A2 := hid (hkw2.out _ _ A1.out)
            have M2 := hid (hkw2.out _ _ M1.out)
            have T2 := hid (hkw2.out _ _ T1.out)
            have D2 := hid (hkw2.out _ _ D1.out)
            clear hcw2 hfw2
            go_wp2_with (first | (refine wpList_load_at rfl 44 (.tmp 6) rfl rfl T2.out Try.underlying44 rfl size44 rfl ?_))
            refine (rvalid_any _ _ _).mono ?_
            rintro r w3 ⟨rfl, hb⟩
            have HBw3 := hid (show Below w.heap.size w w3 by have hB0 := HBw2.out; refine Below.trans ?_ (hb.mono ?_); (focus ((repeat' (first | (with_reducible exact Below.refl _ _) | (with_reducible assumption) | (with_reducible refine Below.alloc ?_ ?_ _) | (with_reducible refine Below.drew ?_) | (with_reducible refine below_drewN ?_ _) | (with_reducible refine Below.setCell ?_ ?_ _) | (with_reducible refine below_setRow ?_ ?_ _) | go_size)); done)); (focus (first | (simp; done) | (simp; omega) | (have hB1 := hB0.size; simp; omega))))
            have hsw3 := hb.size
            (try simp at hsw3)
            have hzw3 : w.heap.size < w3.heap.size := by omega
            obtain ⟨hcw3, hfw3⟩ := bcell hb
            have hkw3 := hid (fun n x => @heap_still _ _ n x hb)
            clear hb
            rw [HS.out]
            have A3 := hid (hkw3.out _ _ A2.out)
            have M3 := hid (hkw3.out _ _ M2.out)
            have T3 := hid (hkw3.out _ _ T2.out)
            have D3 := hid (hkw3.out _ _ D2.out)
            clear hcw3 hfw3
            have ct0 : w3.cell? ⟨w.heap.size + 1 + 1, 0, none⟩ = some (.int .i64 t0) := (cell_row (j := 0) T3.out).trans rfl
            go_wp2_with (first | (refine wpList_load_at rfl 64 (.tmp 4) rfl rfl A3.out Try.underlying64 rfl size64 rfl ?_))
            refine (HP.out t0 _ HBw3.out).mono ?_
            rintro r w4 ⟨rfl, hb⟩
            have HBw4 := hid (show Below w.heap.size w w4 by have hB0 := HBw3.out; refine Below.trans ?_ (hb.mono ?_); (focus ((repeat' (first | (with_reducible exact Below.refl _ _) | (with_reducible assumption) | (with_reducible refine Below.alloc ?_ ?_ _) | (with_reducible refine Below.drew ?_) | (with_reducible refine below_drewN ?_ _) | (with_reducible refine Below.setCell ?_ ?_ _) | (with_reducible refine below_setRow ?_ ?_ _) | go_size)); done)); (focus (first | (simp; done) | (simp; omega) | (have hB1 := hB0.size; simp; omega))))
            have hsw4 := hb.size
            (try simp at hsw4)
            have hzw4 : w.heap.size < w4.heap.size := by omega
            obtain ⟨hcw4, hfw4⟩ := bcell hb
            have hkw4 := hid (fun n x => @heap_still _ _ n x hb)
            clear hb
            have A4 := hid (hkw4.out _ _ A3.out)
            have M4 := hid (hkw4.out _ _ M3.out)
            have T4 := hid (hkw4.out _ _ T3.out)
            have D4 := hid (hkw4.out _ _ D3.out)
            clear hcw4 hfw4
            clear ct0
            rw [HF.out]
            have ct0 : w4.cell? ⟨w.heap.size + 1 + 1, 1, none⟩ = some (.int .i64 t1) := (cell_row (j := 1) T4.out).trans rfl
            go_wp2_with (first | (refine wpList_load_at rfl 64 (.tmp 4) rfl rfl A4.out Try.underlying64 rfl size64 rfl ?_))
            refine (HP.out t1 _ HBw4.out).mono ?_
            rintro r w5 ⟨rfl, hb⟩
            have HBw5 := hid (show Below w.heap.size w w5 by have hB0 := HBw4.out; refine Below.trans ?_ (hb.mono ?_); (focus ((repeat' (first | (with_reducible exact Below.refl _ _) | (with_reducible assumption) | (with_reducible refine Below.alloc ?_ ?_ _) | (with_reducible refine Below.drew ?_) | (with_reducible refine below_drewN ?_ _) | (with_reducible refine Below.setCell ?_ ?_ _) | (with_reducible refine below_setRow ?_ ?_ _) | go_size)); done)); (focus (first | (simp; done) | (simp; omega) | (have hB1 := hB0.size; simp; omega))))
            have hsw5 := hb.size
            (try simp at hsw5)
            have hzw5 : w.heap.size < w5.heap.size := by omega
            obtain ⟨hcw5, hfw5⟩ := bcell hb
            have hkw5 := hid (fun n x => @heap_still _ _ n x hb)
            clear hb
            have A5 := hid (hkw5.out _ _ A4.out)
            have M5 := hid (hkw5.out _ _ M4.out)
            have T5 := hid (hkw5.out _ _ T4.out)
            have D5 := hid (hkw5.out _ _ D4.out)
            clear hcw5 hfw5
            clear ct0
            have hzz := HZ.out
            go_wp2_with (refine wpList_store_at rfl 80 (.tmp 8) (.tmp 45) rfl rfl rfl D5.out size80b rfl rfl rfl ?_)
            refine bodyPost_ret (results_at2 rfl rfl (setRow_heap _ _ _ _ _ _ D5.out) Try.underlying80 rfl size80b rfl) rfl ?_
            exact ⟨by rw [HRES2.out]; rfl, below_setRow HBw5.out (by omega) _⟩
      · have HS := hid (Bool.eq_false_iff.2 hs)
        have HRES2 := hid (show res = .tuple #[zeroPose, .int .i64 2] by rw [HRES.out]; unfold poseOverV; rw [if_neg (fun h => h H1.out), HS.out, if_pos (by decide)])
        clear hs HRES
        go_enter Try.func64, Try.ntmps64
        go_wp2_with fail
        refine (rRules_any _ _ _ _ _).mono ?_
        rintro r w1 ⟨rfl, hb⟩
        have HBw1 := hid (show Below w.heap.size w w1 by have hB0 := HBw.out; refine Below.trans ?_ (hb.mono ?_); (focus ((repeat' (first | (with_reducible exact Below.refl _ _) | (with_reducible assumption) | (with_reducible refine Below.alloc ?_ ?_ _) | (with_reducible refine Below.drew ?_) | (with_reducible refine below_drewN ?_ _) | (with_reducible refine Below.setCell ?_ ?_ _) | (with_reducible refine below_setRow ?_ ?_ _) | go_size)); done)); (focus (first | (simp; done) | (simp; omega) | (have hB1 := hB0.size; simp; omega))))
        have hsw1 := hb.size
        (try simp at hsw1)
        have hzw1 : w.heap.size < w1.heap.size := by omega
        obtain ⟨hcw1, hfw1⟩ := bcell hb
        have hkw1 := hid (fun n x => @heap_still _ _ n x hb)
        clear hb
        have A1 := hid (hkw1.out _ _ (by repeat' (first | (refine heap_alloc_at _ _ _ ?_; (first | rfl | (simp; done) | (simp; omega))) | (refine heap_alloc_past _ _ _ _ ?_))) : w1.heap[w.heap.size]? = some (.cells #[.slice ad n c] 64))
        have M1 := hid (hkw1.out _ _ (by repeat' (first | (refine heap_alloc_at _ _ _ ?_; (first | rfl | (simp; done) | (simp; omega))) | (refine heap_alloc_past _ _ _ _ ?_))) : w1.heap[w.heap.size + 1]? = some (.cells #[.int .i64 m0, .int .i64 m1, .int .i64 m2, .int .i64 m3] 61))
        have T1 := hid (hkw1.out _ _ (by repeat' (first | (refine heap_alloc_at _ _ _ ?_; (first | rfl | (simp; done) | (simp; omega))) | (refine heap_alloc_past _ _ _ _ ?_))) : w1.heap[w.heap.size + 1 + 1]? = some (.cells #[.int .i64 t0, .int .i64 t1] 44))
        have D1 := hid (hkw1.out _ _ (by repeat' (first | (refine heap_alloc_at _ _ _ ?_; (first | rfl | (simp; done) | (simp; omega))) | (refine heap_alloc_past _ _ _ _ ?_))) : w1.heap[w.heap.size + 1 + 1 + 1]? = some (.cells #[.int .i64 0, .int .i64 0, .int .i64 0, .int .i64 0, .int .i64 0, .int .i64 0, .int .i64 0, .int .i64 0, .int .i64 0, .int .i64 0, .int .i64 0] 80))
        clear hcw1 hfw1
        rw [HRU.out]
        go_wp2_with (first | (refine wpList_load_at rfl 61 (.tmp 5) rfl rfl M1.out Try.underlying61 rfl size61 rfl ?_) | (refine wpList_load_at rfl 64 (.tmp 4) rfl rfl A1.out Try.underlying64 rfl size64 rfl ?_))
        refine (HT.out _ HBw1.out).mono ?_
        rintro r w2 ⟨rfl, hb⟩
        have HBw2 := hid (show Below w.heap.size w w2 by have hB0 := HBw1.out; refine Below.trans ?_ (hb.mono ?_); (focus ((repeat' (first | (with_reducible exact Below.refl _ _) | (with_reducible assumption) | (with_reducible refine Below.alloc ?_ ?_ _) | (with_reducible refine Below.drew ?_) | (with_reducible refine below_drewN ?_ _) | (with_reducible refine Below.setCell ?_ ?_ _) | (with_reducible refine below_setRow ?_ ?_ _) | go_size)); done)); (focus (first | (simp; done) | (simp; omega) | (have hB1 := hB0.size; simp; omega))))
        have hsw2 := hb.size
        (try simp at hsw2)
        have hzw2 : w.heap.size < w2.heap.size := by omega
        obtain ⟨hcw2, hfw2⟩ := bcell hb
        have hkw2 := hid (fun n x => @heap_still _ _ n x hb)
        clear hb
        rw [HTB.out]
        have A2 := hid (hkw2.out _ _ A1.out)
        have M2 := hid (hkw2.out _ _ M1.out)
        have T2 := hid (hkw2.out _ _ T1.out)
        have D2 := hid (hkw2.out _ _ D1.out)
        clear hcw2 hfw2
        go_wp2_with (first | (refine wpList_load_at rfl 44 (.tmp 6) rfl rfl T2.out Try.underlying44 rfl size44 rfl ?_))
        refine (rvalid_any _ _ _).mono ?_
        rintro r w3 ⟨rfl, hb⟩
        have HBw3 := hid (show Below w.heap.size w w3 by have hB0 := HBw2.out; refine Below.trans ?_ (hb.mono ?_); (focus ((repeat' (first | (with_reducible exact Below.refl _ _) | (with_reducible assumption) | (with_reducible refine Below.alloc ?_ ?_ _) | (with_reducible refine Below.drew ?_) | (with_reducible refine below_drewN ?_ _) | (with_reducible refine Below.setCell ?_ ?_ _) | (with_reducible refine below_setRow ?_ ?_ _) | go_size)); done)); (focus (first | (simp; done) | (simp; omega) | (have hB1 := hB0.size; simp; omega))))
        have hsw3 := hb.size
        (try simp at hsw3)
        have hzw3 : w.heap.size < w3.heap.size := by omega
        obtain ⟨hcw3, hfw3⟩ := bcell hb
        have hkw3 := hid (fun n x => @heap_still _ _ n x hb)
        clear hb
        rw [HS.out]
        have A3 := hid (hkw3.out _ _ A2.out)
        have M3 := hid (hkw3.out _ _ M2.out)
        have T3 := hid (hkw3.out _ _ T2.out)
        have D3 := hid (hkw3.out _ _ D2.out)
        clear hcw3 hfw3
        go_wp2_with (refine wpList_store_at rfl 80 (.tmp 8) (.tmp 30) rfl rfl rfl D3.out size80b rfl rfl rfl ?_)
        refine bodyPost_ret (results_at2 rfl rfl (setRow_heap _ _ _ _ _ _ D3.out) Try.underlying80 rfl size80b rfl) rfl ?_
        exact ⟨by rw [HRES2.out]; rfl, below_setRow HBw3.out (by omega) _⟩
    · have HTB := hid (Bool.eq_false_iff.2 htb)
      have HRES2 := hid (show res = .tuple #[zeroPose, .int .i64 43] by rw [HRES.out]; unfold poseOverV; rw [if_pos (by unfold checkV; rw [if_neg (by rw [hru]; decide), if_pos HTB.out]; decide)]; unfold checkV; rw [if_neg (by rw [hru]; decide), if_pos HTB.out])
      clear htb hru HRES
      go_enter Try.func64, Try.ntmps64
      go_wp2_with fail
      refine (rRules_any _ _ _ _ _).mono ?_
      rintro r w1 ⟨rfl, hb⟩
      have HBw1 := hid (show Below w.heap.size w w1 by have hB0 := HBw.out; refine Below.trans ?_ (hb.mono ?_); (focus ((repeat' (first | (with_reducible exact Below.refl _ _) | (with_reducible assumption) | (with_reducible refine Below.alloc ?_ ?_ _) | (with_reducible refine Below.drew ?_) | (with_reducible refine below_drewN ?_ _) | (with_reducible refine Below.setCell ?_ ?_ _) | (with_reducible refine below_setRow ?_ ?_ _) | go_size)); done)); (focus (first | (simp; done) | (simp; omega) | (have hB1 := hB0.size; simp; omega))))
      have hsw1 := hb.size
      (try simp at hsw1)
      have hzw1 : w.heap.size < w1.heap.size := by omega
      obtain ⟨hcw1, hfw1⟩ := bcell hb
      have hkw1 := hid (fun n x => @heap_still _ _ n x hb)
      clear hb
      have A1 := hid (hkw1.out _ _ (by repeat' (first | (refine heap_alloc_at _ _ _ ?_; (first | rfl | (simp; done) | (simp; omega))) | (refine heap_alloc_past _ _ _ _ ?_))) : w1.heap[w.heap.size]? = some (.cells #[.slice ad n c] 64))
      have M1 := hid (hkw1.out _ _ (by repeat' (first | (refine heap_alloc_at _ _ _ ?_; (first | rfl | (simp; done) | (simp; omega))) | (refine heap_alloc_past _ _ _ _ ?_))) : w1.heap[w.heap.size + 1]? = some (.cells #[.int .i64 m0, .int .i64 m1, .int .i64 m2, .int .i64 m3] 61))
      have T1 := hid (hkw1.out _ _ (by repeat' (first | (refine heap_alloc_at _ _ _ ?_; (first | rfl | (simp; done) | (simp; omega))) | (refine heap_alloc_past _ _ _ _ ?_))) : w1.heap[w.heap.size + 1 + 1]? = some (.cells #[.int .i64 t0, .int .i64 t1] 44))
      have D1 := hid (hkw1.out _ _ (by repeat' (first | (refine heap_alloc_at _ _ _ ?_; (first | rfl | (simp; done) | (simp; omega))) | (refine heap_alloc_past _ _ _ _ ?_))) : w1.heap[w.heap.size + 1 + 1 + 1]? = some (.cells #[.int .i64 0, .int .i64 0, .int .i64 0, .int .i64 0, .int .i64 0, .int .i64 0, .int .i64 0, .int .i64 0, .int .i64 0, .int .i64 0, .int .i64 0] 80))
      clear hcw1 hfw1
      rw [HRU.out]
      go_wp2_with (first | (refine wpList_load_at rfl 61 (.tmp 5) rfl rfl M1.out Try.underlying61 rfl size61 rfl ?_) | (refine wpList_load_at rfl 64 (.tmp 4) rfl rfl A1.out Try.underlying64 rfl size64 rfl ?_))
      refine (HT.out _ HBw1.out).mono ?_
      rintro r w2 ⟨rfl, hb⟩
      have HBw2 := hid (show Below w.heap.size w w2 by have hB0 := HBw1.out; refine Below.trans ?_ (hb.mono ?_); (focus ((repeat' (first | (with_reducible exact Below.refl _ _) | (with_reducible assumption) | (with_reducible refine Below.alloc ?_ ?_ _) | (with_reducible refine Below.drew ?_) | (with_reducible refine below_drewN ?_ _) | (with_reducible refine Below.setCell ?_ ?_ _) | (with_reducible refine below_setRow ?_ ?_ _) | go_size)); done)); (focus (first | (simp; done) | (simp; omega) | (have hB1 := hB0.size; simp; omega))))
      have hsw2 := hb.size
      (try simp at hsw2)
      have hzw2 : w.heap.size < w2.heap.size := by omega
      obtain ⟨hcw2, hfw2⟩ := bcell hb
      have hkw2 := hid (fun n x => @heap_still _ _ n x hb)
      clear hb
      rw [HTB.out]
      have A2 := hid (hkw2.out _ _ A1.out)
      have M2 := hid (hkw2.out _ _ M1.out)
      have T2 := hid (hkw2.out _ _ T1.out)
      have D2 := hid (hkw2.out _ _ D1.out)
      clear hcw2 hfw2
      go_wp2_with (refine wpList_store_at rfl 80 (.tmp 8) (.tmp 23) rfl rfl rfl D2.out size80b rfl rfl rfl ?_)
      refine bodyPost_ret (results_at2 rfl rfl (setRow_heap _ _ _ _ _ _ D2.out) Try.underlying80 rfl size80b rfl) rfl ?_
      exact ⟨by rw [HRES2.out]; rfl, below_setRow HBw2.out (by omega) _⟩
  · have HRU := hid (Bool.eq_false_iff.2 hru)
    have HRES2 := hid (show res = .tuple #[zeroPose, .int .i64 42] by rw [HRES.out]; unfold poseOverV; rw [if_pos (by unfold checkV; rw [if_pos HRU.out]; decide)]; unfold checkV; rw [if_pos HRU.out])
    clear hru HRES
    go_enter Try.func64, Try.ntmps64
    go_wp2_with fail
    refine (rRules_any _ _ _ _ _).mono ?_
    rintro r w1 ⟨rfl, hb⟩
    have HBw1 := hid (show Below w.heap.size w w1 by have hB0 := HBw.out; refine Below.trans ?_ (hb.mono ?_); (focus ((repeat' (first | (with_reducible exact Below.refl _ _) | (with_reducible assumption) | (with_reducible refine Below.alloc ?_ ?_ _) | (with_reducible refine Below.drew ?_) | (with_reducible refine below_drewN ?_ _) | (with_reducible refine Below.setCell ?_ ?_ _) | (with_reducible refine below_setRow ?_ ?_ _) | go_size)); done)); (focus (first | (simp; done) | (simp; omega) | (have hB1 := hB0.size; simp; omega))))
    have hsw1 := hb.size
    (try simp at hsw1)
    have hzw1 : w.heap.size < w1.heap.size := by omega
    obtain ⟨hcw1, hfw1⟩ := bcell hb
    have hkw1 := hid (fun n x => @heap_still _ _ n x hb)
    clear hb
    have A1 := hid (hkw1.out _ _ (by repeat' (first | (refine heap_alloc_at _ _ _ ?_; (first | rfl | (simp; done) | (simp; omega))) | (refine heap_alloc_past _ _ _ _ ?_))) : w1.heap[w.heap.size]? = some (.cells #[.slice ad n c] 64))
    have M1 := hid (hkw1.out _ _ (by repeat' (first | (refine heap_alloc_at _ _ _ ?_; (first | rfl | (simp; done) | (simp; omega))) | (refine heap_alloc_past _ _ _ _ ?_))) : w1.heap[w.heap.size + 1]? = some (.cells #[.int .i64 m0, .int .i64 m1, .int .i64 m2, .int .i64 m3] 61))
    have T1 := hid (hkw1.out _ _ (by repeat' (first | (refine heap_alloc_at _ _ _ ?_; (first | rfl | (simp; done) | (simp; omega))) | (refine heap_alloc_past _ _ _ _ ?_))) : w1.heap[w.heap.size + 1 + 1]? = some (.cells #[.int .i64 t0, .int .i64 t1] 44))
    have D1 := hid (hkw1.out _ _ (by repeat' (first | (refine heap_alloc_at _ _ _ ?_; (first | rfl | (simp; done) | (simp; omega))) | (refine heap_alloc_past _ _ _ _ ?_))) : w1.heap[w.heap.size + 1 + 1 + 1]? = some (.cells #[.int .i64 0, .int .i64 0, .int .i64 0, .int .i64 0, .int .i64 0, .int .i64 0, .int .i64 0, .int .i64 0, .int .i64 0, .int .i64 0, .int .i64 0] 80))
    clear hcw1 hfw1
    rw [HRU.out]
    go_wp2_with (refine wpList_store_at rfl 80 (.tmp 8) (.tmp 18) rfl rfl rfl D1.out size80b rfl rfl rfl ?_)
    refine bodyPost_ret (results_at2 rfl rfl (setRow_heap _ _ _ _ _ _ D1.out) Try.underlying80 rfl size80b rfl) rfl ?_
    exact ⟨by rw [HRES2.out]; rfl, below_setRow HBw1.out (by omega) _⟩
end Go.Proofs.Yteoikaedpgianaa
