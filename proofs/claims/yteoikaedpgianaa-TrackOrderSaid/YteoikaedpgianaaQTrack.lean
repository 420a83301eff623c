/- Tracks: what the tests of the program and of its reference return. -/
import Derived.Test.YteoikaedpgianaaQValid
namespace Go.Proofs.Yteoikaedpgianaa
open Go.RowKit

theorem size55 : (Try.prog.info? 55).map (·.size) = some 10 := by kernel_rfl
/-- a fix by its ten cells -/
def fixF (g : Nat → Int) : Bool := fixB (g 0) (g 1) (g 2) (g 3) (g 4) (g 5) (g 6) (g 7) (g 8) (g 9)
/-- the time of the last fix of the part before, -1 ahead of the first -/
def lastE (L : Nat → Nat) (F : Nat → Nat → Nat → Int) : Nat → Int
  | 0 => -1
  | p + 1 => F p (L p - 1) 0
def lastI (L : Nat → Nat) (F : Nat → Nat → Nat → Int) (p : Nat) : Nat → Int
  | 0 => lastE L F p
  | i + 1 => F p i 0
def stepB (gap : Int) (L : Nat → Nat) (F : Nat → Nat → Nat → Int) (p i : Nat) : Bool :=
  fixF (F p i) && decide (lastI L F p i < F p i 0) && (decide (i = 0) || decide (F p i 0 - lastI L F p i ≤ gap))
def partB (gap : Int) (L : Nat → Nat) (F : Nat → Nat → Nat → Int) (p : Nat) : Bool := decide (0 < L p) && allN (stepB gap L F p) (L p)
def trackB (m0 m1 m2 m3 : Int) (n : Nat) (L : Nat → Nat) (F : Nat → Nat → Nat → Int) : Bool := rulesB m0 m1 m2 m3 && allN (partB m0 L F) n

def recs10 (w : World) (b off n : Nat) (F : Nat → Nat → Int) : Prop := ∀ i, i < n → ∀ j, j < 10 → w.cell? ⟨b, off + i * 10 + j, none⟩ = some (.int .i64 (F i j))
theorem recs10.still {w w' : World} {b off n B : Nat} {F : Nat → Nat → Int} (h : recs10 w b off n F) (hb : Below B w w') (hB : b < B) : recs10 w' b off n F :=
  fun i hi j hj => by rw [hb.cell hB]; exact h i hi j hj
def trackAt (w : World) (b off n : Nat) (A : Nat → Option Addr) (L C : Nat → Nat) (F : Nat → Nat → Nat → Int) : Prop :=
  ∀ p, p < n → w.cell? ⟨b, off + p, none⟩ = some (.slice (A p) (L p) (C p)) ∧ (0 < L p → ∃ b' o', A p = some ⟨b', o', none⟩ ∧ b' < w.heap.size ∧ recs10 w b' o' (L p) (F p))

theorem stepB_of {gap : Int} {L : Nat → Nat} {F : Nat → Nat → Nat → Int} {p i : Nat} {f0 l : Int} {bb : Bool} (h : fixF (F p i) = bb) (h0 : F p i 0 = f0) (hl : lastI L F p i = l) :
    stepB gap L F p i = (bb && decide (l < f0) && (decide (i = 0) || decide (f0 - l ≤ gap))) := by subst h h0 hl; rfl
theorem part_bad {gap : Int} {L : Nat → Nat} {F : Nat → Nat → Nat → Int} {m1 m2 m3 : Int} {n p i : Nat} (hp : p < n) (hi : i < L p) (h : stepB gap L F p i = false) : trackB gap m1 m2 m3 n L F = false := by
  unfold trackB
  rw [allN_stop hp (by unfold partB; rw [allN_stop hi h, Bool.and_false]), Bool.and_false]
theorem part_none {gap : Int} {L : Nat → Nat} {F : Nat → Nat → Nat → Int} {m1 m2 m3 : Int} {n p : Nat} (hp : p < n) (h : L p = 0) : trackB gap m1 m2 m3 n L F = false := by
  unfold trackB
  rw [allN_stop hp (by unfold partB; rw [h]; rfl), Bool.and_false]
theorem part_next {gap : Int} {L : Nat → Nat} {F : Nat → Nat → Nat → Int} {p : Nat} (hp : 0 < L p) (h : allN (stepB gap L F p) (L p) = true) : partB gap L F p = true := by
  unfold partB; rw [h, decide_eq_true hp]; rfl
theorem last_next {L : Nat → Nat} {F : Nat → Nat → Nat → Int} {p : Nat} (hp : 0 < L p) : lastI L F p (L p) = lastE L F (p + 1) := by
  obtain ⟨q, hq⟩ : ∃ q, L p = q + 1 := ⟨L p - 1, by omega⟩
  show lastI L F p (L p) = F p (L p - 1) 0
  rw [hq]
  show F p q 0 = F p (q + 1 - 1) 0
  rw [Nat.add_sub_cancel]
theorem fixF_time {g : Nat → Int} (h : fixF g = true) : 0 ≤ g 0 ∧ g 0 ≤ 1125899906842624 := by
  simp [fixF, fixB, inB] at h; omega
theorem last_bd {gap : Int} {L : Nat → Nat} {F : Nat → Nat → Nat → Int} {p i : Nat} (h : allN (stepB gap L F p) i = true) (hi : 0 < i) : 0 ≤ lastI L F p i ∧ lastI L F p i ≤ 1125899906842624 := by
  match i, hi with
  | k + 1, _ =>
    have := allN_iff.1 h k (by omega)
    unfold stepB at this
    simp only [Bool.and_eq_true] at this
    exact fixF_time this.1.1

theorem step_first {gap : Int} {L : Nat → Nat} {F : Nat → Nat → Nat → Int} {p : Nat} (h : F p 0 0 ≤ lastE L F p) : stepB gap L F p 0 = false := by
  unfold stepB
  rw [show decide (lastI L F p 0 < F p 0 0) = false from decide_eq_false (show ¬ lastE L F p < F p 0 0 by omega), Bool.and_false, Bool.false_and]


set_option maxRecDepth 100000 in
set_option maxHeartbeats 1600000 in
theorem xTrack_yes (b off n c : Nat) (A : Nat → Option Addr) (L C : Nat → Nat) (F : Nat → Nat → Nat → Int) (m0 m1 m2 m3 : Int) (w : World) (hbw : b < w.heap.size) (hn : n ≤ 9223372036854775807) (hL : ∀ p, L p ≤ 9223372036854775807)
    (hr : rulesB m0 m1 m2 m3 = true) (ht : trackAt w b off n A L C F) :
    Calls Try.prog 43 #[.agg #[.slice (some ⟨b, off, none⟩) n c], .agg #[.int .i64 m0, .int .i64 m1, .int .i64 m2, .int .i64 m3]] w fun e w' => e = .returned (.bool (trackB m0 m1 m2 m3 n L F)) ∧ Below w.heap.size w w' := by
  have HT := hid ht
  have HR := hid hr
  have HL := hid hL
  have hm : 1 ≤ m0 ∧ m0 ≤ 10000000 := by simp [rulesB, inB] at hr; omega
  clear ht hr hL
  have HBw := hid (Below.refl w.heap.size w)
  go_enter Try.func43, Try.ntmps43
  go_wp2_with fail
  refine (xRules_any _ _ _ _ _).mono ?_
  rintro r w1 ⟨rfl, hb⟩
  have HBw1 := hid (show Below w.heap.size w w1 by have hB0 := HBw.out; refine Below.trans ?_ (hb.mono ?_); (focus ((repeat' (first | (with_reducible exact Below.refl _ _) | (with_reducible assumption) | (with_reducible refine Below.alloc ?_ ?_ _) | (with_reducible refine Below.drew ?_) | (with_reducible refine below_drewN ?_ _) | (with_reducible refine Below.setCell ?_ ?_ _) | (with_reducible refine below_setRow ?_ ?_ _) | go_size)); done)); (focus (first | (simp; done) | (simp; omega) | (have hB1 := hB0.size; simp; omega))))
  have hsw1 := hb.size
  (try simp at hsw1)
  have hzw1 : w.heap.size < w1.heap.size := by omega
  obtain ⟨hcw1, hfw1⟩ := bcell hb
  have hkw1 := hid (fun n x => @heap_still _ _ n x hb)
  clear hb
  rw [HR.out]
  have hy1 : w.heap.size + 1 < w1.heap.size := by omega
  have M1 := hid (show w1.heap[w.heap.size + 1]? = some (.cells #[.int .i64 m0, .int .i64 m1, .int .i64 m2, .int .i64 m3] 61) from hkw1.out _ _ (by repeat' (first | (refine heap_alloc_at _ _ _ ?_; (first | rfl | (simp; done) | (simp; omega))) | (refine heap_alloc_past _ _ _ _ ?_))))
  go_wp2_with fail
  go_loopw [5, 16] (fun l i W => ∃ (k : Nat), k ≤ n ∧ i = .int .i64 k ∧ l = .int .i64 (lastE L F k) ∧ allN (partB m0 L F) k = true ∧ Below w.heap.size w W ∧ w.heap.size + 1 < W.heap.size ∧ W.heap[w.heap.size + 1]? = some (.cells #[.int .i64 m0, .int .i64 m1, .int .i64 m2, .int .i64 m3] 61)) (fun _ i _ => n - (intOf i).toNat)
  case atStart => exact ⟨0, by omega, rfl, rfl, rfl, HBw1.out, hy1, M1.out⟩
  case round =>
    clear hcw1 hfw1 hkw1 M1 HBw1 hsw1 hzw1 hy1
    obtain ⟨k, hk, rfl, rfl, hall, hB, hsz, h1⟩ := hrel
    have HBwr := hid hB
    have H1 := hid h1
    have HA := hid hall
    by_cases hlt : k < n
    · obtain ⟨d0, hp⟩ := HT.out k hlt
      have e0 : wr.cell? ⟨b, off + k, none⟩ = some (.slice (A k) (L k) (C k)) := by rw [hB.cell hbw]; exact d0
      have hLk := HL.out k
      clear hB h1 hall d0
      by_cases hz : L k = 0
      · have HX := hid (part_none (gap := m0) (m1 := m1) (m2 := m2) (m3 := m3) (F := F) hlt hz)
        rw [hz] at e0
        clear hp
        go_wp2_with fail
        go_ret
        exact ⟨by rw [HX.out]; rfl, HBwr.out⟩
      · have hpos : 0 < L k := by omega
        obtain ⟨b', o', ha, hb', hrec⟩ := hp hpos
        rw [ha] at e0
        have HREC := hid hrec
        have z0 := hrec.still HBwr.out hb' 0 hpos 0 (by omega)
        simp only [Nat.zero_mul, Nat.add_zero] at z0
        have hnz : ((L k : Int) == 0) = false := by simp; omega
        clear hp hrec ha
        by_cases hl : F k 0 0 ≤ lastE L F k
        · have HX := hid (part_bad (m1 := m1) (m2 := m2) (m3 := m3) hlt hpos (step_first (gap := m0) hl))
          go_wp2_with fail
          go_ret
          exact ⟨by rw [HX.out]; rfl, HBwr.out⟩
        · have HLL := hid (show lastE L F k < F k 0 0 by omega)
          go_wp2_with fail
          clear z0 e0
          obtain ⟨wo, rfl⟩ : ∃ wo : World, wo = wr := ⟨_, rfl⟩
          go_loopw [5, 33] (fun l i W => ∃ (q : Nat), q ≤ L k ∧ i = .int .i64 q ∧ l = .int .i64 (lastI L F k q) ∧ allN (stepB m0 L F k) q = true ∧ Below w.heap.size w W ∧ w.heap.size + 1 < W.heap.size ∧ W.heap[w.heap.size + 1]? = some (.cells #[.int .i64 m0, .int .i64 m1, .int .i64 m2, .int .i64 m3] 61)) (fun _ i _ => L k - (intOf i).toNat)
          case atStart => exact ⟨0, by omega, rfl, rfl, rfl, HBwr.out, hsz, H1.out⟩
          case round =>
            obtain ⟨q, hq, rfl, rfl, hst, hB, hsz2, h2⟩ := hrel
            have HBwr := hid hB
            have H2 := hid h2
            have HS := hid hst
            by_cases hlt2 : q < L k
            · have hrq := HREC.out.still hB hb' q hlt2
              have c0 := hrq 0 (by omega)
              simp only [Nat.add_zero] at c0
              have c1 := hrq 1 (by omega)
              have c2 := hrq 2 (by omega)
              have c3 := hrq 3 (by omega)
              have c4 := hrq 4 (by omega)
              have c5 := hrq 5 (by omega)
              have c6 := hrq 6 (by omega)
              have c7 := hrq 7 (by omega)
              have c8 := hrq 8 (by omega)
              have c9 := hrq 9 (by omega)
              have HQ := hid (show lastI L F k (q + 1) = F k q 0 from rfl)
              have HN := hid (fun h : stepB m0 L F k q = true => allN_next HS.out h)
              have HB := hid (fun h : stepB m0 L F k q = false => part_bad (m1 := m1) (m2 := m2) (m3 := m3) hlt hlt2 h)
              have HOK := hid (fun bb (h : fixB (F k q 0) (F k q 1) (F k q 2) (F k q 3) (F k q 4) (F k q 5) (F k q 6) (F k q 7) (F k q 8) (F k q 9) = bb) => stepB_of (gap := m0) (L := L) h rfl (rfl : lastI L F k q = _))
              have hbd : 0 < q → 0 ≤ lastI L F k q ∧ lastI L F k q ≤ 1125899906842624 := fun h => last_bd hst h
              have hl0 : q = 0 → lastI L F k q < F k q 0 := by rintro rfl; exact HLL.out
              have hfix : fixB (F k q 0) (F k q 1) (F k q 2) (F k q 3) (F k q 4) (F k q 5) (F k q 6) (F k q 7) (F k q 8) (F k q 9) = true → 0 ≤ F k q 0 ∧ F k q 0 ≤ 1125899906842624 := fun h => fixF_time (g := F k q) h
              have hsz3 : w.heap.size < wr.heap.size := by omega
              have g0 : wr.cell? ⟨w.heap.size + 1, 0, none⟩ = some (.int .i64 m0) := (cell_row (j := 0) h2).trans rfl
              clear hrq hB h2 hst hl HLL hnz
              generalize F k q 0 = f0 at *
              generalize F k q 1 = f1 at *
              generalize F k q 2 = f2 at *
              generalize F k q 3 = f3 at *
              generalize F k q 4 = f4 at *
              generalize F k q 5 = f5 at *
              generalize F k q 6 = f6 at *
              generalize F k q 7 = f7 at *
              generalize F k q 8 = f8 at *
              generalize F k q 9 = f9 at *
              generalize lastI L F k q = l at *
              by_cases hf : fixB f0 f1 f2 f3 f4 f5 f6 f7 f8 f9 = true
              · have HF := hid hf
                have hf0 := hfix hf
                clear hfix hf
                by_cases hq0 : q = 0
                · have hl0' := hl0 hq0
                  clear hl0 hbd
                  have HX := hid (HN.out (by rw [HOK.out _ HF.out]; simp; omega))
                  subst hq0
                  simp only [Nat.zero_mul, Nat.add_zero] at c0 c1 c2 c3 c4 c5 c6 c7 c8 c9
                  go_wp2_with (first | (refine wpList_store_new rfl 55 (.tmp 9) (.tmp 37) rfl rfl rfl rfl size55 rfl rfl rfl ?_) | (refine wpList_load_at rfl 55 (.tmp 9) rfl rfl (heap_alloc_at _ _ _ rfl) Try.underlying55 rfl size55 rfl ?_))
                  refine (xFix_any _ _ _ _ _ _ _ _ _ _ _).mono ?_
                  rintro r w2 ⟨rfl, hb⟩
                  have HBw2 := hid (show Below w.heap.size w w2 by have hB0 := HBwr.out; refine Below.trans ?_ (hb.mono ?_); (focus ((repeat' (first | (with_reducible exact Below.refl _ _) | (with_reducible assumption) | (with_reducible refine Below.alloc ?_ ?_ _) | (with_reducible refine Below.drew ?_) | (with_reducible refine below_drewN ?_ _) | (with_reducible refine Below.setCell ?_ ?_ _) | (with_reducible refine below_setRow ?_ ?_ _) | go_size)); done)); (focus (first | (simp; done) | (simp; omega) | (have hB1 := hB0.size; simp; omega))))
                  have hsw2 := hb.size
                  (try simp at hsw2)
                  have hzw2 : w.heap.size < w2.heap.size := by omega
                  obtain ⟨hcw2, hfw2⟩ := bcell hb
                  have hkw2 := hid (fun n x => @heap_still _ _ n x hb)
                  clear hb
                  rw [HF.out]
                  have hy2 : wr.heap.size < w2.heap.size := by omega
                  have hy3 : w.heap.size + 1 < w2.heap.size := by omega
                  go_wp2_with fail
                  go_roundw
                  case rel => exact ⟨0 + 1, by omega, by go_num, by rw [HQ.out], HX.out, HBw2.out, hy3, hkw2.out _ _ (heap_alloc_past _ _ _ _ H2.out)⟩
                  case measure => simp [intOf]; omega
                · have hbd' := hbd (by omega)
                  clear hl0 hbd
                  by_cases hle : f0 ≤ l
                  · have HX := hid (HB.out (by rw [HOK.out _ HF.out]; simp; omega))
                    go_wp2_with (first | (refine wpList_store_new rfl 55 (.tmp 9) (.tmp 37) rfl rfl rfl rfl size55 rfl rfl rfl ?_) | (refine wpList_load_at rfl 55 (.tmp 9) rfl rfl (heap_alloc_at _ _ _ rfl) Try.underlying55 rfl size55 rfl ?_))
                    refine (xFix_any _ _ _ _ _ _ _ _ _ _ _).mono ?_
                    rintro r w2 ⟨rfl, hb⟩
                    have HBw2 := hid (show Below w.heap.size w w2 by have hB0 := HBwr.out; refine Below.trans ?_ (hb.mono ?_); (focus ((repeat' (first | (with_reducible exact Below.refl _ _) | (with_reducible assumption) | (with_reducible refine Below.alloc ?_ ?_ _) | (with_reducible refine Below.drew ?_) | (with_reducible refine below_drewN ?_ _) | (with_reducible refine Below.setCell ?_ ?_ _) | (with_reducible refine below_setRow ?_ ?_ _) | go_size)); done)); (focus (first | (simp; done) | (simp; omega) | (have hB1 := hB0.size; simp; omega))))
                    have hsw2 := hb.size
                    (try simp at hsw2)
                    have hzw2 : w.heap.size < w2.heap.size := by omega
                    obtain ⟨hcw2, hfw2⟩ := bcell hb
                    have hkw2 := hid (fun n x => @heap_still _ _ n x hb)
                    clear hb
                    rw [HF.out]
                    have hy2 : wr.heap.size < w2.heap.size := by omega
                    have hy3 : w.heap.size + 1 < w2.heap.size := by omega
                    go_wp2_with fail
                    go_ret
                    exact ⟨by rw [HX.out]; rfl, HBw2.out⟩
                  · by_cases hg : m0 < f0 - l
                    · have HX := hid (HB.out (by rw [HOK.out _ HF.out]; simp; omega))
                      go_wp2_with (first | (refine wpList_store_new rfl 55 (.tmp 9) (.tmp 37) rfl rfl rfl rfl size55 rfl rfl rfl ?_) | (refine wpList_load_at rfl 55 (.tmp 9) rfl rfl (heap_alloc_at _ _ _ rfl) Try.underlying55 rfl size55 rfl ?_))
                      refine (xFix_any _ _ _ _ _ _ _ _ _ _ _).mono ?_
                      rintro r w2 ⟨rfl, hb⟩
                      have HBw2 := hid (show Below w.heap.size w w2 by have hB0 := HBwr.out; refine Below.trans ?_ (hb.mono ?_); (focus ((repeat' (first | (with_reducible exact Below.refl _ _) | (with_reducible assumption) | (with_reducible refine Below.alloc ?_ ?_ _) | (with_reducible refine Below.drew ?_) | (with_reducible refine below_drewN ?_ _) | (with_reducible refine Below.setCell ?_ ?_ _) | (with_reducible refine below_setRow ?_ ?_ _) | go_size)); done)); (focus (first | (simp; done) | (simp; omega) | (have hB1 := hB0.size; simp; omega))))
                      have hsw2 := hb.size
                      (try simp at hsw2)
                      have hzw2 : w.heap.size < w2.heap.size := by omega
                      obtain ⟨hcw2, hfw2⟩ := bcell hb
                      have hkw2 := hid (fun n x => @heap_still _ _ n x hb)
                      clear hb
                      rw [HF.out]
                      have hy2 : wr.heap.size < w2.heap.size := by omega
                      have hy3 : w.heap.size + 1 < w2.heap.size := by omega
                      go_wp2_with fail
                      go_ret
                      exact ⟨by rw [HX.out]; rfl, HBw2.out⟩
                    · have HX := hid (HN.out (by rw [HOK.out _ HF.out]; simp; omega))
                      go_wp2_with (first | (refine wpList_store_new rfl 55 (.tmp 9) (.tmp 37) rfl rfl rfl rfl size55 rfl rfl rfl ?_) | (refine wpList_load_at rfl 55 (.tmp 9) rfl rfl (heap_alloc_at _ _ _ rfl) Try.underlying55 rfl size55 rfl ?_))
                      refine (xFix_any _ _ _ _ _ _ _ _ _ _ _).mono ?_
                      rintro r w2 ⟨rfl, hb⟩
                      have HBw2 := hid (show Below w.heap.size w w2 by have hB0 := HBwr.out; refine Below.trans ?_ (hb.mono ?_); (focus ((repeat' (first | (with_reducible exact Below.refl _ _) | (with_reducible assumption) | (with_reducible refine Below.alloc ?_ ?_ _) | (with_reducible refine Below.drew ?_) | (with_reducible refine below_drewN ?_ _) | (with_reducible refine Below.setCell ?_ ?_ _) | (with_reducible refine below_setRow ?_ ?_ _) | go_size)); done)); (focus (first | (simp; done) | (simp; omega) | (have hB1 := hB0.size; simp; omega))))
                      have hsw2 := hb.size
                      (try simp at hsw2)
                      have hzw2 : w.heap.size < w2.heap.size := by omega
                      obtain ⟨hcw2, hfw2⟩ := bcell hb
                      have hkw2 := hid (fun n x => @heap_still _ _ n x hb)
                      clear hb
                      rw [HF.out]
                      have hy2 : wr.heap.size < w2.heap.size := by omega
                      have hy3 : w.heap.size + 1 < w2.heap.size := by omega
                      go_wp2_with fail
                      go_roundw
                      case rel => exact ⟨q + 1, by omega, by go_num, by rw [HQ.out], HX.out, HBw2.out, hy3, hkw2.out _ _ (heap_alloc_past _ _ _ _ H2.out)⟩
                      case measure => simp [intOf]; omega
              · have HF := hid (Bool.eq_false_iff.2 hf)
                clear hfix hf hl0 hbd
                have HX := hid (HB.out (by rw [HOK.out _ HF.out]; rfl))
                go_wp2_with (first | (refine wpList_store_new rfl 55 (.tmp 9) (.tmp 37) rfl rfl rfl rfl size55 rfl rfl rfl ?_) | (refine wpList_load_at rfl 55 (.tmp 9) rfl rfl (heap_alloc_at _ _ _ rfl) Try.underlying55 rfl size55 rfl ?_))
                refine (xFix_any _ _ _ _ _ _ _ _ _ _ _).mono ?_
                rintro r w2 ⟨rfl, hb⟩
                have HBw2 := hid (show Below w.heap.size w w2 by have hB0 := HBwr.out; refine Below.trans ?_ (hb.mono ?_); (focus ((repeat' (first | (with_reducible exact Below.refl _ _) | (with_reducible assumption) | (with_reducible refine Below.alloc ?_ ?_ _) | (with_reducible refine Below.drew ?_) | (with_reducible refine below_drewN ?_ _) | (with_reducible refine Below.setCell ?_ ?_ _) | (with_reducible refine below_setRow ?_ ?_ _) | go_size)); done)); (focus (first | (simp; done) | (simp; omega) | (have hB1 := hB0.size; simp; omega))))
                have hsw2 := hb.size
                (try simp at hsw2)
                have hzw2 : w.heap.size < w2.heap.size := by omega
                obtain ⟨hcw2, hfw2⟩ := bcell hb
                have hkw2 := hid (fun n x => @heap_still _ _ n x hb)
                clear hb
                rw [HF.out]
                have hy2 : wr.heap.size < w2.heap.size := by omega
                have hy3 : w.heap.size + 1 < w2.heap.size := by omega
                go_wp2_with fail
                go_ret
                exact ⟨by rw [HX.out]; rfl, HBw2.out⟩
            · obtain rfl : q = L k := by omega
              have HE := hid (last_next (F := F) hpos)
              have HP := hid (part_next hpos hst)
              clear hB h2 hst
              go_wp2_with fail
              go_roundw
              case rel => exact ⟨k + 1, by omega, by go_num, by rw [HE.out], allN_next HA.out HP.out, HBwr.out, hsz2, H2.out⟩
              case measure => simp [intOf]; omega
    · obtain rfl : k = n := by omega
      clear hB h1 hall
      have HX := hid (show trackB m0 m1 m2 m3 k L F = true by unfold trackB; rw [HR.out, HA.out]; rfl)
      go_wp2_with fail
      go_ret
      exact ⟨by rw [HX.out]; rfl, HBwr.out⟩
end Go.Proofs.Yteoikaedpgianaa
