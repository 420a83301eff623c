/- The program's test of rules and fixes, ahead of Clean and of Parts; what the two return where it refuses. -/
import Derived.Test.YteoikaedpgianaaRTrack
import Derived.OwnWalk
namespace Go.Proofs.Yteoikaedpgianaa
open Go.RowKit

/-- the error of rules and of a row of fixes -/
def refV (m0 m1 m2 m3 : Int) (n : Nat) (F : Nat → Nat → Int) : Int :=
  if rulesB m0 m1 m2 m3 = false then 42 else if allN (fun i => fixF (F i)) n = false then 40 else if 4096 < n then 2 else 0
theorem refV_rules {m0 m1 m2 m3 : Int} {n : Nat} {F : Nat → Nat → Int} (h : rulesB m0 m1 m2 m3 = false) : refV m0 m1 m2 m3 n F = 42 := by unfold refV; rw [if_pos h]
theorem refV_fix {m0 m1 m2 m3 : Int} {n k : Nat} {F : Nat → Nat → Int} (h : rulesB m0 m1 m2 m3 = true) (hk : k < n) (hf : fixF (F k) = false) : refV m0 m1 m2 m3 n F = 40 := by
  unfold refV; rw [if_neg (by rw [h]; decide), if_pos (allN_stop hk hf)]
theorem refV_many {m0 m1 m2 m3 : Int} {n : Nat} {F : Nat → Nat → Int} (h : rulesB m0 m1 m2 m3 = true) (hf : allN (fun i => fixF (F i)) n = true) (hn : 4096 < n) : refV m0 m1 m2 m3 n F = 2 := by
  unfold refV; rw [if_neg (by rw [h]; decide), if_neg (by rw [hf]; decide), if_pos hn]
theorem refV_ok {m0 m1 m2 m3 : Int} {n : Nat} {F : Nat → Nat → Int} (h : rulesB m0 m1 m2 m3 = true) (hf : allN (fun i => fixF (F i)) n = true) (hn : ¬4096 < n) : refV m0 m1 m2 m3 n F = 0 := by
  unfold refV; rw [if_neg (by rw [h]; decide), if_neg (by rw [hf]; decide), if_neg hn]
/-- a row of fixes somewhere in memory, or none -/
def fixRow (w : World) (ad : Option Addr) (n : Nat) (F : Nat → Nat → Int) : Prop := 0 < n → ∃ b off, ad = some ⟨b, off, none⟩ ∧ b < w.heap.size ∧ recs10 w b off n F
theorem fixRow.still {w w' : World} {ad : Option Addr} {n : Nat} {F : Nat → Nat → Int} (h : fixRow w ad n F) (hb : Below w.heap.size w w') : fixRow w' ad n F := by
  intro hn
  obtain ⟨b, off, h1, h2, h3⟩ := h hn
  exact ⟨b, off, h1, Nat.lt_of_lt_of_le h2 hb.size, h3.still hb h2⟩

set_option maxRecDepth 100000 in
set_option maxHeartbeats 1600000 in
theorem xRefuse_any (ad : Option Addr) (n c : Nat) (F : Nat → Nat → Int) (m0 m1 m2 m3 : Int) (w : World) (hn : n ≤ 9223372036854775807) (ht : fixRow w ad n F) :
    Calls Try.prog 115 #[.slice ad n c, .agg #[.int .i64 m0, .int .i64 m1, .int .i64 m2, .int .i64 m3]] w fun e w' => e = .returned (.int .i64 (refV m0 m1 m2 m3 n F)) ∧ Below w.heap.size w w' := by
  have HBw := hid (Below.refl w.heap.size w)
  by_cases hr : rulesB m0 m1 m2 m3 = true
  · have HR := hid hr
    have HT := hid ht
    clear ht hr
    go_enter Try.func115, Try.ntmps115
    go_wp2_with fail
    refine (xRules_any _ _ _ _ _).mono ?_
    rintro r w1 ⟨rfl, hb⟩
    have HBw1 := hid (show Below w.heap.size w w1 by have hB0 := HBw.out; refine Below.trans ?_ (hb.mono ?_); (focus ((repeat' (first | (with_reducible exact Below.refl _ _) | (with_reducible assumption) | (with_reducible refine Below.alloc ?_ ?_ _) | (with_reducible refine Below.drew ?_) | (with_reducible refine below_drewN ?_ _) | (with_reducible refine Below.setCell ?_ ?_ _) | (with_reducible refine below_setRow ?_ ?_ _) | go_size)); done)); (focus (first | (simp; done) | (simp; omega) | (have hB1 := hB0.size; simp; omega))))
    have hsw1 := hb.size
    (try simp at hsw1)
    have hzw1 : w.heap.size < w1.heap.size := by omega
    obtain ⟨hcw1, hfw1⟩ := bcell hb
    have hkw1 := hid (fun n x => @heap_still _ _ n x hb)
    clear hb
    rw [HR.out]
    have hy1 : w.heap.size < w1.heap.size := by omega
    go_wp2_with fail
    go_loopw [12] (fun i W => ∃ (k : Nat), k ≤ n ∧ i = .int .i64 k ∧ allN (fun i => fixF (F i)) k = true ∧ Below w.heap.size w W ∧ w.heap.size < W.heap.size) (fun i _ => n - (intOf i).toNat)
    case atStart => exact ⟨0, by omega, rfl, rfl, HBw1.out, hy1⟩
    case round =>
      clear hcw1 hfw1 hkw1 HBw1 hsw1 hzw1 hy1
      obtain ⟨k, hk, rfl, hall, hB, hsz⟩ := hrel
      have HBwr := hid hB
      have HA := hid hall
      by_cases hlt : k < n
      · obtain ⟨b, off, hadd, hbw, hrec⟩ := HT.out (by omega)
        subst hadd
        have hrq := hrec.still hB hbw k hlt
        have HFF := hid (fun bb (h : fixB (F k 0) (F k 1) (F k 2) (F k 3) (F k 4) (F k 5) (F k 6) (F k 7) (F k 8) (F k 9) = bb) => (show fixF (F k) = bb from h))
        have HN := hid (fun h : fixF (F k) = true => allN_next (p := fun i => fixF (F i)) HA.out h)
        have HX := hid (fun h : fixF (F k) = false => refV_fix (m0 := m0) (m1 := m1) (m2 := m2) (m3 := m3) HR.out hlt h)
        clear hrec hB hall
        have c0 := hrq 0 (by omega)
        simp only [Nat.add_zero] at c0
        have c1 := hrq 1 (by omega)
        have c2 := hrq 2 (by omega)
        have c3 := hrq 3 (by omega)
        have c4 := hrq 4 (by omega)
        have c5 := hrq 5 (by omega)
        have c6 := hrq 6 (by omega)
        have c7 := hrq 7 (by omega)
        have c8 := hrq 8 (by omega)
        have c9 := hrq 9 (by omega)
        clear hrq
        generalize F k 0 = f0 at *
        generalize F k 1 = f1 at *
        generalize F k 2 = f2 at *
        generalize F k 3 = f3 at *
        generalize F k 4 = f4 at *
        generalize F k 5 = f5 at *
        generalize F k 6 = f6 at *
        generalize F k 7 = f7 at *
        generalize F k 8 = f8 at *
        generalize F k 9 = f9 at *
        by_cases hf : fixB f0 f1 f2 f3 f4 f5 f6 f7 f8 f9 = true
        · have HF := hid hf
          have HNN := hid (HN.out (HFF.out _ hf))
          clear hf
          go_wp2_with (first | (refine wpList_store_new rfl 55 (.tmp 6) (.tmp 15) rfl rfl rfl rfl size55 rfl rfl rfl ?_) | (refine wpList_load_at rfl 55 (.tmp 6) rfl rfl (heap_alloc_at _ _ _ rfl) Try.underlying55 rfl size55 rfl ?_))
          refine (xFix_any _ _ _ _ _ _ _ _ _ _ _).mono ?_
          rintro r w2 ⟨rfl, hb⟩
          have HBw2 := hid (show Below w.heap.size w w2 by have hB0 := HBwr.out; refine Below.trans ?_ (hb.mono ?_); (focus ((repeat' (first | (with_reducible exact Below.refl _ _) | (with_reducible assumption) | (with_reducible refine Below.alloc ?_ ?_ _) | (with_reducible refine Below.drew ?_) | (with_reducible refine below_drewN ?_ _) | (with_reducible refine Below.setCell ?_ ?_ _) | (with_reducible refine below_setRow ?_ ?_ _) | go_size)); done)); (focus (first | (simp; done) | (simp; omega) | (have hB1 := hB0.size; simp; omega))))
          have hsw2 := hb.size
          (try simp at hsw2)
          have hzw2 : w.heap.size < w2.heap.size := by omega
          obtain ⟨hcw2, hfw2⟩ := bcell hb
          have hkw2 := hid (fun n x => @heap_still _ _ n x hb)
          clear hb
          rw [HF.out]
          have hy2 : w.heap.size < w2.heap.size := by omega
          go_wp2_with fail
          go_roundw
          case rel => exact ⟨k + 1, by omega, by go_num, HNN.out, HBw2.out, hy2⟩
          case measure => simp [intOf]; omega
        · have HF := hid (Bool.eq_false_iff.2 hf)
          have HXX := hid (HX.out (HFF.out _ HF.out))
          clear hf
          go_wp2_with (first | (refine wpList_store_new rfl 55 (.tmp 6) (.tmp 15) rfl rfl rfl rfl size55 rfl rfl rfl ?_) | (refine wpList_load_at rfl 55 (.tmp 6) rfl rfl (heap_alloc_at _ _ _ rfl) Try.underlying55 rfl size55 rfl ?_))
          refine (xFix_any _ _ _ _ _ _ _ _ _ _ _).mono ?_
          rintro r w2 ⟨rfl, hb⟩
          have HBw2 := hid (show Below w.heap.size w w2 by have hB0 := HBwr.out; refine Below.trans ?_ (hb.mono ?_); (focus ((repeat' (first | (with_reducible exact Below.refl _ _) | (with_reducible assumption) | (with_reducible refine Below.alloc ?_ ?_ _) | (with_reducible refine Below.drew ?_) | (with_reducible refine below_drewN ?_ _) | (with_reducible refine Below.setCell ?_ ?_ _) | (with_reducible refine below_setRow ?_ ?_ _) | go_size)); done)); (focus (first | (simp; done) | (simp; omega) | (have hB1 := hB0.size; simp; omega))))
          have hsw2 := hb.size
          (try simp at hsw2)
          have hzw2 : w.heap.size < w2.heap.size := by omega
          obtain ⟨hcw2, hfw2⟩ := bcell hb
          have hkw2 := hid (fun n x => @heap_still _ _ n x hb)
          clear hb
          rw [HF.out]
          have hy2 : w.heap.size < w2.heap.size := by omega
          go_wp2_with fail
          go_ret
          exact ⟨by rw [HXX.out]; rfl, HBw2.out⟩
      · obtain rfl : k = n := by omega
        clear hB hall
        by_cases h4 : 4096 < k
        · have HX := hid (refV_many (m0 := m0) (m1 := m1) (m2 := m2) (m3 := m3) HR.out HA.out h4)
          have h5 : (4096 : Int) < k := by omega
          go_wp2_with fail
          go_ret
          exact ⟨by rw [HX.out]; rfl, HBwr.out⟩
        · have HX := hid (refV_ok (m0 := m0) (m1 := m1) (m2 := m2) (m3 := m3) HR.out HA.out h4)
          have h5 : ¬ (4096 : Int) < k := by omega
          go_wp2_with fail
          go_ret
          exact ⟨by rw [HX.out]; rfl, HBwr.out⟩
  · have HR := hid (Bool.eq_false_iff.2 hr)
    have HX := hid (refV_rules (n := n) (F := F) HR.out)
    clear hr ht
    go_enter Try.func115, Try.ntmps115
    go_wp2_with fail
    refine (xRules_any _ _ _ _ _).mono ?_
    rintro r w1 ⟨rfl, hb⟩
    have HBw1 := hid (show Below w.heap.size w w1 by have hB0 := HBw.out; refine Below.trans ?_ (hb.mono ?_); (focus ((repeat' (first | (with_reducible exact Below.refl _ _) | (with_reducible assumption) | (with_reducible refine Below.alloc ?_ ?_ _) | (with_reducible refine Below.drew ?_) | (with_reducible refine below_drewN ?_ _) | (with_reducible refine Below.setCell ?_ ?_ _) | (with_reducible refine below_setRow ?_ ?_ _) | go_size)); done)); (focus (first | (simp; done) | (simp; omega) | (have hB1 := hB0.size; simp; omega))))
    have hsw1 := hb.size
    (try simp at hsw1)
    have hzw1 : w.heap.size < w1.heap.size := by omega
    obtain ⟨hcw1, hfw1⟩ := bcell hb
    have hkw1 := hid (fun n x => @heap_still _ _ n x hb)
    clear hb
    rw [HR.out]
    go_wp2_with fail
    go_ret
    exact ⟨by rw [HX.out]; rfl, HBw1.out⟩

set_option maxRecDepth 100000 in
theorem xClean_err (ad : Option Addr) (n c : Nat) (F : Nat → Nat → Int) (m0 m1 m2 m3 : Int) (w : World) (hn : n ≤ 9223372036854775807) (ht : fixRow w ad n F) (he : refV m0 m1 m2 m3 n F ≠ 0) :
    Calls Try.prog 65 #[.slice ad n c, .agg #[.int .i64 m0, .int .i64 m1, .int .i64 m2, .int .i64 m3]] w fun e w' => e = .returned (.tuple #[.slice none 0 0, .slice none 0 0, .int .i64 (refV m0 m1 m2 m3 n F)]) ∧ Below w.heap.size w w' := by
  have HBw := hid (Below.refl w.heap.size w)
  have HT := hid (fun W (h : Below w.heap.size w W) => xRefuse_any ad n c F m0 m1 m2 m3 W hn (ht.still h))
  clear ht
  generalize refV m0 m1 m2 m3 n F = E at *
  have hd : decide (E = 0) = false := by simp [he]
  go_enter Try.func65, Try.ntmps65
  go_wp2_with fail
  have hB9 := HBw.out
  refine (HT.out _ (by (repeat' (first | (with_reducible exact Below.refl _ _) | (with_reducible assumption) | (with_reducible refine Below.alloc ?_ ?_ _) | (with_reducible refine Below.drew ?_) | (with_reducible refine below_drewN ?_ _) | (with_reducible refine Below.setCell ?_ ?_ _) | (with_reducible refine below_setRow ?_ ?_ _) | go_size)))).mono ?_
  rintro r w1 ⟨rfl, hb⟩
  have HBw1 := hid (show Below w.heap.size w w1 by have hB0 := HBw.out; refine Below.trans ?_ (hb.mono ?_); (focus ((repeat' (first | (with_reducible exact Below.refl _ _) | (with_reducible assumption) | (with_reducible refine Below.alloc ?_ ?_ _) | (with_reducible refine Below.drew ?_) | (with_reducible refine below_drewN ?_ _) | (with_reducible refine Below.setCell ?_ ?_ _) | (with_reducible refine below_setRow ?_ ?_ _) | go_size)); done)); (focus (first | (simp; done) | (simp; omega) | (have hB1 := hB0.size; simp; omega))))
  have hsw1 := hb.size
  (try simp at hsw1)
  have hzw1 : w.heap.size < w1.heap.size := by omega
  obtain ⟨hcw1, hfw1⟩ := bcell hb
  have hkw1 := hid (fun n x => @heap_still _ _ n x hb)
  clear hb
  clear hB9
  go_wp2_with fail
  go_ret3
  exact ⟨rfl, HBw1.out⟩
theorem size64 : (Try.prog.info? 64).map (·.size) = some 1 := by kernel_rfl
set_option maxRecDepth 100000 in
theorem xParts_err (ad : Option Addr) (n c : Nat) (F : Nat → Nat → Int) (m0 m1 m2 m3 : Int) (w : World) (hn : n ≤ 9223372036854775807) (ht : fixRow w ad n F) (he : refV m0 m1 m2 m3 n F ≠ 0) :
    Calls Try.prog 69 #[.slice ad n c, .agg #[.int .i64 m0, .int .i64 m1, .int .i64 m2, .int .i64 m3]] w fun e w' => e = .returned (.tuple #[.agg #[.slice none 0 0], .int .i64 (refV m0 m1 m2 m3 n F)]) ∧ Below w.heap.size w w' := by
  have HBw := hid (Below.refl w.heap.size w)
  have HT := hid (fun W (h : Below w.heap.size w W) => xRefuse_any ad n c F m0 m1 m2 m3 W hn (ht.still h))
  clear ht
  generalize refV m0 m1 m2 m3 n F = E at *
  have hd : decide (E = 0) = false := by simp [he]
  go_enter Try.func69, Try.ntmps69
  go_wp2_with fail
  have hB9 := HBw.out
  refine (HT.out _ (by (repeat' (first | (with_reducible exact Below.refl _ _) | (with_reducible assumption) | (with_reducible refine Below.alloc ?_ ?_ _) | (with_reducible refine Below.drew ?_) | (with_reducible refine below_drewN ?_ _) | (with_reducible refine Below.setCell ?_ ?_ _) | (with_reducible refine below_setRow ?_ ?_ _) | go_size)))).mono ?_
  rintro r w1 ⟨rfl, hb⟩
  have HBw1 := hid (show Below w.heap.size w w1 by have hB0 := HBw.out; refine Below.trans ?_ (hb.mono ?_); (focus ((repeat' (first | (with_reducible exact Below.refl _ _) | (with_reducible assumption) | (with_reducible refine Below.alloc ?_ ?_ _) | (with_reducible refine Below.drew ?_) | (with_reducible refine below_drewN ?_ _) | (with_reducible refine Below.setCell ?_ ?_ _) | (with_reducible refine below_setRow ?_ ?_ _) | go_size)); done)); (focus (first | (simp; done) | (simp; omega) | (have hB1 := hB0.size; simp; omega))))
  have hsw1 := hb.size
  (try simp at hsw1)
  have hzw1 : w.heap.size < w1.heap.size := by omega
  obtain ⟨hcw1, hfw1⟩ := bcell hb
  have hkw1 := hid (fun n x => @heap_still _ _ n x hb)
  clear hb
  clear hB9
  have B1 := hid (hkw1.out _ _ (by repeat' (first | (refine heap_alloc_at _ _ _ ?_; (first | rfl | (simp; done) | (simp; omega))) | (refine heap_alloc_past _ _ _ _ ?_))) : w1.heap[w.heap.size + 1]? = some (.cells #[.slice none 0 0] 64))
  go_wp2_with (refine wpList_store_at rfl 64 (.tmp 4) (.tmp 17) rfl rfl rfl B1.out size64 rfl rfl rfl ?_)
  refine bodyPost_ret (results_at2 rfl rfl (setRow_heap _ _ _ _ _ _ B1.out) Try.underlying64 rfl size64 rfl) rfl ?_
  exact ⟨rfl, below_setRow HBw1.out (by omega) _⟩
end Go.Proofs.Yteoikaedpgianaa
