/- Tracks: the tests of the program and of its reference, whatever the track; and whether a track has many fixes. -/
import Derived.Test.YteoikaedpgianaaTrack
namespace Go.Proofs.Yteoikaedpgianaa
open Go.RowKit

theorem xTrack_no (a : Option Addr) (n c : Nat) (m0 m1 m2 m3 : Int) (w : World) (hr : rulesB m0 m1 m2 m3 = false) :
    Calls Try.prog 43 #[.agg #[.slice a n c], .agg #[.int .i64 m0, .int .i64 m1, .int .i64 m2, .int .i64 m3]] w fun e w' => e = .returned (.bool false) ∧ Below w.heap.size w w' := by
  have HR := hid hr
  clear hr
  have HBw := hid (Below.refl w.heap.size w)
  go_enter Try.func43, Try.ntmps43
  go_wp2_with fail
  refine (xRules_any _ _ _ _ _).mono ?_
  rintro r w1 ⟨rfl, hb⟩
  have HBw1 := hid (show Below w.heap.size w w1 by have hB0 := HBw.out; refine Below.trans ?_ (hb.mono ?_); (focus ((repeat' (first | (with_reducible exact Below.refl _ _) | (with_reducible assumption) | (with_reducible refine Below.alloc ?_ ?_ _) | (with_reducible refine Below.drew ?_) | (with_reducible refine below_drewN ?_ _) | (with_reducible refine Below.setCell ?_ ?_ _) | (with_reducible refine below_setRow ?_ ?_ _) | go_size)); done)); (focus (first | (simp; done) | (simp; omega) | (have hB1 := hB0.size; simp; omega))))
  have hsw1 := hb.size
  (try simp at hsw1)
  have hzw1 : w.heap.size < w1.heap.size := by omega
  obtain ⟨hcw1, hfw1⟩ := bcell hb
  have hkw1 := hid (fun n x => @heap_still _ _ n x hb)
  clear hb
  rw [HR.out]
  go_wp2_with fail
  go_ret
  exact ⟨rfl, HBw1.out⟩
theorem xTrack_none (a : Option Addr) (c : Nat) (m0 m1 m2 m3 : Int) (w : World) :
    Calls Try.prog 43 #[.agg #[.slice a 0 c], .agg #[.int .i64 m0, .int .i64 m1, .int .i64 m2, .int .i64 m3]] w fun e w' => e = .returned (.bool (rulesB m0 m1 m2 m3)) ∧ Below w.heap.size w w' := by
  by_cases hr : rulesB m0 m1 m2 m3 = true
  · have HR := hid hr
    clear hr
    have HBw := hid (Below.refl w.heap.size w)
    go_enter Try.func43, Try.ntmps43
    go_wp2_with fail
    refine (xRules_any _ _ _ _ _).mono ?_
    rintro r w1 ⟨rfl, hb⟩
    have HBw1 := hid (show Below w.heap.size w w1 by have hB0 := HBw.out; refine Below.trans ?_ (hb.mono ?_); (focus ((repeat' (first | (with_reducible exact Below.refl _ _) | (with_reducible assumption) | (with_reducible refine Below.alloc ?_ ?_ _) | (with_reducible refine Below.drew ?_) | (with_reducible refine below_drewN ?_ _) | (with_reducible refine Below.setCell ?_ ?_ _) | (with_reducible refine below_setRow ?_ ?_ _) | go_size)); done)); (focus (first | (simp; done) | (simp; omega) | (have hB1 := hB0.size; simp; omega))))
    have hsw1 := hb.size
    (try simp at hsw1)
    have hzw1 : w.heap.size < w1.heap.size := by omega
    obtain ⟨hcw1, hfw1⟩ := bcell hb
    have hkw1 := hid (fun n x => @heap_still _ _ n x hb)
    clear hb
    rw [HR.out]
    go_wp2_with fail
    go_loopw [16] (fun i W => i = .int .i64 0 ∧ Below w.heap.size w W) (fun i _ => 0)
    case atStart => exact ⟨rfl, HBw1.out⟩
    case round =>
      obtain ⟨rfl, hB⟩ := hrel
      have HB := hid hB
      clear hB
      go_wp2_with fail
      go_ret
      exact ⟨by rw [HR.out]; rfl, HB.out⟩
  · rw [Bool.eq_false_iff.2 hr]
    exact xTrack_no a 0 c m0 m1 m2 m3 w (Bool.eq_false_iff.2 hr)
theorem xTrack_at (b off n c : Nat) (A : Nat → Option Addr) (L C : Nat → Nat) (F : Nat → Nat → Nat → Int) (m0 m1 m2 m3 : Int) (w : World) (hbw : b < w.heap.size) (hn : n ≤ 9223372036854775807) (hL : ∀ p, L p ≤ 9223372036854775807) (ht : trackAt w b off n A L C F) :
    Calls Try.prog 43 #[.agg #[.slice (some ⟨b, off, none⟩) n c], .agg #[.int .i64 m0, .int .i64 m1, .int .i64 m2, .int .i64 m3]] w fun e w' => e = .returned (.bool (trackB m0 m1 m2 m3 n L F)) ∧ Below w.heap.size w w' := by
  by_cases hr : rulesB m0 m1 m2 m3 = true
  · exact xTrack_yes b off n c A L C F m0 m1 m2 m3 w hbw hn hL hr ht
  · rw [show trackB m0 m1 m2 m3 n L F = false by unfold trackB; rw [Bool.eq_false_iff.2 hr, Bool.false_and]]
    exact xTrack_no _ n c m0 m1 m2 m3 w (Bool.eq_false_iff.2 hr)

theorem rTrack_no (a : Option Addr) (n c : Nat) (m0 m1 m2 m3 : Int) (w : World) (hr : rulesB m0 m1 m2 m3 = false) :
    Calls Try.prog 44 #[.agg #[.slice a n c], .agg #[.int .i64 m0, .int .i64 m1, .int .i64 m2, .int .i64 m3]] w fun e w' => e = .returned (.bool false) ∧ Below w.heap.size w w' := by
  have HR := hid hr
  clear hr
  have HBw := hid (Below.refl w.heap.size w)
  go_enter Try.func44, Try.ntmps44
  go_wp2_with fail
  refine (rRules_any _ _ _ _ _).mono ?_
  rintro r w1 ⟨rfl, hb⟩
  have HBw1 := hid (show Below w.heap.size w w1 by have hB0 := HBw.out; refine Below.trans ?_ (hb.mono ?_); (focus ((repeat' (first | (with_reducible exact Below.refl _ _) | (with_reducible assumption) | (with_reducible refine Below.alloc ?_ ?_ _) | (with_reducible refine Below.drew ?_) | (with_reducible refine below_drewN ?_ _) | (with_reducible refine Below.setCell ?_ ?_ _) | (with_reducible refine below_setRow ?_ ?_ _) | go_size)); done)); (focus (first | (simp; done) | (simp; omega) | (have hB1 := hB0.size; simp; omega))))
  have hsw1 := hb.size
  (try simp at hsw1)
  have hzw1 : w.heap.size < w1.heap.size := by omega
  obtain ⟨hcw1, hfw1⟩ := bcell hb
  have hkw1 := hid (fun n x => @heap_still _ _ n x hb)
  clear hb
  rw [HR.out]
  go_wp2_with fail
  go_ret
  exact ⟨rfl, HBw1.out⟩
theorem rTrack_none (a : Option Addr) (c : Nat) (m0 m1 m2 m3 : Int) (w : World) :
    Calls Try.prog 44 #[.agg #[.slice a 0 c], .agg #[.int .i64 m0, .int .i64 m1, .int .i64 m2, .int .i64 m3]] w fun e w' => e = .returned (.bool (rulesB m0 m1 m2 m3)) ∧ Below w.heap.size w w' := by
  by_cases hr : rulesB m0 m1 m2 m3 = true
  · have HR := hid hr
    clear hr
    have HBw := hid (Below.refl w.heap.size w)
    go_enter Try.func44, Try.ntmps44
    go_wp2_with fail
    refine (rRules_any _ _ _ _ _).mono ?_
    rintro r w1 ⟨rfl, hb⟩
    have HBw1 := hid (show Below w.heap.size w w1 by have hB0 := HBw.out; refine Below.trans ?_ (hb.mono ?_); (focus ((repeat' (first | (with_reducible exact Below.refl _ _) | (with_reducible assumption) | (with_reducible refine Below.alloc ?_ ?_ _) | (with_reducible refine Below.drew ?_) | (with_reducible refine below_drewN ?_ _) | (with_reducible refine Below.setCell ?_ ?_ _) | (with_reducible refine below_setRow ?_ ?_ _) | go_size)); done)); (focus (first | (simp; done) | (simp; omega) | (have hB1 := hB0.size; simp; omega))))
    have hsw1 := hb.size
    (try simp at hsw1)
    have hzw1 : w.heap.size < w1.heap.size := by omega
    obtain ⟨hcw1, hfw1⟩ := bcell hb
    have hkw1 := hid (fun n x => @heap_still _ _ n x hb)
    clear hb
    rw [HR.out]
    go_wp2_with fail
    go_loopw [16] (fun i W => i = .int .i64 0 ∧ Below w.heap.size w W) (fun i _ => 0)
    case atStart => exact ⟨rfl, HBw1.out⟩
    case round =>
      obtain ⟨rfl, hB⟩ := hrel
      have HB := hid hB
      clear hB
      go_wp2_with fail
      go_ret
      exact ⟨by rw [HR.out]; rfl, HB.out⟩
  · rw [Bool.eq_false_iff.2 hr]
    exact rTrack_no a 0 c m0 m1 m2 m3 w (Bool.eq_false_iff.2 hr)
theorem rTrack_at (b off n c : Nat) (A : Nat → Option Addr) (L C : Nat → Nat) (F : Nat → Nat → Nat → Int) (m0 m1 m2 m3 : Int) (w : World) (hbw : b < w.heap.size) (hn : n ≤ 9223372036854775807) (hL : ∀ p, L p ≤ 9223372036854775807) (ht : trackAt w b off n A L C F) :
    Calls Try.prog 44 #[.agg #[.slice (some ⟨b, off, none⟩) n c], .agg #[.int .i64 m0, .int .i64 m1, .int .i64 m2, .int .i64 m3]] w fun e w' => e = .returned (.bool (trackB m0 m1 m2 m3 n L F)) ∧ Below w.heap.size w w' := by
  by_cases hr : rulesB m0 m1 m2 m3 = true
  · exact rTrack_yes b off n c A L C F m0 m1 m2 m3 w hbw hn hL hr ht
  · rw [show trackB m0 m1 m2 m3 n L F = false by unfold trackB; rw [Bool.eq_false_iff.2 hr, Bool.false_and]]
    exact rTrack_no _ n c m0 m1 m2 m3 w (Bool.eq_false_iff.2 hr)

/-- a bool is returned -/
def aBool (e : Ending) : Prop := ∃ x : Bool, e = .returned (.bool x)
/-- 'many' answers, whatever it answers -/
theorem many_none (a : Option Addr) (c : Nat) (k : Int) (w : World) :
    Calls Try.prog 36 #[.agg #[.slice a 0 c], .int .i64 k] w fun e w' => aBool e ∧ Below w.heap.size w w' := by
  go_enter Try.func36, Try.ntmps36
  go_wp2_with fail
  go_loop [11] (fun i => i = .int .i64 0) (fun i => 0)
  case atStart => rfl
  case round =>
    obtain rfl := hrel
    go_wp2_with fail
    go_ret
    refine ⟨⟨_, rfl⟩, ?_⟩
    (repeat' (first | (with_reducible exact Below.refl _ _) | (with_reducible assumption) | (with_reducible refine Below.alloc ?_ ?_ _) | (with_reducible refine Below.drew ?_) | (with_reducible refine below_drewN ?_ _) | (with_reducible refine Below.setCell ?_ ?_ _) | (with_reducible refine below_setRow ?_ ?_ _) | go_size))
theorem many_at (b off n c : Nat) (A : Nat → Option Addr) (L C : Nat → Nat) (F : Nat → Nat → Nat → Int) (m : Int) (w : World) (hbw : b < w.heap.size) (hn : n ≤ 9223372036854775807) (ht : trackAt w b off n A L C F) :
    Calls Try.prog 36 #[.agg #[.slice (some ⟨b, off, none⟩) n c], .int .i64 m] w fun e w' => aBool e ∧ Below w.heap.size w w' := by
  have HT := hid ht
  clear ht
  go_enter Try.func36, Try.ntmps36
  go_wp2_with fail
  go_loop [5, 11] (fun s i => ∃ (k : Nat) (z : Int), k ≤ n ∧ i = .int .i64 k ∧ s = .int .i64 z) (fun _ i => n - (intOf i).toNat)
  case atStart => exact ⟨0, 0, by omega, rfl, rfl⟩
  case round =>
    obtain ⟨k, z, hk, rfl, rfl⟩ := hrel
    by_cases hlt : k < n
    · have e0 := (HT.out k hlt).1
      generalize A k = ak at *
      generalize L k = lk at *
      generalize C k = ck at *
      go_wp2_with fail
      · go_ret
        refine ⟨⟨_, rfl⟩, ?_⟩
        (repeat' (first | (with_reducible exact Below.refl _ _) | (with_reducible assumption) | (with_reducible refine Below.alloc ?_ ?_ _) | (with_reducible refine Below.drew ?_) | (with_reducible refine below_drewN ?_ _) | (with_reducible refine Below.setCell ?_ ?_ _) | (with_reducible refine below_setRow ?_ ?_ _) | go_size))
      · go_round
        case rel => exact ⟨k + 1, _, by omega, by go_num, rfl⟩
        case measure => simp [intOf]; omega
    · go_wp2_with fail
      go_ret
      refine ⟨⟨_, rfl⟩, ?_⟩
      (repeat' (first | (with_reducible exact Below.refl _ _) | (with_reducible assumption) | (with_reducible refine Below.alloc ?_ ?_ _) | (with_reducible refine Below.drew ?_) | (with_reducible refine below_drewN ?_ _) | (with_reducible refine Below.setCell ?_ ?_ _) | (with_reducible refine below_setRow ?_ ?_ _) | go_size))
end Go.Proofs.Yteoikaedpgianaa
