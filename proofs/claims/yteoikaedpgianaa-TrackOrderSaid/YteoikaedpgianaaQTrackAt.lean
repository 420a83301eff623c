/- Tracks: the tests of the program and of its reference, whatever the track; and whether a track has many fixes. -/
import Derived.Test.YteoikaedpgianaaQTrack
namespace Go.Proofs.Yteoikaedpgianaa
open Go.RowKit

theorem xTrack_no (a : Option Addr) (n c : Nat) (m0 m1 m2 m3 : Int) (w : World) (hr : rulesB m0 m1 m2 m3 = false) :
    Calls Try.prog 43 #[.agg #[.slice a n c], .agg #[.int .i64 m0, .int .i64 m1, .int .i64 m2, .int .i64 m3]] w fun e w' => e = .returned (.bool false) ∧ Below w.heap.size w w' := by
  have HR := hid hr
  clear hr
  have HBw := hid (Below.refl w.heap.size w)
  go_enter Try.func43, Try.ntmps43
  go_wp2_with fail
  refine (xRules_any _ _ _ _ _).mono ?_
  rintro r w1 ⟨rfl, hb⟩
  have HBw1 := hid (show Below w.heap.size w w1 by have hB0 := HBw.out; refine Below.trans ?_ (hb.mono ?_); (focus ((repeat' (first | (with_reducible exact Below.refl _ _) | (with_reducible assumption) | (with_reducible refine Below.alloc ?_ ?_ _) | (with_reducible refine Below.drew ?_) | (with_reducible refine below_drewN ?_ _) | (with_reducible refine Below.setCell ?_ ?_ _) | (with_reducible refine below_setRow ?_ ?_ _) | go_size)); done)); (focus (first | (simp; done) | (simp; omega) | (have hB1 := hB0.size; simp; omega))))
  have hsw1 := hb.size
  (try simp at hsw1)
  have hzw1 : w.heap.size < w1.heap.size := by omega
  obtain ⟨hcw1, hfw1⟩ := bcell hb
  have hkw1 := hid (fun n x => @heap_still _ _ n x hb)
  clear hb
  rw [HR.out]
  go_wp2_with fail
  go_ret
  exact ⟨rfl, HBw1.out⟩
theorem xTrack_none (a : Option Addr) (c : Nat) (m0 m1 m2 m3 : Int) (w : World) :
    Calls Try.prog 43 #[.agg #[.slice a 0 c], .agg #[.int .i64 m0, .int .i64 m1, .int .i64 m2, .int .i64 m3]] w fun e w' => e = .returned (.bool (rulesB m0 m1 m2 m3)) ∧ Below w.heap.size w w' := by
  by_cases hr : rulesB m0 m1 m2 m3 = true
  · have HR := hid hr
    clear hr
    have HBw := hid (Below.refl w.heap.size w)
    go_enter Try.func43, Try.ntmps43
    go_wp2_with fail
    refine (xRules_any _ _ _ _ _).mono ?_
    rintro r w1 ⟨rfl, hb⟩
    have HBw1 := hid (show Below w.heap.size w w1 by have hB0 := HBw.out; refine Below.trans ?_ (hb.mono ?_); (focus ((repeat' (first | (with_reducible exact Below.refl _ _) | (with_reducible assumption) | (with_reducible refine Below.alloc ?_ ?_ _) | (with_reducible refine Below.drew ?_) | (with_reducible refine below_drewN ?_ _) | (with_reducible refine Below.setCell ?_ ?_ _) | (with_reducible refine below_setRow ?_ ?_ _) | go_size)); done)); (focus (first | (simp; done) | (simp; omega) | (have hB1 := hB0.size; simp; omega))))
    have hsw1 := hb.size
    (try simp at hsw1)
    have hzw1 : w.heap.size < w1.heap.size := by omega
    obtain ⟨hcw1, hfw1⟩ := bcell hb
    have hkw1 := hid (fun n x => @heap_still _ _ n x hb)
    clear hb
    rw [HR.out]
    go_wp2_with fail
    go_loopw [16] (fun i W => i = .int .i64 0 ∧ Below w.heap.size w W) (fun i _ => 0)
    case atStart => exact ⟨rfl, HBw1.out⟩
    case round =>
      obtain ⟨rfl, hB⟩ := hrel
      have HB := hid hB
      clear hB
      go_wp2_with fail
      go_ret
      exact ⟨by rw [HR.out]; rfl, HB.out⟩
  · rw [Bool.eq_false_iff.2 hr]
    exact xTrack_no a 0 c m0 m1 m2 m3 w (Bool.eq_false_iff.2 hr)
theorem xTrack_at (b off n c : Nat) (A : Nat → Option Addr) (L C : Nat → Nat) (F : Nat → Nat → Nat → Int) (m0 m1 m2 m3 : Int) (w : World) (hbw : b < w.heap.size) (hn : n ≤ 9223372036854775807) (hL : ∀ p, L p ≤ 9223372036854775807) (ht : trackAt w b off n A L C F) :
    Calls Try.prog 43 #[.agg #[.slice (some ⟨b, off, none⟩) n c], .agg #[.int .i64 m0, .int .i64 m1, .int .i64 m2, .int .i64 m3]] w fun e w' => e = .returned (.bool (trackB m0 m1 m2 m3 n L F)) ∧ Below w.heap.size w w' := by
  by_cases hr : rulesB m0 m1 m2 m3 = true
  · exact xTrack_yes b off n c A L C F m0 m1 m2 m3 w hbw hn hL hr ht
  · rw [show trackB m0 m1 m2 m3 n L F = false by unfold trackB; rw [Bool.eq_false_iff.2 hr, Bool.false_and]]
    exact xTrack_no _ n c m0 m1 m2 m3 w (Bool.eq_false_iff.2 hr)

end Go.Proofs.Yteoikaedpgianaa
