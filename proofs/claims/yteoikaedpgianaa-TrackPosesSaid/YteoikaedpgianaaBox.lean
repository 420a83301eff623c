/- Spans and boxes: what the tests of the program and of its reference return. -/
import Derived.Test.YteoikaedpgianaaBeam
import Derived.Lib.QuietBelow
namespace Go.Proofs.Yteoikaedpgianaa
open Go.RowKit

/-- a valid span -/
def spanB (lo hi : Int) : Bool := decide (-1152921504606846976 ≤ lo) && decide (lo ≤ hi) && decide (hi ≤ 1152921504606846976)
theorem valid_any (lo hi : Int) (w : World) :
    Calls Try.prog 85 #[.agg #[.int .i64 lo, .int .i64 hi]] w fun e w' => e = .returned (.bool (spanB lo hi)) ∧ Below w.heap.size w w' := by
  by_cases h1 : -1152921504606846976 ≤ lo
  · by_cases h2 : lo ≤ hi
    · have HS := hid (show spanB lo hi = decide (hi ≤ 1152921504606846976) by simp [spanB, h1, h2])
      go_enter Try.func85, Try.ntmps85
      go_wp2
      go_ret
      refine ⟨by rw [HS.out]; rfl, ?_⟩
      (repeat' (first | (with_reducible exact Below.refl _ _) | (with_reducible assumption) | (with_reducible refine Below.alloc ?_ ?_ _) | (with_reducible refine Below.drew ?_) | (with_reducible refine below_drewN ?_ _) | (with_reducible refine Below.setCell ?_ ?_ _) | (with_reducible refine below_setRow ?_ ?_ _) | go_size))
    · have HS := hid (show spanB lo hi = false by simp [spanB, h2])
      go_enter Try.func85, Try.ntmps85
      go_wp2
      go_ret
      refine ⟨by rw [HS.out]; rfl, ?_⟩
      (repeat' (first | (with_reducible exact Below.refl _ _) | (with_reducible assumption) | (with_reducible refine Below.alloc ?_ ?_ _) | (with_reducible refine Below.drew ?_) | (with_reducible refine below_drewN ?_ _) | (with_reducible refine Below.setCell ?_ ?_ _) | (with_reducible refine below_setRow ?_ ?_ _) | go_size))
  · have HS := hid (show spanB lo hi = false by simp [spanB, h1])
    go_enter Try.func85, Try.ntmps85
    go_wp2
    go_ret
    refine ⟨by rw [HS.out]; rfl, ?_⟩
    (repeat' (first | (with_reducible exact Below.refl _ _) | (with_reducible assumption) | (with_reducible refine Below.alloc ?_ ?_ _) | (with_reducible refine Below.drew ?_) | (with_reducible refine below_drewN ?_ _) | (with_reducible refine Below.setCell ?_ ?_ _) | (with_reducible refine below_setRow ?_ ?_ _) | go_size))
theorem rvalid_any (lo hi : Int) (w : World) :
    Calls Try.prog 87 #[.agg #[.int .i64 lo, .int .i64 hi]] w fun e w' => e = .returned (.bool (spanB lo hi)) ∧ Below w.heap.size w w' := by
  by_cases h1 : -1152921504606846976 ≤ lo
  · by_cases h2 : lo ≤ hi
    · have HS := hid (show spanB lo hi = decide (hi ≤ 1152921504606846976) by simp [spanB, h1, h2])
      go_enter Try.func87, Try.ntmps87
      go_wp2
      go_ret
      refine ⟨by rw [HS.out]; rfl, ?_⟩
      (repeat' (first | (with_reducible exact Below.refl _ _) | (with_reducible assumption) | (with_reducible refine Below.alloc ?_ ?_ _) | (with_reducible refine Below.drew ?_) | (with_reducible refine below_drewN ?_ _) | (with_reducible refine Below.setCell ?_ ?_ _) | (with_reducible refine below_setRow ?_ ?_ _) | go_size))
    · have HS := hid (show spanB lo hi = false by simp [spanB, h2])
      go_enter Try.func87, Try.ntmps87
      go_wp2
      go_ret
      refine ⟨by rw [HS.out]; rfl, ?_⟩
      (repeat' (first | (with_reducible exact Below.refl _ _) | (with_reducible assumption) | (with_reducible refine Below.alloc ?_ ?_ _) | (with_reducible refine Below.drew ?_) | (with_reducible refine below_drewN ?_ _) | (with_reducible refine Below.setCell ?_ ?_ _) | (with_reducible refine below_setRow ?_ ?_ _) | go_size))
  · have HS := hid (show spanB lo hi = false by simp [spanB, h1])
    go_enter Try.func87, Try.ntmps87
    go_wp2
    go_ret
    refine ⟨by rw [HS.out]; rfl, ?_⟩
    (repeat' (first | (with_reducible exact Below.refl _ _) | (with_reducible assumption) | (with_reducible refine Below.alloc ?_ ?_ _) | (with_reducible refine Below.drew ?_) | (with_reducible refine below_drewN ?_ _) | (with_reducible refine Below.setCell ?_ ?_ _) | (with_reducible refine below_setRow ?_ ?_ _) | go_size))
theorem within1 (lo hi x : Int) (b c : Nat) (w : World) (hc : w.cell? ⟨b, 0, none⟩ = some (.int .i64 x)) :
    Calls Try.prog 72 #[.int .i64 lo, .int .i64 hi, .slice (some ⟨b, 0, none⟩) 1 c] w fun e w' => e = .returned (.bool (inB lo hi x)) ∧ w = w' := by
  refine (within_any lo hi b 0 1 c [x] w rfl (by omega) ?_).mono ?_
  · intro i hi
    obtain rfl : i = 0 := by omega
    exact hc
  · rintro e w' ⟨rfl, rfl⟩
    simp
theorem size44 : (Try.prog.info? 44).map (·.size) = some 2 := by kernel_rfl
end Go.Proofs.Yteoikaedpgianaa
