/- The key above a point's cell is the point's cell one level above. In plain Lean. -/
import Derived.Test.YteanlcefdoigcaaCellOf
namespace Go.Proofs.Yteanlcefdoigcaa
open Go.RowKit

theorem idx_half (n : Int) (h : -268435456 ≤ n ∧ n ≤ 268435456) (l : Nat) (hl : l < 12) : idxV n (l + 1) / 2 = idxV n l ∧ 0 ≤ idxV n (l + 1) ∧ idxV n (l + 1) ≤ powL ((l + 1 : Nat) : Int) - 1 := by
  match l, hl with
  | 0, _ | 1, _ | 2, _ | 3, _ | 4, _ | 5, _ | 6, _ | 7, _ | 8, _ | 9, _ | 10, _ | 11, _ =>
    simp [idxV, powL]
    omega
  | l + 12, h => omega
theorem key_cell (x y z : Int) (hx : -268435456 ≤ x ∧ x ≤ 268435456) (hy : -268435456 ≤ y ∧ y ≤ 268435456) (hz : -268435456 ≤ z ∧ z ≤ 268435456) (l : Nat) (hl : l < 12) :
    aboveV ((l + 1 : Nat) : Int) (idxV x (l + 1)) (idxV y (l + 1)) (idxV z (l + 1)) = .tuple #[.agg (cellC l x y z), .int .i64 0] := by
  obtain ⟨a1, a2, a3⟩ := idx_half x hx l hl
  obtain ⟨b1, b2, b3⟩ := idx_half y hy l hl
  obtain ⟨c1, c2, c3⟩ := idx_half z hz l hl
  rw [aboveV_yes (by rw [keyB_good (by omega)]; generalize powL ((l + 1 : Nat) : Int) = p at *; simp [inB]; omega) (by omega)]
  unfold aboveC cellC
  rw [a1, b1, c1, show ((l + 1 : Nat) : Int) - 1 = (l : Int) by omega]
end Go.Proofs.Yteanlcefdoigcaa
