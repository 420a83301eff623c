/- NavTime: what the program and its reference return, for every row of clocks and every time. -/
import Derived.Test.YteoikaedpgianaaRBox
import Derived.Test.YteoikaedpgianaaRLift
namespace Go.Proofs.Yteoikaedpgianaa
open Go.RowKit

/-- the first n of them all -/
def allN (p : Nat → Bool) : Nat → Bool
  | 0 => true
  | k + 1 => allN p k && p k
theorem allN_next {p : Nat → Bool} {k : Nat} (h : allN p k = true) (h2 : p k = true) : allN p (k + 1) = true := by simp [allN, h, h2]
theorem allN_stop {p : Nat → Bool} {n k : Nat} (hk : k < n) (h : p k = false) : allN p n = false := by
  induction n with
  | zero => omega
  | succ n ih =>
    by_cases he : k = n
    · subst he; simp [allN, h]
    · simp [allN, ih (by omega)]
theorem allN_iff {p : Nat → Bool} {n : Nat} : allN p n = true ↔ ∀ i, i < n → p i = true := by
  induction n with
  | zero => simp [allN]
  | succ n ih =>
    simp only [allN, Bool.and_eq_true, ih]
    constructor
    · rintro ⟨h1, h2⟩ i hi
      by_cases he : i = n
      · subst he; exact h2
      · exact h1 i (by omega)
    · intro h; exact ⟨fun i hi => h i (by omega), h n (by omega)⟩

end Go.Proofs.Yteoikaedpgianaa
