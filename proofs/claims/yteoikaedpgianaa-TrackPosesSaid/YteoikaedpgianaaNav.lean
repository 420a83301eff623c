/- NavTime: what the program and its reference return, for every row of clocks and every time. -/
import Derived.Test.YteoikaedpgianaaBox
import Derived.Test.YteoikaedpgianaaRec
namespace Go.Proofs.Yteoikaedpgianaa
open Go.RowKit

/-- the first n of them all -/
def allN (p : Nat → Bool) : Nat → Bool
  | 0 => true
  | k + 1 => allN p k && p k
theorem allN_next {p : Nat → Bool} {k : Nat} (h : allN p k = true) (h2 : p k = true) : allN p (k + 1) = true := by simp [allN, h, h2]
theorem allN_stop {p : Nat → Bool} {n k : Nat} (hk : k < n) (h : p k = false) : allN p n = false := by
  induction n with
  | zero => omega
  | succ n ih =>
    by_cases he : k = n
    · subst he; simp [allN, h]
    · simp [allN, ih (by omega)]
theorem allN_iff {p : Nat → Bool} {n : Nat} : allN p n = true ↔ ∀ i, i < n → p i = true := by
  induction n with
  | zero => simp [allN]
  | succ n ih =>
    simp only [allN, Bool.and_eq_true, ih]
    constructor
    · rintro ⟨h1, h2⟩ i hi
      by_cases he : i = n
      · subst he; exact h2
      · exact h1 i (by omega)
    · intro h; exact ⟨fun i hi => h i (by omega), h n (by omega)⟩

theorem setRow_past {W : World} {g n : Nat} {x : Obj} {cells : Array Value} (h : W.heap[n]? = some x) (hne : n ≠ g) : (W.setRow g cells).heap[n]? = some x := by
  show (W.heap.modify g _)[n]? = _
  rw [Array.getElem?_modify]
  rw [if_neg (by omega)]; exact h
end Go.Proofs.Yteoikaedpgianaa
