/- Plain law: the parts of equal length of a list, for the stable sort by blocks. -/
import Derived.Test.YteoikaedpgianaaMergeM
namespace Go.Proofs.Yteoikaedpgianaa
section
variable {α : Type} {key : α → Int}
/-- part i of length c -/
def chunk (l : List α) (i c : Nat) : List α := (l.drop (i * c)).take c
/-- each part is sorted -/
def Chunks (key : α → Int) (l : List α) (c : Nat) : Prop := ∀ i, Up key (chunk l i c)
/-- the first k parts are sorted -/
def ChunksTo (key : α → Int) (l : List α) (c k : Nat) : Prop := ∀ i, i < k → Up key (chunk l i c)
theorem up_nil : Up key ([] : List α) := List.Pairwise.nil
theorem chunk_left {Z z : List α} {i c k : Nat} (hZ : Z.length = k * c) (hi : i < k) : chunk (Z ++ z) i c = chunk Z i c := by
  have h : (i + 1) * c ≤ k * c := Nat.mul_le_mul_right c hi
  rw [Nat.add_mul, Nat.one_mul] at h
  unfold chunk
  rw [List.drop_append_of_le_length (by omega), List.take_append_of_le_length (by rw [List.length_drop]; omega)]
theorem chunk_at {Z z s : List α} {k c : Nat} (hZ : Z.length = k * c) (hz : z.length = c) : chunk (Z ++ (z ++ s)) k c = z := by
  unfold chunk
  rw [← hZ, List.drop_left, ← hz, List.take_left]
theorem chunk_last {Z z : List α} {k c : Nat} (hZ : Z.length = k * c) (hz : z.length ≤ c) : chunk (Z ++ z) k c = z := by
  unfold chunk
  rw [← hZ, List.drop_left, List.take_of_length_le hz]
theorem chunk_past {Z z : List α} {i k c : Nat} (hZ : Z.length = k * c) (hz : z.length ≤ c) (hi : k < i) : chunk (Z ++ z) i c = [] := by
  have h : (k + 1) * c ≤ i * c := Nat.mul_le_mul_right c hi
  rw [Nat.add_mul, Nat.one_mul] at h
  unfold chunk
  rw [List.drop_of_length_le (by rw [List.length_append]; omega), List.take_nil]
theorem ChunksTo.more {Z z : List α} {c k : Nat} (h : ChunksTo key Z c k) (hZ : Z.length = k * c) (hz : z.length = c) (hu : Up key z) : ChunksTo key (Z ++ z) c (k + 1) := fun i hi => by
  rcases Nat.lt_or_ge i k with g | g
  · rw [chunk_left hZ g]; exact h i g
  · obtain rfl : i = k := by omega
    have := chunk_at (s := []) hZ hz
    rw [List.append_nil] at this
    rw [this]; exact hu
theorem ChunksTo.all {Z z : List α} {c k : Nat} (h : ChunksTo key Z c k) (hZ : Z.length = k * c) (hz : z.length ≤ c) (hu : Up key z) : Chunks key (Z ++ z) c := fun i => by
  rcases Nat.lt_trichotomy i k with g | rfl | g
  · rw [chunk_left hZ g]; exact h i g
  · rw [chunk_last hZ hz]; exact hu
  · rw [chunk_past hZ hz g]; exact up_nil
theorem Chunks.whole {l : List α} {c : Nat} (h : Chunks key l c) (hc : l.length ≤ c) : Up key l := by
  have := h 0
  unfold chunk at this
  rwa [Nat.zero_mul, List.drop_zero, List.take_of_length_le hc] at this
/-- the first two parts of a list, and the rest -/
theorem Chunks.two {R : List α} {c : Nat} (h : Chunks key R c) (hc : c + c ≤ R.length) : ∃ u v R', R = u ++ (v ++ R') ∧ u.length = c ∧ v.length = c ∧ Up key u ∧ Up key v ∧ Chunks key R' c := by
  refine ⟨R.take c, (R.drop c).take c, R.drop (c + c), ?_, by rw [List.length_take]; omega, by rw [List.length_take, List.length_drop]; omega, ?_, ?_, fun i => ?_⟩
  · rw [← List.drop_drop, List.take_append_drop, List.take_append_drop]
  · have := h 0
    unfold chunk at this
    rwa [Nat.zero_mul, List.drop_zero] at this
  · have := h 1
    unfold chunk at this
    rwa [Nat.one_mul] at this
  · have := h (i + 2)
    unfold chunk at this ⊢
    rw [List.drop_drop]
    rwa [show (i + 2) * c = c + c + i * c by rw [Nat.add_mul]; omega] at this
/-- the first part of a list, and the rest that is no longer than a part -/
theorem Chunks.rest {R : List α} {c : Nat} (h : Chunks key R c) (h1 : c < R.length) (h2 : R.length < c + c) : ∃ u v, R = u ++ v ∧ u.length = c ∧ 0 < v.length ∧ Up key u ∧ Up key v := by
  refine ⟨R.take c, R.drop c, (List.take_append_drop _ _).symm, by rw [List.length_take]; omega, by rw [List.length_drop]; omega, ?_, ?_⟩
  · have := h 0
    unfold chunk at this
    rwa [Nat.zero_mul, List.drop_zero] at this
  · have := h 1
    unfold chunk at this
    rwa [Nat.one_mul, List.take_of_length_le (by rw [List.length_drop]; omega)] at this
end
end Go.Proofs.Yteoikaedpgianaa
