/- An exchange of two elements: a drawn region of values and two stores, of which the second one's target may be reckoned behind the first store. A row of two integers each as a list. -/
import Derived.Test.YteoikaedpgianaaRReg
import Derived.Test.YteoikaedpgianaaRPart
namespace Go.Proofs.Yteoikaedpgianaa
open Go.RowKit

/-- two stores (at s1, then at s2) beside values; ps: what the first store waits for; W0, W1, W2: the worlds ahead of, between and behind the stores -/
structure TwoT (W0 W1 W2 : World) (s1 s2 : Nat) (ps : List Nat) (vs : List Value) (L : Nat → Bool) (us : Nat → Value) (W : World) : Prop where
  vals : ∀ j, L j = true → j ≠ s1 → j ≠ s2 → us j = vs.getD j undef
  ord : L s2 = true → L s1 = true
  pre : L s1 = true → ∀ j ∈ ps, L j = true
  wld : W = if L s2 = true then W2 else if L s1 = true then W1 else W0
section
variable {W0 W1 W2 W : World} {s1 s2 : Nat} {ps : List Nat} {vs : List Value} {L : Nat → Bool} {us : Nat → Value} {v : Value}
theorem TwoT.start : TwoT W0 W1 W2 s1 s2 ps vs (fun _ => false) us W0 := ⟨fun _ h => (Bool.false_ne_true h).elim, fun h => (Bool.false_ne_true h).elim, fun h => (Bool.false_ne_true h).elim, rfl⟩
theorem TwoT.pure (k : Nat) (h : TwoT W0 W1 W2 s1 s2 ps vs L us W) (h1 : k ≠ s1) (h2 : k ≠ s2) (hv : v = vs.getD k undef) : TwoT W0 W1 W2 s1 s2 ps vs (fun j => j == k || L j) (updF us k v) W := by
  have e1 : (s1 == k || L s1) = L s1 := by rw [show (s1 == k) = false from beq_false_of_ne (Ne.symm h1), Bool.false_or]
  have e2 : (s2 == k || L s2) = L s2 := by rw [show (s2 == k) = false from beq_false_of_ne (Ne.symm h2), Bool.false_or]
  refine ⟨fun j hj j1 j2 => ?_, fun g => ?_, fun g j hj => ?_, ?_⟩
  · by_cases hjk : j = k
    · subst hjk; simp [updF, hv]
    · have e : updF us k v j = us j := by simp [updF, hjk]
      rw [e]
      exact h.vals j (by simpa [hjk] using hj) j1 j2
  · simp only [e1, e2] at g ⊢
    exact h.ord g
  · simp only [e1] at g
    rw [h.pre g j hj, Bool.or_true]
  · simp only [e1, e2]
    exact h.wld
theorem TwoT.none2 (h : TwoT W0 W1 W2 s1 s2 ps vs L us W) (h1 : L s1 = false) : L s2 = false := by
  cases g : L s2
  · rfl
  · rw [h.ord g] at h1; cases h1
/-- ahead of the first store, which waits for k -/
theorem TwoT.at0 (h : TwoT W0 W1 W2 s1 s2 ps vs L us W) {k : Nat} (hk : k ∈ ps) (hL : L k = false) : W = W0 := by
  have h1 : L s1 = false := by
    cases g : L s1
    · rfl
    · rw [h.pre g k hk] at hL; cases hL
  have := h.wld
  rw [h.none2 h1, h1] at this
  simpa using this
theorem TwoT.fst (h : TwoT W0 W1 W2 s1 s2 ps vs L us W) (h1 : L s1 = false) (hp : ∀ j ∈ ps, L j = true) (hne : s1 ≠ s2) : W = W0 ∧ TwoT W0 W1 W2 s1 s2 ps vs (fun j => j == s1 || L j) (updF us s1 v) W1 := by
  have h2 := h.none2 h1
  refine ⟨by have := h.wld; rw [h2, h1] at this; simpa using this, fun j hj j1 j2 => ?_, fun _ => by simp, fun _ j hj => by rw [hp j hj, Bool.or_true], ?_⟩
  · have e : updF us s1 v j = us j := by simp [updF, j1]
    rw [e]
    exact h.vals j (by simpa [j1] using hj) j1 j2
  · have e2 : (s2 == s1 || L s2) = false := by rw [show (s2 == s1) = false from beq_false_of_ne (Ne.symm hne), h2]; rfl
    simp [e2]
theorem TwoT.snd (h : TwoT W0 W1 W2 s1 s2 ps vs L us W) (h1 : L s1 = true) (h2 : L s2 = false) : W = W1 ∧ TwoT W0 W1 W2 s1 s2 ps vs (fun j => j == s2 || L j) (updF us s2 v) W2 := by
  refine ⟨by have := h.wld; rw [h2, h1] at this; simpa using this, fun j hj j1 j2 => ?_, fun _ => ?_, fun _ j hj => ?_, by simp⟩
  · have e : updF us s2 v j = us j := by simp [updF, j2]
    rw [e]
    exact h.vals j (by simpa [j2] using hj) j1 j2
  · rw [h1, Bool.or_true]
  · rw [h.pre h1 j hj, Bool.or_true]
end

/-- the cells hold the list l, two integers an element, from the first cell on -/
structure RowsC (C : Array Value) (l : List (Int × Int × Int)) : Prop where
  size : l.length * 2 ≤ C.size
  at0 : ∀ i x, l[i]? = some x → C[i * 2]? = some (.int .i64 x.2.1)
  at1 : ∀ i x, l[i]? = some x → C[i * 2 + 1]? = some (.int .i64 x.2.2)
/-- the three cells of an element -/
def row2 (x : Int × Int × Int) : List Value := [.int .i64 x.2.1, .int .i64 x.2.2]
theorem RowsC.set {C : Array Value} {l : List (Int × Int × Int)} (h : RowsC C l) {i : Nat} (hi : i < l.length) (x : Int × Int × Int) : RowsC (ptL C (i * 2) (row2 x)) (l.set i x) := by
  have hs := h.size
  have key : ∀ (j : Nat) (k : Nat), j < 2 → k ≠ i → (ptL C (i * 2) (row2 x))[k * 2 + j]? = C[k * 2 + j]? := fun j k hj hk => ptL_out _ _ _ _ (by show k * 2 + j < i * 2 ∨ i * 2 + 2 ≤ k * 2 + j; omega)
  have same : ∀ (j : Nat), j < 2 → (ptL C (i * 2) (row2 x))[i * 2 + j]? = (row2 x)[j]? := fun j hj => ptL_in _ _ _ _ (by show i * 2 + 2 ≤ C.size; omega) hj
  have pick : ∀ k y, (l.set i x)[k]? = some y → (k = i ∧ y = x) ∨ (k ≠ i ∧ l[k]? = some y) := fun k y hk => by
    by_cases hki : k = i
    · subst hki
      rw [List.getElem?_set_self hi] at hk
      exact Or.inl ⟨rfl, by injection hk with hk; exact hk.symm⟩
    · rw [List.getElem?_set_ne (Ne.symm hki)] at hk
      exact Or.inr ⟨hki, hk⟩
  refine ⟨by rw [List.length_set, ptL_size]; exact hs, fun k y hk => ?_, fun k y hk => ?_⟩
  · rcases pick k y hk with ⟨rfl, rfl⟩ | ⟨hne, hy⟩
    · exact (same 0 (by decide)).trans rfl
    · exact (key 0 k (by decide) hne).trans (h.at0 k y hy)
  · rcases pick k y hk with ⟨rfl, rfl⟩ | ⟨hne, hy⟩
    · exact (same 1 (by decide)).trans rfl
    · exact (key 1 k (by decide) hne).trans (h.at1 k y hy)
/-- block b holds the list l -/
def RowsL (W : World) (b t : Nat) (l : List (Int × Int × Int)) : Prop := ∃ C : Array Value, W.heap[b]? = some (.cells C t) ∧ RowsC C l
theorem RowsL.grow {W W' : World} {b t : Nat} {l : List (Int × Int × Int)} (h : RowsL W b t l) (hB : Below W.heap.size W W') : RowsL W' b t l := by
  obtain ⟨C, hC, hr⟩ := h
  exact ⟨C, heap_still hB hC, hr⟩
/-- all blocks below B but g are as they were -/
structure Keeps (g B : Nat) (w w' : World) : Prop where
  os : w'.os = w.os
  tape : w'.tape = w.tape
  output : w'.output = w.output
  size : w.heap.size ≤ w'.heap.size
  block : ∀ k, k < B → k ≠ g → w'.heap[k]? = w.heap[k]?
theorem Keeps.refl (g B : Nat) (w : World) : Keeps g B w w := ⟨rfl, rfl, rfl, Nat.le_refl _, fun _ _ _ => rfl⟩
theorem Keeps.trans {g B : Nat} {w w1 w2 : World} (h : Keeps g B w w1) (k : Keeps g B w1 w2) : Keeps g B w w2 :=
  ⟨k.os.trans h.os, k.tape.trans h.tape, k.output.trans h.output, Nat.le_trans h.size k.size, fun i hi hn => (k.block i hi hn).trans (h.block i hi hn)⟩
theorem Keeps.mono {g B B' : Nat} {w w' : World} (h : Keeps g B w w') (hB : B' ≤ B) : Keeps g B' w w' := ⟨h.os, h.tape, h.output, h.size, fun i hi hn => h.block i (by omega) hn⟩
theorem Keeps.setRow {g B : Nat} {w w' : World} (h : Keeps g B w w') (cs : Array Value) : Keeps g B w (w'.setRow g cs) :=
  ⟨h.os, h.tape, h.output, Nat.le_trans h.size (by simp), fun i hi hn => by
    show (w'.heap.modify g _)[i]? = _
    rw [Array.getElem?_modify, if_neg (by omega)]
    exact h.block i hi hn⟩
theorem Keeps.drew {g B : Nat} {w w' : World} (h : Keeps g B w w') : Keeps g B w w'.drew := ⟨h.os, h.tape, h.output, h.size, h.block⟩
theorem Keeps.of_below {g B : Nat} {w w' : World} (h : Below B w w') : Keeps g B w w' := ⟨h.os, h.tape, h.output, h.size, fun i hi _ => h.block i hi⟩
end Go.Proofs.Yteoikaedpgianaa
