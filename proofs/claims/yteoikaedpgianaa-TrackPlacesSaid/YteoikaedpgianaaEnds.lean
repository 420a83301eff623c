/- Two variables that are laid into blocks of their own in one statement, for rational numbers. The reference's span around rational numbers. The ends of the reference's four numbers. -/
import Derived.Test.YteoikaedpgianaaPart
import Derived.Test.YteoikaedpgianaaRUp
import Derived.Test.YteoikaedpgianaaScale
namespace Go.Proofs.Yteoikaedpgianaa
open Go.RowKit Limb

def Z35 : Array Value := #[.bool false, .slice none 0 0, .slice none 0 0]
/-- stays when a block of a rational number is written -/
def StbT (p : World → Value → Prop) : Prop := ∀ W v g old cs, W.heap[g]? = some (.cells old 35) → p W v → p (W.setRow g cs) v
def StbTL : List (World → Value → Prop) → Prop
  | [] => True
  | p :: l => StbT p ∧ StbTL l
theorem StbTL.at : ∀ {l : List (World → Value → Prop)}, StbTL l → ∀ j W v g old cs, W.heap[g]? = some (.cells old 35) → l.getD j (fun _ _ => True) W v → l.getD j (fun _ _ => True) (W.setRow g cs) v
  | [], _, j, W, v, g, old, cs, _, _ => by simp
  | p :: l, h, 0, W, v, g, old, cs, hg, hp => h.1 W v g old cs hg hp
  | p :: l, h, j + 1, W, v, g, old, cs, hg, hp => StbTL.at h.2 j W v g old cs hg hp
theorem IsV.stbT (x : Value) : StbT (IsV x) := fun _ _ _ _ _ _ h => h
/-- what holds while two rational numbers are laid into their blocks -/
structure DuoR (W0 : World) (ps : List (World → Value → Prop)) (L : Nat → Bool) (us : Nat → Value) (W : World) : Prop where
  grow : Below W0.heap.size W0 W
  vals : ∀ j, j < 6 → L j = true → ps.getD j (fun _ _ => True) W (us j)
  b6 : L 6 = true → ∃ g, us 6 = .pointer (some ⟨g, 0, none⟩) ∧ W0.heap.size ≤ g ∧ W.heap[g]? = some (.cells (if L 8 = true then cellsOf (us 2) else Z35) 35)
  b7 : L 7 = true → ∃ g, us 7 = .pointer (some ⟨g, 0, none⟩) ∧ W0.heap.size ≤ g ∧ W.heap[g]? = some (.cells (if L 9 = true then cellsOf (us 5) else Z35) 35)
  ne : L 6 = true → L 7 = true → us 6 ≠ us 7
  d8 : L 8 = true → L 6 = true ∧ L 2 = true
  d9 : L 9 = true → L 7 = true ∧ L 5 = true
theorem DuoR.pure {W0 W W' : World} {ps : List (World → Value → Prop)} {L : Nat → Bool} {us : Nat → Value} {k : Nat} {v : Value} (hps : StbL ps) (h : DuoR W0 ps L us W) (hk : k < 6) (hL : L k = false) (hB : Below W.heap.size W W')
    (hv : ps.getD k (fun _ _ => True) W' v) : DuoR W0 ps (fun j => j == k || L j) (updF us k v) W' := by
  have o : ∀ j, 6 ≤ j → ((j == k || L j) = L j) ∧ updF us k v j = us j := fun j hj => by
    have hne : j ≠ k := by omega
    exact ⟨by rw [show (j == k) = false from beq_false_of_ne hne, Bool.false_or], by simp [updF, hne]⟩
  refine ⟨h.grow.trans (hB.mono h.grow.size), ?_, ?_, ?_, ?_, ?_, ?_⟩
  · intro j hj hLj
    by_cases hjk : j = k
    · subst hjk; simpa [updF] using hv
    · simp only [updF, hjk, if_false]
      exact hps.at j W W' _ hB (h.vals j hj (by simpa [hjk] using hLj))
  · intro h12
    rw [(o 6 (by omega)).1] at h12
    obtain ⟨g, e, hg, hh⟩ := h.b6 h12
    refine ⟨g, by rw [(o 6 (by omega)).2]; exact e, hg, ?_⟩
    rw [(o 8 (by omega)).1]
    have := heap_still hB hh
    by_cases h14 : L 8 = true
    · have h5 := (h.d8 h14).2
      have hne : (2 : Nat) ≠ k := by rintro rfl; rw [h5] at hL; cases hL
      rw [show updF us k v 2 = us 2 by simp [updF, hne]]
      exact this
    · rw [if_neg h14] at this ⊢
      exact this
  · intro h13
    rw [(o 7 (by omega)).1] at h13
    obtain ⟨g, e, hg, hh⟩ := h.b7 h13
    refine ⟨g, by rw [(o 7 (by omega)).2]; exact e, hg, ?_⟩
    rw [(o 9 (by omega)).1]
    have := heap_still hB hh
    by_cases h15 : L 9 = true
    · have h11 := (h.d9 h15).2
      have hne : (5 : Nat) ≠ k := by rintro rfl; rw [h11] at hL; cases hL
      rw [show updF us k v 5 = us 5 by simp [updF, hne]]
      exact this
    · rw [if_neg h15] at this ⊢
      exact this
  · intro h12 h13
    rw [(o 6 (by omega)).1] at h12
    rw [(o 7 (by omega)).1] at h13
    rw [(o 6 (by omega)).2, (o 7 (by omega)).2]
    exact h.ne h12 h13
  · intro h14
    rw [(o 8 (by omega)).1] at h14
    have := h.d8 h14
    exact ⟨by rw [(o 6 (by omega)).1]; exact this.1, by rw [this.2]; simp⟩
  · intro h15
    rw [(o 9 (by omega)).1] at h15
    have := h.d9 h15
    exact ⟨by rw [(o 7 (by omega)).1]; exact this.1, by rw [this.2]; simp⟩
theorem DuoR.alloc6 {W0 W : World} {ps : List (World → Value → Prop)} {L : Nat → Bool} {us : Nat → Value} (hps : StbL ps) (h : DuoR W0 ps L us W) (hL : L 6 = false) :
    DuoR W0 ps (fun j => j == 6 || L j) (updF us 6 (.pointer (some ⟨W.heap.size, 0, none⟩))) (W.alloc (.cells Z35 35)) := by
  have hB := (Below.refl W.heap.size W).alloc (Nat.le_refl _) (.cells Z35 35)
  have h14 : L 8 = false := by
    cases h14 : L 8 with
    | false => rfl
    | true => have := (h.d8 h14).1; rw [this] at hL; cases hL
  refine ⟨h.grow.trans (hB.mono h.grow.size), ?_, ?_, ?_, ?_, ?_, ?_⟩
  · intro j hj hLj
    rw [eqb_or (by omega)] at hLj
    rw [updF_ne (by omega)]
    exact hps.at j W _ _ hB (h.vals j hj hLj)
  · intro _
    refine ⟨W.heap.size, updF_at, h.grow.size, ?_⟩
    rw [eqb_or (by decide), h14, if_neg (by decide)]
    exact heap_alloc_at _ _ _ rfl
  · intro h13
    rw [eqb_or (by decide)] at h13
    obtain ⟨g, e, hg, hh⟩ := h.b7 h13
    refine ⟨g, by rw [updF_ne (by decide)]; exact e, hg, ?_⟩
    rw [eqb_or (by decide), updF_ne (by decide)]
    exact heap_alloc_past _ _ _ _ hh
  · intro _ h13
    rw [eqb_or (by decide)] at h13
    obtain ⟨g, e, hg, hh⟩ := h.b7 h13
    rw [updF_at, updF_ne (by decide), e]
    intro h
    have hlt := (Array.getElem?_eq_some_iff.1 hh).1
    simp at h
    (try omega)
  · intro h'
    rw [eqb_or (by decide), h14] at h'
    cases h'
  · intro h15
    rw [eqb_or (by decide)] at h15
    have := h.d9 h15
    exact ⟨by rw [eqb_or (by decide)]; exact this.1, by rw [eqb_or (by decide)]; exact this.2⟩
theorem DuoR.alloc7 {W0 W : World} {ps : List (World → Value → Prop)} {L : Nat → Bool} {us : Nat → Value} (hps : StbL ps) (h : DuoR W0 ps L us W) (hL : L 7 = false) :
    DuoR W0 ps (fun j => j == 7 || L j) (updF us 7 (.pointer (some ⟨W.heap.size, 0, none⟩))) (W.alloc (.cells Z35 35)) := by
  have hB := (Below.refl W.heap.size W).alloc (Nat.le_refl _) (.cells Z35 35)
  have h15 : L 9 = false := by
    cases h15 : L 9 with
    | false => rfl
    | true => have := (h.d9 h15).1; rw [this] at hL; cases hL
  refine ⟨h.grow.trans (hB.mono h.grow.size), ?_, ?_, ?_, ?_, ?_, ?_⟩
  · intro j hj hLj
    rw [eqb_or (by omega)] at hLj
    rw [updF_ne (by omega)]
    exact hps.at j W _ _ hB (h.vals j hj hLj)
  · intro h12
    rw [eqb_or (by decide)] at h12
    obtain ⟨g, e, hg, hh⟩ := h.b6 h12
    refine ⟨g, by rw [updF_ne (by decide)]; exact e, hg, ?_⟩
    rw [eqb_or (by decide), updF_ne (by decide)]
    exact heap_alloc_past _ _ _ _ hh
  · intro _
    refine ⟨W.heap.size, updF_at, h.grow.size, ?_⟩
    rw [eqb_or (by decide), h15, if_neg (by decide)]
    exact heap_alloc_at _ _ _ rfl
  · intro h12 _
    rw [eqb_or (by decide)] at h12
    obtain ⟨g, e, hg, hh⟩ := h.b6 h12
    rw [updF_at, updF_ne (by decide), e]
    intro h
    have hlt := (Array.getElem?_eq_some_iff.1 hh).1
    simp at h
    (try omega)
  · intro h14
    rw [eqb_or (by decide)] at h14
    have := h.d8 h14
    exact ⟨by rw [eqb_or (by decide)]; exact this.1, by rw [eqb_or (by decide)]; exact this.2⟩
  · intro h'
    rw [eqb_or (by decide), h15] at h'
    cases h'
theorem DuoR.store8 {W0 W : World} {ps : List (World → Value → Prop)} {L : Nat → Bool} {us : Nat → Value} {g : Nat} {cs : Array Value} (hpr : StbTL ps) (h : DuoR W0 ps L us W) (h12 : L 6 = true) (h5 : L 2 = true) (e : us 6 = .pointer (some ⟨g, 0, none⟩)) (hg : W0.heap.size ≤ g) (hh : W.heap[g]? = some (.cells Z35 35)) (hc : cellsOf (us 2) = cs) (v : Value) :
    DuoR W0 ps (fun j => j == 8 || L j) (updF us 8 v) (W.setRow g cs) := by
  refine ⟨below_setRow h.grow hg _, ?_, ?_, ?_, ?_, ?_, ?_⟩
  · intro j hj hLj
    rw [eqb_or (by omega)] at hLj
    rw [updF_ne (by omega)]
    exact hpr.at j W _ g _ cs hh (h.vals j hj hLj)
  · intro _
    refine ⟨g, by rw [updF_ne (by decide)]; exact e, hg, ?_⟩
    rw [if_pos (by simp), updF_ne (by decide), hc]
    exact setRow_heap _ _ _ _ _ _ hh
  · intro h13
    rw [eqb_or (by decide)] at h13
    obtain ⟨g', e', hg', hh'⟩ := h.b7 h13
    have hne : g' ≠ g := by
      rintro rfl
      exact h.ne h12 h13 (e.trans e'.symm)
    refine ⟨g', by rw [updF_ne (by decide)]; exact e', hg', ?_⟩
    rw [eqb_or (by decide), updF_ne (by decide), heap_row_other hne]
    exact hh'
  · intro h12' h13
    rw [eqb_or (by decide)] at h12' h13
    rw [updF_ne (by decide), updF_ne (by decide)]
    exact h.ne h12' h13
  · intro _
    exact ⟨by rw [eqb_or (by decide)]; exact h12, by rw [eqb_or (by decide)]; exact h5⟩
  · intro h15
    rw [eqb_or (by decide)] at h15
    have := h.d9 h15
    exact ⟨by rw [eqb_or (by decide)]; exact this.1, by rw [eqb_or (by decide)]; exact this.2⟩
theorem DuoR.store9 {W0 W : World} {ps : List (World → Value → Prop)} {L : Nat → Bool} {us : Nat → Value} {g : Nat} {cs : Array Value} (hpr : StbTL ps) (h : DuoR W0 ps L us W) (h13 : L 7 = true) (h11 : L 5 = true) (e : us 7 = .pointer (some ⟨g, 0, none⟩)) (hg : W0.heap.size ≤ g) (hh : W.heap[g]? = some (.cells Z35 35)) (hc : cellsOf (us 5) = cs) (v : Value) :
    DuoR W0 ps (fun j => j == 9 || L j) (updF us 9 v) (W.setRow g cs) := by
  refine ⟨below_setRow h.grow hg _, ?_, ?_, ?_, ?_, ?_, ?_⟩
  · intro j hj hLj
    rw [eqb_or (by omega)] at hLj
    rw [updF_ne (by omega)]
    exact hpr.at j W _ g _ cs hh (h.vals j hj hLj)
  · intro h12
    rw [eqb_or (by decide)] at h12
    obtain ⟨g', e', hg', hh'⟩ := h.b6 h12
    have hne : g' ≠ g := by
      rintro rfl
      exact h.ne h12 h13 (e'.trans e.symm)
    refine ⟨g', by rw [updF_ne (by decide)]; exact e', hg', ?_⟩
    rw [eqb_or (by decide), updF_ne (by decide), heap_row_other hne]
    exact hh'
  · intro _
    refine ⟨g, by rw [updF_ne (by decide)]; exact e, hg, ?_⟩
    rw [if_pos (by simp), updF_ne (by decide), hc]
    exact setRow_heap _ _ _ _ _ _ hh
  · intro h12 h13'
    rw [eqb_or (by decide)] at h12 h13'
    rw [updF_ne (by decide), updF_ne (by decide)]
    exact h.ne h12 h13'
  · intro h14
    rw [eqb_or (by decide)] at h14
    have := h.d8 h14
    exact ⟨by rw [eqb_or (by decide)]; exact this.1, by rw [eqb_or (by decide)]; exact this.2⟩
  · intro _
    exact ⟨by rw [eqb_or (by decide)]; exact h13, by rw [eqb_or (by decide)]; exact h11⟩

end Go.Proofs.Yteoikaedpgianaa
namespace Go.Proofs.Yteoikaedpgianaa
open Go.RowKit Limb

/-- the least of the first i + 1 numbers, as the reference finds it -/
def lowQ (q : Nat → Rat) : Nat → Rat
  | 0 => q 0
  | i + 1 => if cmpQ (q (i + 1)) (lowQ q i) < 0 then q (i + 1) else lowQ q i
def highQ (q : Nat → Rat) : Nat → Rat
  | 0 => q 0
  | i + 1 => if 0 < cmpQ (q (i + 1)) (highQ q i) then q (i + 1) else highQ q i
set_option maxRecDepth 100000 in
theorem end_any (a : Int) (k : Nat) (va : Value) (w : World) (ha : IntAt w va a k) (hf : -1152921504606846976 ≤ a ∧ a ≤ 1152921504606846976) :
    Calls Try.prog 145 #[va] w fun r w' => r = .returned (.tuple #[.int .i64 a, .int .i64 0]) ∧ Below w.heap.size w w' := by
  have HF := hid (fun W v h => fits_any a k v W h (by omega))
  have HA := hid ha
  obtain ⟨lx, rfl, hna, _⟩ := ha
  obtain ⟨la, ca, rfl, _, _⟩ := NatAt.open hna
  obtain ⟨hf0, hf1⟩ := hf
  generalize decide (a < 0) = s at *
  generalize (natL a.natAbs).length = p at *
  clear hna
  have HBw := hid (Below.refl w.heap.size w)
  go_enter Try.func145, Try.ntmps145
  go_wp2_with fail
  refine (HF.out _ _ (HA.out.grow (by (repeat' (first | (with_reducible exact Below.refl _ _) | (with_reducible assumption) | (with_reducible refine Below.alloc ?_ ?_ _) | (with_reducible refine Below.drew ?_) | (with_reducible refine below_drewN ?_ _) | (with_reducible refine Below.setCell ?_ ?_ _) | (with_reducible refine below_setRow ?_ ?_ _) | go_size))))).mono ?_
  rintro r w1 ⟨rfl, hb⟩
  have HBw1 := hid (show Below w.heap.size w w1 by have hB0 := HBw.out; refine Below.trans ?_ (hb.mono ?_); (focus ((repeat' (first | (with_reducible exact Below.refl _ _) | (with_reducible assumption) | (with_reducible refine Below.alloc ?_ ?_ _) | (with_reducible refine Below.drew ?_) | (with_reducible refine below_drewN ?_ _) | (with_reducible refine Below.setCell ?_ ?_ _) | (with_reducible refine below_setRow ?_ ?_ _) | go_size)); done)); (focus (first | (simp; done) | (simp; omega) | (have hB1 := hB0.size; simp; omega))))
  have hsw1 := hb.size
  (try simp at hsw1)
  have hzw1 : w.heap.size < w1.heap.size := by omega
  obtain ⟨hcw1, hfw1⟩ := bcell hb
  have hkw1 := hid (fun n x => @heap_still _ _ n x hb)
  clear hb
  go_wp2_with fail
  go_ret2
  exact ⟨rfl, HBw1.out⟩
theorem QAt.cells3a {W : World} {cs : Array Value} {q : Rat} {k : Nat} (h : QAt W (.agg cs) q k) : QCells cs 0 W q k := by
  have h0 := h
  obtain ⟨ln, ld, e, hn, hd, _, _⟩ := h
  cases e
  obtain ⟨a, ca, rfl, _, _⟩ := hn.open
  obtain ⟨b, cb, rfl, _, _⟩ := hd.open
  exact ⟨_, _, _, _, _, _, _, rfl, rfl, rfl, h0⟩
theorem rowQa {C old cs : Array Value} {o k g t : Nat} {fr : Nat × Nat} {W : World} {q : Rat} (h : QCells C o W q k) (hg : W.heap[g]? = some (.cells old t fr)) (ht : t ≠ 3) : QCells C o (W.setRow g cs) q k := by
  obtain ⟨s, a, p, c, b, r, d, h1, h2, h3, h4⟩ := h
  exact ⟨s, a, p, c, b, r, d, h1, h2, h3, h4.row hg ht⟩
theorem three {C : Array Value} {c0 c1 c2 : Value} (h : C.size = 3) (h0 : C[0]? = some c0) (h1 : C[1]? = some c1) (h2 : C[2]? = some c2) : C = #[c0, c1, c2] := by
  apply Array.ext_getElem?
  intro i
  match i with
  | 0 => exact h0
  | 1 => exact h1
  | 2 => exact h2
  | n + 3 => rw [Array.getElem?_eq_none (by omega), Array.getElem?_eq_none (by simp)]
/-- the world of the loop behind i + 1 numbers, but for the greatest one -/
def ArLow (q : Nat → Rat) (k : Nat) (C : Array Value) (g g4 : Nat) (W wr : World) (i : Nat) : Prop :=
  (∃ C1, wr.heap[g4]? = some (.cells C1 35) ∧ C1.size = 3 ∧ QCells C1 0 wr (lowQ q i) k) ∧ wr.heap[g]? = some (.cells C 35) ∧ (∀ j, j < 4 → QCells C (j * 3) wr (q j) k) ∧
    wr.heap[W.heap.size]? = some (.cells #[.int .i64 0, .int .i64 0] 44) ∧ Below W.heap.size W wr
def ArHigh (q : Nat → Rat) (k : Nat) (g5 : Nat) (wr : World) (i : Nat) : Prop := ∃ C2, wr.heap[g5]? = some (.cells C2 35) ∧ C2.size = 3 ∧ QCells C2 0 wr (highQ q i) k
theorem ArLow.grow {q : Nat → Rat} {k : Nat} {C : Array Value} {g g4 : Nat} {W wr wr' : World} {i : Nat} (h : ArLow q k C g g4 W wr i) (hB : Below wr.heap.size wr wr') : ArLow q k C g g4 W wr' i := by
  obtain ⟨⟨C1, h1, h2, h3⟩, h4, h5, h6, h7⟩ := h
  exact ⟨⟨C1, heap_still hB h1, h2, h3.grow hB⟩, heap_still hB h4, fun j hj => (h5 j hj).grow hB, heap_still hB h6, h7.trans (hB.mono h7.size)⟩
theorem ArLow.set {q : Nat → Rat} {k : Nat} {C C2 cs : Array Value} {g g4 g5 : Nat} {W wr : World} {i : Nat} (h : ArLow q k C g g4 W wr i) (h5 : wr.heap[g5]? = some (.cells C2 35)) (hne : g4 ≠ g5) (hneg : g ≠ g5) (hW : W.heap.size < g5) : ArLow q k C g g4 W (wr.setRow g5 cs) i := by
  obtain ⟨⟨C1, h1, h2, h3⟩, h4, h6, h7, h8⟩ := h
  exact ⟨⟨C1, (setRow_other _ _ _ _ hne).trans h1, h2, rowQa h3 h5 (by decide)⟩, (setRow_other _ _ _ _ hneg).trans h4, fun j hj => rowQa (h6 j hj) h5 (by decide), (setRow_other _ _ _ _ (by omega)).trans h7, below_setRow h8 (by omega) _⟩
theorem ArLow.low {q : Nat → Rat} {k : Nat} {C C1 cs : Array Value} {g g4 : Nat} {W wr : World} {i i' : Nat} (h : ArLow q k C g g4 W wr i) (h4 : wr.heap[g4]? = some (.cells C1 35)) (hneg : g ≠ g4) (hW : W.heap.size < g4) (hs : cs.size = 3) (hq : QAt wr (.agg cs) (lowQ q i') k) :
    ArLow q k C g g4 W (wr.setRow g4 cs) i' := by
  obtain ⟨_, h5, h6, h7, h8⟩ := h
  exact ⟨⟨cs, setRow_heap _ _ _ _ _ _ h4, hs, (hq.row h4 (by decide)).cells3a⟩, (setRow_other _ _ _ _ hneg).trans h5, fun j hj => rowQa (h6 j hj) h4 (by decide), (setRow_other _ _ _ _ (by omega)).trans h7, below_setRow h8 (by omega) _⟩
theorem ArLow.same {q : Nat → Rat} {k : Nat} {C : Array Value} {g g4 : Nat} {W wr : World} {i i' : Nat} (h : ArLow q k C g g4 W wr i) (he : lowQ q i' = lowQ q i) : ArLow q k C g g4 W wr i' := by
  obtain ⟨⟨C1, h1, h2, h3⟩, h4⟩ := h
  exact ⟨⟨C1, h1, h2, by rw [he]; exact h3⟩, h4⟩
theorem ArHigh.grow {q : Nat → Rat} {k : Nat} {g5 : Nat} {wr wr' : World} {i : Nat} (h : ArHigh q k g5 wr i) (hB : Below wr.heap.size wr wr') : ArHigh q k g5 wr' i := by
  obtain ⟨C2, h1, h2, h3⟩ := h
  exact ⟨C2, heap_still hB h1, h2, h3.grow hB⟩
theorem ArHigh.set {q : Nat → Rat} {k : Nat} {g4 g5 : Nat} {wr : World} {i : Nat} {C1 cs : Array Value} (h : ArHigh q k g5 wr i) (h4 : wr.heap[g4]? = some (.cells C1 35)) (hne : g5 ≠ g4) : ArHigh q k g5 (wr.setRow g4 cs) i := by
  obtain ⟨C2, h1, h2, h3⟩ := h
  exact ⟨C2, (setRow_other _ _ _ _ hne).trans h1, h2, rowQa h3 h4 (by decide)⟩
set_option maxRecDepth 100000 in
set_option maxHeartbeats 3200000 in
theorem around_any (q : Nat → Rat) (k : Nat) (C : Array Value) (g cap : Nat) (w : World) (hk : k ≤ 5000) (hC : w.heap[g]? = some (.cells C 35)) (hQ : ∀ j, j < 4 → QCells C (j * 3) w (q j) k)
    (hl : -1152921504606846976 ≤ (lowQ q 3).floor ∧ (lowQ q 3).floor ≤ 1152921504606846976) (hh : -1152921504606846976 ≤ (highQ q 3).ceil ∧ (highQ q 3).ceil ≤ 1152921504606846976) :
    Calls Try.prog 99 #[.slice (some ⟨g, 0, none⟩) 4 cap] w fun r w' => r = .returned (.tuple #[.agg #[.int .i64 (lowQ q 3).floor, .int .i64 (highQ q 3).ceil], .int .i64 0]) ∧ Below w.heap.size w w' := by
  have HQ := hid hQ
  have HL := hid (fun W v h => end_any (lowQ q 3).floor (k + 2) v W h hl)
  have HH := hid (fun W v h => end_any (highQ q 3).ceil (k + 2) v W h hh)
  have HFL := hid (fun W v h => qfloor_any (lowQ q 3) k v W h (by omega))
  have HCE := hid (fun W v h => qceil_any (highQ q 3) k v W h (by omega))
  have HCMP := hid (fun x y W v v' h h' => qcmp_any x y k v v' W h h' hk)
  have HC := hid hC
  obtain ⟨sa, aa, pa, ca, ba, ra, da, y0, y1, y2, hqa⟩ := hQ 0 (by decide)
  have HY0 := hid y0
  have HY1 := hid y1
  have HY2 := hid y2
  have HQA := hid hqa
  have hgw : g < w.heap.size := (Array.getElem?_eq_some_iff.1 hC).1
  clear hQ hl hh y0 y1 y2 hqa hC hk
  go_enter Try.func99, Try.ntmps99
  go_wp2_with fail
  refine gen_world (fun W0 hW0 => ?_)
  have HB0 := hid (show Below w.heap.size w W0 by rw [hW0]; (repeat' (first | (with_reducible exact Below.refl _ _) | (with_reducible assumption) | (with_reducible refine Below.alloc ?_ ?_ _) | (with_reducible refine Below.drew ?_) | (with_reducible refine below_drewN ?_ _) | (with_reducible refine Below.setCell ?_ ?_ _) | (with_reducible refine below_setRow ?_ ?_ _) | go_size)))
  have FR := hid (show W0.heap[w.heap.size]? = some (.cells #[.int .i64 0, .int .i64 0] 44) by rw [hW0]; exact (by repeat' (first | (refine heap_alloc_at _ _ _ ?_; (first | rfl | (simp; done) | (simp; omega))) | (refine heap_alloc_past _ _ _ _ ?_))))
  have hsz0 : w.heap.size < W0.heap.size := (Array.getElem?_eq_some_iff.1 FR.out).1
  clear hW0
  have FC := hid (heap_still HB0.out HC.out)
  refine gen_act (fun A0 hA => ?_)
  obtain ⟨ps, hpse⟩ : ∃ ps, ps = ([IsV (.slice (some ⟨g, 0, none⟩) 4 cap), IsV (.pointer (some ⟨g, 0, none⟩)), IsV (.agg #[.bool sa, .slice aa pa ca, .slice ba ra da]), IsV (.slice (some ⟨g, 0, none⟩) 4 cap), IsV (.pointer (some ⟨g, 0, none⟩)), IsV (.agg #[.bool sa, .slice aa pa ca, .slice ba ra da])] : List (World → Value → Prop)) := ⟨_, rfl⟩
  have HPS := hid (show StbL ps by rw [hpse]; exact ⟨IsV.stb _, IsV.stb _, IsV.stb _, IsV.stb _, IsV.stb _, IsV.stb _, trivial⟩)
  have HPR := hid (show StbTL ps by rw [hpse]; exact ⟨IsV.stbT _, IsV.stbT _, IsV.stbT _, IsV.stbT _, IsV.stbT _, IsV.stbT _, trivial⟩)
  refine wp_region_by (by kernel_rfl) (by kernel_rfl) [some 11, some 12, some 13, some 14, some 15, some 16, some 4, some 5, none, none] rfl (by decide) (DuoR W0 ps) (selfF A0 _) (putF_self A0 _)
    ⟨(Below.refl _ _).drew, fun _ _ h => (Bool.false_ne_true h).elim, fun h => (Bool.false_ne_true h).elim, fun h => (Bool.false_ne_true h).elim, fun h => (Bool.false_ne_true h).elim, fun h => (Bool.false_ne_true h).elim, fun h => (Bool.false_ne_true h).elim⟩ ?hs1 ?hend
  case hs1 =>
    subst hpse
    refine ⟨?_, ?_, ?_, ?_, ?_, ?_, ?_, ?_, ?_, ?_, trivial⟩
    · intro K L us W hK0 hL hd hR
      have hK := hid (fun v A' W' h1 h2 h3 => hK0 v A' W' h1 (hR.pure HPS.out (by decide) hL h2 h3)); clear hK0
      simp only [putF]
      rw [hA]
      go_frame
      go_wp2_with fail
      exact hK.out _ _ _ (by rw [hA]; simp only [putF]; kernel_rfl) (Below.refl _ _) rfl
    · intro K L us W hK0 hL hd hR
      have hK := hid (fun v A' W' h1 h2 h3 => hK0 v A' W' h1 (hR.pure HPS.out (by decide) hL h2 h3)); clear hK0
      (try simp [Region.binds] at hd)
      have e0 : us 0 = _ := hR.vals 0 (by decide) hd
      simp only [putF]
      rw [hA, e0]
      go_frame
      go_wp2_with fail
      exact hK.out _ _ _ (by rw [hA]; simp only [putF]; rw [e0]; kernel_rfl) (Below.refl _ _) rfl
    · intro K L us W hK0 hL hd hR
      have hK := hid (fun v A' W' h1 h2 h3 => hK0 v A' W' h1 (hR.pure HPS.out (by decide) hL h2 h3)); clear hK0
      (try simp [Region.binds] at hd)
      have e0 : us 1 = _ := hR.vals 1 (by decide) hd
      have G0 := hid (heap_still hR.grow FC.out)
      have c0 : W.cell? ⟨g, 0, none⟩ = some (.bool sa) := (cell_row G0.out).trans HY0.out
      have c1 : W.cell? ⟨g, 1, none⟩ = some (.slice aa pa ca) := (cell_row G0.out).trans HY1.out
      have c2 : W.cell? ⟨g, 2, none⟩ = some (.slice ba ra da) := (cell_row G0.out).trans HY2.out
      simp only [putF]
      rw [hA, e0]
      go_frame
      go_wp2_with fail
      exact hK.out _ _ _ (by rw [hA]; simp only [putF]; rw [e0]; kernel_rfl) (Below.refl _ _) rfl
    · intro K L us W hK0 hL hd hR
      have hK := hid (fun v A' W' h1 h2 h3 => hK0 v A' W' h1 (hR.pure HPS.out (by decide) hL h2 h3)); clear hK0
      simp only [putF]
      rw [hA]
      go_frame
      go_wp2_with fail
      exact hK.out _ _ _ (by rw [hA]; simp only [putF]; kernel_rfl) (Below.refl _ _) rfl
    · intro K L us W hK0 hL hd hR
      have hK := hid (fun v A' W' h1 h2 h3 => hK0 v A' W' h1 (hR.pure HPS.out (by decide) hL h2 h3)); clear hK0
      (try simp [Region.binds] at hd)
      have e0 : us 3 = _ := hR.vals 3 (by decide) hd
      simp only [putF]
      rw [hA, e0]
      go_frame
      go_wp2_with fail
      exact hK.out _ _ _ (by rw [hA]; simp only [putF]; rw [e0]; kernel_rfl) (Below.refl _ _) rfl
    · intro K L us W hK0 hL hd hR
      have hK := hid (fun v A' W' h1 h2 h3 => hK0 v A' W' h1 (hR.pure HPS.out (by decide) hL h2 h3)); clear hK0
      (try simp [Region.binds] at hd)
      have e0 : us 4 = _ := hR.vals 4 (by decide) hd
      have G0 := hid (heap_still hR.grow FC.out)
      have c0 : W.cell? ⟨g, 0, none⟩ = some (.bool sa) := (cell_row G0.out).trans HY0.out
      have c1 : W.cell? ⟨g, 1, none⟩ = some (.slice aa pa ca) := (cell_row G0.out).trans HY1.out
      have c2 : W.cell? ⟨g, 2, none⟩ = some (.slice ba ra da) := (cell_row G0.out).trans HY2.out
      simp only [putF]
      rw [hA, e0]
      go_frame
      go_wp2_with fail
      exact hK.out _ _ _ (by rw [hA]; simp only [putF]; rw [e0]; kernel_rfl) (Below.refl _ _) rfl
    · intro K L us W hK0 hL hd hR
      have hK := hid hK0; clear hK0
      have hR2 := hid (hR.alloc6 HPS.out hL)
      simp only [putF]
      rw [hA]
      go_frame
      go_wp2_with fail
      exact hK.out (.pointer (some ⟨W.heap.size, 0, none⟩)) _ _ (by rw [hA]; kernel_rfl) hR2.out
    · intro K L us W hK0 hL hd hR
      have hK := hid hK0; clear hK0
      have hR2 := hid (hR.alloc7 HPS.out hL)
      simp only [putF]
      rw [hA]
      go_frame
      go_wp2_with fail
      exact hK.out (.pointer (some ⟨W.heap.size, 0, none⟩)) _ _ (by rw [hA]; kernel_rfl) hR2.out
    · intro K L us W hK0 hL hd hR
      have hK := hid hK0; clear hK0
      simp [Region.binds] at hd
      have h12 : L 6 = true := hd.1
      have h5 : L 2 = true := hd.2.1
      obtain ⟨g', e0, hg, hh⟩ := hR.b6 h12
      rw [hL, if_neg (by decide)] at hh
      have e1 : us 2 = .agg #[.bool sa, .slice aa pa ca, .slice ba ra da] := hR.vals 2 (by decide) h5
      have hR2 := hid (hR.store8 (cs := #[.bool sa, .slice aa pa ca, .slice ba ra da]) HPR.out h12 h5 e0 hg hh (by rw [e1]; rfl) undef)
      simp only [putF]
      rw [hA, e0, e1]
      go_frame
      go_wp2_with (refine wpList_store_at rfl 35 (.tmp 4) (.tmp 13) rfl rfl rfl hh size35 rfl rfl rfl ?_)
      exact hK.out undef _ _ (by rw [hA]; simp only [putF]; rw [e0, e1]; kernel_rfl) hR2.out
    · intro K L us W hK0 hL hd hR
      have hK := hid hK0; clear hK0
      simp [Region.binds] at hd
      have h13 : L 7 = true := hd.1
      have h11 : L 5 = true := hd.2.1
      obtain ⟨g', e0, hg, hh⟩ := hR.b7 h13
      rw [hL, if_neg (by decide)] at hh
      have e1 : us 5 = .agg #[.bool sa, .slice aa pa ca, .slice ba ra da] := hR.vals 5 (by decide) h11
      have hR2 := hid (hR.store9 (cs := #[.bool sa, .slice aa pa ca, .slice ba ra da]) HPR.out h13 h11 e0 hg hh (by rw [e1]; rfl) undef)
      simp only [putF]
      rw [hA, e0, e1]
      go_frame
      go_wp2_with (refine wpList_store_at rfl 35 (.tmp 5) (.tmp 16) rfl rfl rfl hh size35 rfl rfl rfl ?_)
      exact hK.out undef _ _ (by rw [hA]; simp only [putF]; rw [e0, e1]; kernel_rfl) hR2.out
  case hend =>
    intro L us W hL hR
    subst hpse
    obtain ⟨g4, e4, hg4, hh4⟩ := hR.b6 (hL 6 (by decide))
    obtain ⟨g5, e5, hg5, hh5⟩ := hR.b7 (hL 7 (by decide))
    have hne : g4 ≠ g5 := fun h => hR.ne (hL 6 (by decide)) (hL 7 (by decide)) (by rw [e4, e5, h])
    rw [hL 8 (by decide), if_pos rfl] at hh4
    rw [hL 9 (by decide), if_pos rfl] at hh5
    have e1 : us 2 = .agg #[.bool sa, .slice aa pa ca, .slice ba ra da] := hR.vals 2 (by decide) (hL 2 (by decide))
    have e2 : us 5 = .agg #[.bool sa, .slice aa pa ca, .slice ba ra da] := hR.vals 5 (by decide) (hL 5 (by decide))
    rw [e1] at hh4
    rw [e2] at hh5
    have HBR := hid (HB0.out.trans (hR.grow.mono HB0.out.size))
    have FR1 := hid (heap_still hR.grow FR.out)
    have HST := hid (show ArLow q k C g g4 w W 0 ∧ ArHigh q k g5 W 0 from ⟨⟨⟨_, hh4, rfl, (HQA.out.grow HBR.out).cells3a⟩, heap_still hR.grow FC.out, fun j hj => (HQ.out j hj).grow HBR.out, FR1.out, HBR.out⟩, _, hh5, rfl, (HQA.out.grow HBR.out).cells3a⟩)
    have hszW := hR.grow.size
    have hlt4 : g4 < W.heap.size := (Array.getElem?_eq_some_iff.1 hh4).1
    have hlt5 : g5 < W.heap.size := (Array.getElem?_eq_some_iff.1 hh5).1
    simp only [putF, Nat.zero_add, Nat.reduceAdd]
    rw [hA, e4, e5]
    clear hh4 hh5 hR hL hA e4 e5 e1 e2
    go_frame
    go_wp2_with fail
    have hng4 : g ≠ g4 := by omega
    have hng5 : g ≠ g5 := by omega
    have hw4 : w.heap.size < g4 := by omega
    have hw5 : w.heap.size < g5 := by omega
    go_loopw [6] (fun i wr => ∃ m : Nat, 1 ≤ m ∧ m ≤ 4 ∧ i = .int .i64 m ∧ ArLow q k C g g4 w wr (m - 1) ∧ ArHigh q k g5 wr (m - 1)) (fun i _ => 4 - (intOf i).toNat)
    case atStart => exact ⟨1, by omega, by omega, rfl, HST.out⟩
    case round =>
      clear HST
      obtain ⟨m1, hm1, hm2, rfl, hl1, hh1⟩ := hrel
      have AL0 := hid hl1
      have AH0 := hid hh1
      clear hl1 hh1
      by_cases hm4 : m1 < 4
      · have hdm : decide ((m1 : Int) < 4) = true := by simp; omega
        obtain ⟨⟨C1, h1, h1s, h1q⟩, xc, xq, xr, xb⟩ := AL0.out
        have hszr := xb.size
        obtain ⟨s1, a1, p1, c1, b1, r1, d1, x0, x1, x2, hq1⟩ := h1q
        obtain ⟨si, ai, pi, ci, bi, ri, di, z0, z1, z2, hqi⟩ := xq m1 hm4
        have HX0 := hid x0
        have HX1 := hid x1
        have HX2 := hid x2
        have HQ1 := hid hq1
        have HI0 := hid z0
        have HI1 := hid z1
        have HI2 := hid z2
        have HQI := hid hqi
        have G4 := hid h1
        have GC := hid xc
        have HBR0 := hid xb
        have LOW := hid (show lowQ q m1 = if cmpQ (q m1) (lowQ q (m1 - 1)) < 0 then q m1 else lowQ q (m1 - 1) by obtain ⟨n, rfl⟩ : ∃ n, m1 = n + 1 := ⟨m1 - 1, by omega⟩; rfl)
        obtain ⟨lo, hlo⟩ : ∃ lo, lo = lowQ q (m1 - 1) := ⟨_, rfl⟩
        have HLO := hid hlo
        rw [← hlo] at HQ1 LOW
        have HCM := hid (fun W v v' h h' => HCMP.out (q m1) lo W v v' h h')
        clear h1 xc xq xr xb x0 x1 x2 hq1 z0 z1 z2 hqi hlo
        by_cases hc1 : cmpQ (q m1) lo < 0
        · have hd1 : decide (cmpQ (q m1) lo < 0) = true := by simp [hc1]
          rw [if_pos hc1] at LOW
          generalize cmpQ (q m1) lo = cv at *
          go_wp2_with fail
          refine gen_world (fun Wa hWa => ?_)
          have HBWa := hid (show Below w.heap.size w Wa by rw [hWa]; exact HBR0.out)
          have Y4 := hid (show Wa.heap[g4]? = some (.cells C1 35) by rw [hWa]; exact G4.out)
          have YC := hid (show Wa.heap[g]? = some (.cells C 35) by rw [hWa]; exact GC.out)
          have YQ1 := hid (show QAt Wa (.agg #[.bool s1, .slice a1 p1 c1, .slice b1 r1 d1]) lo k by rw [hWa]; exact HQ1.out)
          have YQI := hid (show QAt Wa (.agg #[.bool si, .slice ai pi ci, .slice bi ri di]) (q m1) k by rw [hWa]; exact HQI.out)
          have YL := hid (show ArLow q k C g g4 w Wa (m1 - 1) by rw [hWa]; exact AL0.out)
          have YH := hid (show ArHigh q k g5 Wa (m1 - 1) by rw [hWa]; exact AH0.out)
          clear hWa AL0 AH0
          refine gen_act (fun A0 hA => ?_)
          refine wp_region_pl (by kernel_rfl) (by kernel_rfl) [some 23, some 24, some 25, some 26, some 27, some 28, some 29] rfl (by decide)
            [IsV (.slice (some ⟨g, 0, none⟩) 4 cap), IsV (.int .i64 (m1 : Int)), IsV (.pointer (some ⟨g, m1 * 3, none⟩)), IsV (.agg #[.bool si, .slice ai pi ci, .slice bi ri di]), IsV (.agg #[.bool s1, .slice a1 p1 c1, .slice b1 r1 d1]), IsV (.int .i64 cv), IsV (.bool true)]
            ⟨IsV.stb _, IsV.stb _, IsV.stb _, IsV.stb _, IsV.stb _, IsV.stb _, IsV.stb _, trivial⟩ ?hs1_5_Wb ?hend_5_Wb
          case hs1_5_Wb =>
            refine ⟨?_, ?_, ?_, ?_, ?_, ?_, ?_, trivial⟩
            · intro K us W hK0 hB hd
              have hK := hid hK0; clear hK0
              have HBW := hid hB
              have hsW := hB.size
              have GB := hid (HBWa.out.trans (hB.mono HBWa.out.size))
              clear hd
              simp only [putF]
              rw [hA]
              go_frame
              go_wp2_with fail
              exact hK.out _ _ _ (by rw [hA]; simp only [putF]; kernel_rfl) (Below.refl _ _) rfl
            · intro K us W hK0 hB hd
              have hK := hid hK0; clear hK0
              have HBW := hid hB
              have hsW := hB.size
              have GB := hid (HBWa.out.trans (hB.mono HBWa.out.size))
              clear hd
              simp only [putF]
              rw [hA]
              go_frame
              go_wp2_with fail
              exact hK.out _ _ _ (by rw [hA]; simp only [putF]; kernel_rfl) (Below.refl _ _) rfl
            · intro K us W hK0 hB hd
              have hK := hid hK0; clear hK0
              have HBW := hid hB
              have hsW := hB.size
              have GB := hid (HBWa.out.trans (hB.mono HBWa.out.size))
              have e0 : us 0 = .slice (some ⟨g, 0, none⟩) 4 cap := hd ⟨0, Ground.data⟩ (by simp) rfl
              have e1 : us 1 = .int .i64 (m1 : Int) := hd ⟨1, Ground.data⟩ (by simp) rfl
              clear hd
              simp only [putF]
              rw [hA, e0, e1]
              go_frame
              go_wp2_with fail
              exact hK.out _ _ _ (by rw [hA]; simp only [putF]; rw [e0, e1]; kernel_rfl) (Below.refl _ _) rfl
            · intro K us W hK0 hB hd
              have hK := hid hK0; clear hK0
              have HBW := hid hB
              have hsW := hB.size
              have GB := hid (HBWa.out.trans (hB.mono HBWa.out.size))
              have e2 : us 2 = .pointer (some ⟨g, m1 * 3, none⟩) := hd ⟨2, Ground.data⟩ (by simp) rfl
              clear hd
              have c0 : W.cell? ⟨g, m1 * 3, none⟩ = some (.bool si) := (cell_row (heap_still hB YC.out)).trans HI0.out
              have c1 : W.cell? ⟨g, m1 * 3 + 1, none⟩ = some (.slice ai pi ci) := (cell_row (heap_still hB YC.out)).trans HI1.out
              have c2 : W.cell? ⟨g, m1 * 3 + 2, none⟩ = some (.slice bi ri di) := (cell_row (heap_still hB YC.out)).trans HI2.out
              simp only [putF]
              rw [hA, e2]
              go_frame
              go_wp2_with fail
              exact hK.out _ _ _ (by rw [hA]; simp only [putF]; rw [e2]; kernel_rfl) (Below.refl _ _) rfl
            · intro K us W hK0 hB hd
              have hK := hid hK0; clear hK0
              have HBW := hid hB
              have hsW := hB.size
              have GB := hid (HBWa.out.trans (hB.mono HBWa.out.size))
              clear hd
              have c0 : W.cell? ⟨g4, 0, none⟩ = some (.bool s1) := (cell_row (heap_still hB Y4.out)).trans HX0.out
              have c1 : W.cell? ⟨g4, 1, none⟩ = some (.slice a1 p1 c1) := (cell_row (heap_still hB Y4.out)).trans HX1.out
              have c2 : W.cell? ⟨g4, 2, none⟩ = some (.slice b1 r1 d1) := (cell_row (heap_still hB Y4.out)).trans HX2.out
              simp only [putF]
              rw [hA]
              go_frame
              go_wp2_with fail
              exact hK.out _ _ _ (by rw [hA]; simp only [putF]; kernel_rfl) (Below.refl _ _) rfl
            · intro K us W hK0 hB hd
              have hK := hid hK0; clear hK0
              have HBW := hid hB
              have hsW := hB.size
              have GB := hid (HBWa.out.trans (hB.mono HBWa.out.size))
              have e3 : us 3 = .agg #[.bool si, .slice ai pi ci, .slice bi ri di] := hd ⟨3, Ground.data⟩ (by simp) rfl
              have e4 : us 4 = .agg #[.bool s1, .slice a1 p1 c1, .slice b1 r1 d1] := hd ⟨4, Ground.data⟩ (by simp) rfl
              clear hd
              simp only [putF]
              rw [hA, e3, e4]
              go_frame
              go_wp2_with fail
              refine (HCM.out W _ _ (YQI.out.grow hB) (YQ1.out.grow hB)).mono ?_
              rintro r W' ⟨rfl, hb⟩
              go_wp2_with fail
              exact hK.out _ _ _ (by rw [hA]; simp only [putF]; rw [e3, e4]; kernel_rfl) hb rfl
            · intro K us W hK0 hB hd
              have hK := hid hK0; clear hK0
              have HBW := hid hB
              have hsW := hB.size
              have GB := hid (HBWa.out.trans (hB.mono HBWa.out.size))
              have e5 : us 5 = .int .i64 cv := hd ⟨5, Ground.data⟩ (by simp) rfl
              clear hd
              simp only [putF]
              rw [hA, e5]
              go_frame
              go_wp2_with fail
              exact hK.out _ _ _ (by rw [hA]; simp only [putF]; rw [e5]; kernel_rfl) (Below.refl _ _) rfl
          intro us Wb hB hp
          have e6 : us 6 = .bool true := hp 6 (by decide)
          have HBWb := hid (HBWa.out.trans (hB.mono HBWa.out.size))
          have HSWb := hid (fun n x => @heap_still _ _ n x hB)
          have hzWb := hB.size
          have hbWb := hid hB
          clear hp
          clear hB
          simp only [putF]
          rw [hA, e6]
          clear hA e6
          go_frame
          have Z4 := hid (HSWb.out _ _ Y4.out)
          have c0 : Wb.cell? ⟨g, m1 * 3, none⟩ = some (.bool si) := (cell_row (HSWb.out _ _ YC.out)).trans HI0.out
          have c1 : Wb.cell? ⟨g, m1 * 3 + 1, none⟩ = some (.slice ai pi ci) := (cell_row (HSWb.out _ _ YC.out)).trans HI1.out
          have c2 : Wb.cell? ⟨g, m1 * 3 + 2, none⟩ = some (.slice bi ri di) := (cell_row (HSWb.out _ _ YC.out)).trans HI2.out
          have hqn := hid (by have h := YQI.out.grow hbWb.out; rw [← LOW.out] at h; exact h : QAt Wb (.agg #[.bool si, .slice ai pi ci, .slice bi ri di]) (lowQ q m1) k)
          have hszb := HBWb.out.size
          go_wp2_with (refine wpList_store_at rfl 35 (.tmp 4) (.tmp 33) rfl rfl rfl Z4.out size35 rfl h1s rfl ?_)
          refine gen_world (fun Wc hWc => ?_)
          have ALWc := hid (show ArLow q k C g g4 w Wc m1 by rw [hWc]; exact (YL.out.grow hbWb.out).low Z4.out hng4 hw4 rfl hqn.out)
          have AHWc := hid (show ArHigh q k g5 Wc (m1 - 1) by rw [hWc]; exact (YH.out.grow hbWb.out).set Z4.out (Ne.symm hne))
          have HBWc := hid (show Below w.heap.size w Wc by rw [hWc]; exact below_setRow HBWb.out (by omega) _)
          clear hWc c0 c1 c2 HX0 HX1 HX2 HQ1 HI0 HI1 HI2 HQI G4 GC YL YH Y4 YC YQ1 YQI Z4 hqn
          obtain ⟨C2, h2, h2s, h2q⟩ := AHWc.out
          obtain ⟨_, xc, xq, _, _⟩ := ALWc.out
          obtain ⟨s2, a2, p2, c2, b2, r2, d2, x3, x4, x5, hq2⟩ := h2q
          obtain ⟨si, ai, pi, ci, bi, ri, di, z0, z1, z2, hqi⟩ := xq m1 hm4
          have HX3 := hid x3
          have HX4 := hid x4
          have HX5 := hid x5
          have HQ2 := hid hq2
          have HI0 := hid z0
          have HI1 := hid z1
          have HI2 := hid z2
          have HQI := hid hqi
          have G5 := hid h2
          have GC := hid xc
          have HIGH := hid (show highQ q m1 = if 0 < cmpQ (q m1) (highQ q (m1 - 1)) then q m1 else highQ q (m1 - 1) by obtain ⟨n, rfl⟩ : ∃ n, m1 = n + 1 := ⟨m1 - 1, by omega⟩; rfl)
          generalize highQ q (m1 - 1) = hi at *
          clear h2 x3 x4 x5 hq2 z0 z1 z2 hqi xc xq
          by_cases hc2 : 0 < cmpQ (q m1) hi
          · have hd2 : decide (0 < cmpQ (q m1) hi) = true := by simp [hc2]
            rw [if_pos hc2] at HIGH
            have HCM := hid (fun W v v' h h' => HCMP.out (q m1) hi W v v' h h')
            generalize cmpQ (q m1) hi = cv at *
            go_wp2_with fail
            refine gen_world (fun Wda hWy => ?_)
            have HBWda := hid (show Below w.heap.size w Wda by rw [hWy]; exact HBWc.out)
            have Y5 := hid (show Wda.heap[g5]? = some (.cells C2 35) by rw [hWy]; exact G5.out)
            have YC := hid (show Wda.heap[g]? = some (.cells C 35) by rw [hWy]; exact GC.out)
            have YQ2 := hid (show QAt Wda (.agg #[.bool s2, .slice a2 p2 c2, .slice b2 r2 d2]) hi k by rw [hWy]; exact HQ2.out)
            have YQI := hid (show QAt Wda (.agg #[.bool si, .slice ai pi ci, .slice bi ri di]) (q m1) k by rw [hWy]; exact HQI.out)
            have YR := hid (show ArLow q k C g g4 w Wda m1 by rw [hWy]; exact ALWc.out)
            clear hWy
            refine gen_act (fun A0 hA => ?_)
            refine wp_region_pl (by kernel_rfl) (by kernel_rfl) [some 34, some 35, some 36, some 37, some 38, some 39, some 40] rfl (by decide)
              [IsV (.slice (some ⟨g, 0, none⟩) 4 cap), IsV (.int .i64 (m1 : Int)), IsV (.pointer (some ⟨g, m1 * 3, none⟩)), IsV (.agg #[.bool si, .slice ai pi ci, .slice bi ri di]), IsV (.agg #[.bool s2, .slice a2 p2 c2, .slice b2 r2 d2]), IsV (.int .i64 cv), IsV (.bool true)]
              ⟨IsV.stb _, IsV.stb _, IsV.stb _, IsV.stb _, IsV.stb _, IsV.stb _, IsV.stb _, trivial⟩ ?hs1_7_Wd ?hend_7_Wd
            case hs1_7_Wd =>
              refine ⟨?_, ?_, ?_, ?_, ?_, ?_, ?_, trivial⟩
              · intro K us W hK0 hB hd
                have hK := hid hK0; clear hK0
                have HBW := hid hB
                have hsW := hB.size
                have GB := hid (HBWda.out.trans (hB.mono HBWda.out.size))
                clear hd
                simp only [putF]
                rw [hA]
                go_frame
                go_wp2_with fail
                exact hK.out _ _ _ (by rw [hA]; simp only [putF]; kernel_rfl) (Below.refl _ _) rfl
              · intro K us W hK0 hB hd
                have hK := hid hK0; clear hK0
                have HBW := hid hB
                have hsW := hB.size
                have GB := hid (HBWda.out.trans (hB.mono HBWda.out.size))
                clear hd
                simp only [putF]
                rw [hA]
                go_frame
                go_wp2_with fail
                exact hK.out _ _ _ (by rw [hA]; simp only [putF]; kernel_rfl) (Below.refl _ _) rfl
              · intro K us W hK0 hB hd
                have hK := hid hK0; clear hK0
                have HBW := hid hB
                have hsW := hB.size
                have GB := hid (HBWda.out.trans (hB.mono HBWda.out.size))
                have e0 : us 0 = .slice (some ⟨g, 0, none⟩) 4 cap := hd ⟨0, Ground.data⟩ (by simp) rfl
                have e1 : us 1 = .int .i64 (m1 : Int) := hd ⟨1, Ground.data⟩ (by simp) rfl
                clear hd
                simp only [putF]
                rw [hA, e0, e1]
                go_frame
                go_wp2_with fail
                exact hK.out _ _ _ (by rw [hA]; simp only [putF]; rw [e0, e1]; kernel_rfl) (Below.refl _ _) rfl
              · intro K us W hK0 hB hd
                have hK := hid hK0; clear hK0
                have HBW := hid hB
                have hsW := hB.size
                have GB := hid (HBWda.out.trans (hB.mono HBWda.out.size))
                have e2 : us 2 = .pointer (some ⟨g, m1 * 3, none⟩) := hd ⟨2, Ground.data⟩ (by simp) rfl
                clear hd
                have c0 : W.cell? ⟨g, m1 * 3, none⟩ = some (.bool si) := (cell_row (heap_still hB YC.out)).trans HI0.out
                have c1 : W.cell? ⟨g, m1 * 3 + 1, none⟩ = some (.slice ai pi ci) := (cell_row (heap_still hB YC.out)).trans HI1.out
                have c2 : W.cell? ⟨g, m1 * 3 + 2, none⟩ = some (.slice bi ri di) := (cell_row (heap_still hB YC.out)).trans HI2.out
                simp only [putF]
                rw [hA, e2]
                go_frame
                go_wp2_with fail
                exact hK.out _ _ _ (by rw [hA]; simp only [putF]; rw [e2]; kernel_rfl) (Below.refl _ _) rfl
              · intro K us W hK0 hB hd
                have hK := hid hK0; clear hK0
                have HBW := hid hB
                have hsW := hB.size
                have GB := hid (HBWda.out.trans (hB.mono HBWda.out.size))
                clear hd
                have c0 : W.cell? ⟨g5, 0, none⟩ = some (.bool s2) := (cell_row (heap_still hB Y5.out)).trans HX3.out
                have c1 : W.cell? ⟨g5, 1, none⟩ = some (.slice a2 p2 c2) := (cell_row (heap_still hB Y5.out)).trans HX4.out
                have c2 : W.cell? ⟨g5, 2, none⟩ = some (.slice b2 r2 d2) := (cell_row (heap_still hB Y5.out)).trans HX5.out
                simp only [putF]
                rw [hA]
                go_frame
                go_wp2_with fail
                exact hK.out _ _ _ (by rw [hA]; simp only [putF]; kernel_rfl) (Below.refl _ _) rfl
              · intro K us W hK0 hB hd
                have hK := hid hK0; clear hK0
                have HBW := hid hB
                have hsW := hB.size
                have GB := hid (HBWda.out.trans (hB.mono HBWda.out.size))
                have e3 : us 3 = .agg #[.bool si, .slice ai pi ci, .slice bi ri di] := hd ⟨3, Ground.data⟩ (by simp) rfl
                have e4 : us 4 = .agg #[.bool s2, .slice a2 p2 c2, .slice b2 r2 d2] := hd ⟨4, Ground.data⟩ (by simp) rfl
                clear hd
                simp only [putF]
                rw [hA, e3, e4]
                go_frame
                go_wp2_with fail
                refine (HCM.out W _ _ (YQI.out.grow hB) (YQ2.out.grow hB)).mono ?_
                rintro r W' ⟨rfl, hb⟩
                go_wp2_with fail
                exact hK.out _ _ _ (by rw [hA]; simp only [putF]; rw [e3, e4]; kernel_rfl) hb rfl
              · intro K us W hK0 hB hd
                have hK := hid hK0; clear hK0
                have HBW := hid hB
                have hsW := hB.size
                have GB := hid (HBWda.out.trans (hB.mono HBWda.out.size))
                have e5 : us 5 = .int .i64 cv := hd ⟨5, Ground.data⟩ (by simp) rfl
                clear hd
                simp only [putF]
                rw [hA, e5]
                go_frame
                go_wp2_with fail
                exact hK.out _ _ _ (by rw [hA]; simp only [putF]; rw [e5]; kernel_rfl) (Below.refl _ _) rfl
            intro us Wd hB hp
            have e6 : us 6 = .bool true := hp 6 (by decide)
            have HBWd := hid (HBWda.out.trans (hB.mono HBWda.out.size))
            have HSWd := hid (fun n x => @heap_still _ _ n x hB)
            have hzWd := hB.size
            have hbWd := hid hB
            clear hp
            clear hB
            simp only [putF]
            rw [hA, e6]
            clear hA e6
            go_frame
            have Z5 := hid (HSWd.out _ _ Y5.out)
            have c0 : Wd.cell? ⟨g, m1 * 3, none⟩ = some (.bool si) := (cell_row (HSWd.out _ _ YC.out)).trans HI0.out
            have c1 : Wd.cell? ⟨g, m1 * 3 + 1, none⟩ = some (.slice ai pi ci) := (cell_row (HSWd.out _ _ YC.out)).trans HI1.out
            have c2 : Wd.cell? ⟨g, m1 * 3 + 2, none⟩ = some (.slice bi ri di) := (cell_row (HSWd.out _ _ YC.out)).trans HI2.out
            go_wp2_with (refine wpList_store_at rfl 35 (.tmp 5) (.tmp 44) rfl rfl rfl Z5.out size35 rfl h2s rfl ?_)
            refine ⟨⟨m1 + 1, by omega, by omega, by go_num, ?_⟩, by simp [intOf]; omega⟩
            rw [Nat.add_sub_cancel]
            have hqn := YQI.out.grow hbWd.out
            rw [← HIGH.out] at hqn
            exact ⟨(YR.out.grow hbWd.out).set Z5.out hne hng5 hw5, _, setRow_heap _ _ _ _ _ _ Z5.out, rfl, (hqn.row Z5.out (by decide)).cells3a⟩
          · have hd2 : decide (0 < cmpQ (q m1) hi) = false := by simp [hc2]
            rw [if_neg hc2] at HIGH
            have HCM := hid (fun W v v' h h' => HCMP.out (q m1) hi W v v' h h')
            generalize cmpQ (q m1) hi = cv at *
            go_wp2_with fail
            refine gen_world (fun Wdb hWy => ?_)
            have HBWdb := hid (show Below w.heap.size w Wdb by rw [hWy]; exact HBWc.out)
            have Y5 := hid (show Wdb.heap[g5]? = some (.cells C2 35) by rw [hWy]; exact G5.out)
            have YC := hid (show Wdb.heap[g]? = some (.cells C 35) by rw [hWy]; exact GC.out)
            have YQ2 := hid (show QAt Wdb (.agg #[.bool s2, .slice a2 p2 c2, .slice b2 r2 d2]) hi k by rw [hWy]; exact HQ2.out)
            have YQI := hid (show QAt Wdb (.agg #[.bool si, .slice ai pi ci, .slice bi ri di]) (q m1) k by rw [hWy]; exact HQI.out)
            have YR := hid (show ArLow q k C g g4 w Wdb m1 by rw [hWy]; exact ALWc.out)
            clear hWy
            refine gen_act (fun A0 hA => ?_)
            refine wp_region_pl (by kernel_rfl) (by kernel_rfl) [some 34, some 35, some 36, some 37, some 38, some 39, some 40] rfl (by decide)
              [IsV (.slice (some ⟨g, 0, none⟩) 4 cap), IsV (.int .i64 (m1 : Int)), IsV (.pointer (some ⟨g, m1 * 3, none⟩)), IsV (.agg #[.bool si, .slice ai pi ci, .slice bi ri di]), IsV (.agg #[.bool s2, .slice a2 p2 c2, .slice b2 r2 d2]), IsV (.int .i64 cv), IsV (.bool false)]
              ⟨IsV.stb _, IsV.stb _, IsV.stb _, IsV.stb _, IsV.stb _, IsV.stb _, IsV.stb _, trivial⟩ ?hs1_7_Wdn ?hend_7_Wdn
            case hs1_7_Wdn =>
              refine ⟨?_, ?_, ?_, ?_, ?_, ?_, ?_, trivial⟩
              · intro K us W hK0 hB hd
                have hK := hid hK0; clear hK0
                have HBW := hid hB
                have hsW := hB.size
                have GB := hid (HBWdb.out.trans (hB.mono HBWdb.out.size))
                clear hd
                simp only [putF]
                rw [hA]
                go_frame
                go_wp2_with fail
                exact hK.out _ _ _ (by rw [hA]; simp only [putF]; kernel_rfl) (Below.refl _ _) rfl
              · intro K us W hK0 hB hd
                have hK := hid hK0; clear hK0
                have HBW := hid hB
                have hsW := hB.size
                have GB := hid (HBWdb.out.trans (hB.mono HBWdb.out.size))
                clear hd
                simp only [putF]
                rw [hA]
                go_frame
                go_wp2_with fail
                exact hK.out _ _ _ (by rw [hA]; simp only [putF]; kernel_rfl) (Below.refl _ _) rfl
              · intro K us W hK0 hB hd
                have hK := hid hK0; clear hK0
                have HBW := hid hB
                have hsW := hB.size
                have GB := hid (HBWdb.out.trans (hB.mono HBWdb.out.size))
                have e0 : us 0 = .slice (some ⟨g, 0, none⟩) 4 cap := hd ⟨0, Ground.data⟩ (by simp) rfl
                have e1 : us 1 = .int .i64 (m1 : Int) := hd ⟨1, Ground.data⟩ (by simp) rfl
                clear hd
                simp only [putF]
                rw [hA, e0, e1]
                go_frame
                go_wp2_with fail
                exact hK.out _ _ _ (by rw [hA]; simp only [putF]; rw [e0, e1]; kernel_rfl) (Below.refl _ _) rfl
              · intro K us W hK0 hB hd
                have hK := hid hK0; clear hK0
                have HBW := hid hB
                have hsW := hB.size
                have GB := hid (HBWdb.out.trans (hB.mono HBWdb.out.size))
                have e2 : us 2 = .pointer (some ⟨g, m1 * 3, none⟩) := hd ⟨2, Ground.data⟩ (by simp) rfl
                clear hd
                have c0 : W.cell? ⟨g, m1 * 3, none⟩ = some (.bool si) := (cell_row (heap_still hB YC.out)).trans HI0.out
                have c1 : W.cell? ⟨g, m1 * 3 + 1, none⟩ = some (.slice ai pi ci) := (cell_row (heap_still hB YC.out)).trans HI1.out
                have c2 : W.cell? ⟨g, m1 * 3 + 2, none⟩ = some (.slice bi ri di) := (cell_row (heap_still hB YC.out)).trans HI2.out
                simp only [putF]
                rw [hA, e2]
                go_frame
                go_wp2_with fail
                exact hK.out _ _ _ (by rw [hA]; simp only [putF]; rw [e2]; kernel_rfl) (Below.refl _ _) rfl
              · intro K us W hK0 hB hd
                have hK := hid hK0; clear hK0
                have HBW := hid hB
                have hsW := hB.size
                have GB := hid (HBWdb.out.trans (hB.mono HBWdb.out.size))
                clear hd
                have c0 : W.cell? ⟨g5, 0, none⟩ = some (.bool s2) := (cell_row (heap_still hB Y5.out)).trans HX3.out
                have c1 : W.cell? ⟨g5, 1, none⟩ = some (.slice a2 p2 c2) := (cell_row (heap_still hB Y5.out)).trans HX4.out
                have c2 : W.cell? ⟨g5, 2, none⟩ = some (.slice b2 r2 d2) := (cell_row (heap_still hB Y5.out)).trans HX5.out
                simp only [putF]
                rw [hA]
                go_frame
                go_wp2_with fail
                exact hK.out _ _ _ (by rw [hA]; simp only [putF]; kernel_rfl) (Below.refl _ _) rfl
              · intro K us W hK0 hB hd
                have hK := hid hK0; clear hK0
                have HBW := hid hB
                have hsW := hB.size
                have GB := hid (HBWdb.out.trans (hB.mono HBWdb.out.size))
                have e3 : us 3 = .agg #[.bool si, .slice ai pi ci, .slice bi ri di] := hd ⟨3, Ground.data⟩ (by simp) rfl
                have e4 : us 4 = .agg #[.bool s2, .slice a2 p2 c2, .slice b2 r2 d2] := hd ⟨4, Ground.data⟩ (by simp) rfl
                clear hd
                simp only [putF]
                rw [hA, e3, e4]
                go_frame
                go_wp2_with fail
                refine (HCM.out W _ _ (YQI.out.grow hB) (YQ2.out.grow hB)).mono ?_
                rintro r W' ⟨rfl, hb⟩
                go_wp2_with fail
                exact hK.out _ _ _ (by rw [hA]; simp only [putF]; rw [e3, e4]; kernel_rfl) hb rfl
              · intro K us W hK0 hB hd
                have hK := hid hK0; clear hK0
                have HBW := hid hB
                have hsW := hB.size
                have GB := hid (HBWdb.out.trans (hB.mono HBWdb.out.size))
                have e5 : us 5 = .int .i64 cv := hd ⟨5, Ground.data⟩ (by simp) rfl
                clear hd
                simp only [putF]
                rw [hA, e5]
                go_frame
                go_wp2_with fail
                exact hK.out _ _ _ (by rw [hA]; simp only [putF]; rw [e5]; kernel_rfl) (Below.refl _ _) rfl
            intro us Wdn hB hp
            have e6 : us 6 = .bool false := hp 6 (by decide)
            have HBWdn := hid (HBWdb.out.trans (hB.mono HBWdb.out.size))
            have HSWdn := hid (fun n x => @heap_still _ _ n x hB)
            have hzWdn := hB.size
            have hbWdn := hid hB
            clear hp
            clear hB
            simp only [putF]
            rw [hA, e6]
            clear hA e6
            go_frame
            go_wp2_with fail
            refine ⟨⟨m1 + 1, by omega, by omega, by go_num, ?_⟩, by simp [intOf]; omega⟩
            rw [Nat.add_sub_cancel]
            exact ⟨YR.out.grow hbWdn.out, C2, HSWdn.out _ _ Y5.out, h2s, ⟨s2, a2, p2, c2, b2, r2, d2, HX3.out, HX4.out, HX5.out, by rw [HIGH.out]; exact YQ2.out.grow hbWdn.out⟩⟩
        · have hd1 : decide (cmpQ (q m1) lo < 0) = false := by simp [hc1]
          rw [if_neg hc1] at LOW
          generalize cmpQ (q m1) lo = cv at *
          go_wp2_with fail
          refine gen_world (fun Wa hWa => ?_)
          have HBWa := hid (show Below w.heap.size w Wa by rw [hWa]; exact HBR0.out)
          have Y4 := hid (show Wa.heap[g4]? = some (.cells C1 35) by rw [hWa]; exact G4.out)
          have YC := hid (show Wa.heap[g]? = some (.cells C 35) by rw [hWa]; exact GC.out)
          have YQ1 := hid (show QAt Wa (.agg #[.bool s1, .slice a1 p1 c1, .slice b1 r1 d1]) lo k by rw [hWa]; exact HQ1.out)
          have YQI := hid (show QAt Wa (.agg #[.bool si, .slice ai pi ci, .slice bi ri di]) (q m1) k by rw [hWa]; exact HQI.out)
          have YL := hid (show ArLow q k C g g4 w Wa (m1 - 1) by rw [hWa]; exact AL0.out)
          have YH := hid (show ArHigh q k g5 Wa (m1 - 1) by rw [hWa]; exact AH0.out)
          clear hWa AL0 AH0
          refine gen_act (fun A0 hA => ?_)
          refine wp_region_pl (by kernel_rfl) (by kernel_rfl) [some 23, some 24, some 25, some 26, some 27, some 28, some 29] rfl (by decide)
            [IsV (.slice (some ⟨g, 0, none⟩) 4 cap), IsV (.int .i64 (m1 : Int)), IsV (.pointer (some ⟨g, m1 * 3, none⟩)), IsV (.agg #[.bool si, .slice ai pi ci, .slice bi ri di]), IsV (.agg #[.bool s1, .slice a1 p1 c1, .slice b1 r1 d1]), IsV (.int .i64 cv), IsV (.bool false)]
            ⟨IsV.stb _, IsV.stb _, IsV.stb _, IsV.stb _, IsV.stb _, IsV.stb _, IsV.stb _, trivial⟩ ?hs1_5_We ?hend_5_We
          case hs1_5_We =>
            refine ⟨?_, ?_, ?_, ?_, ?_, ?_, ?_, trivial⟩
            · intro K us W hK0 hB hd
              have hK := hid hK0; clear hK0
              have HBW := hid hB
              have hsW := hB.size
              have GB := hid (HBWa.out.trans (hB.mono HBWa.out.size))
              clear hd
              simp only [putF]
              rw [hA]
              go_frame
              go_wp2_with fail
              exact hK.out _ _ _ (by rw [hA]; simp only [putF]; kernel_rfl) (Below.refl _ _) rfl
            · intro K us W hK0 hB hd
              have hK := hid hK0; clear hK0
              have HBW := hid hB
              have hsW := hB.size
              have GB := hid (HBWa.out.trans (hB.mono HBWa.out.size))
              clear hd
              simp only [putF]
              rw [hA]
              go_frame
              go_wp2_with fail
              exact hK.out _ _ _ (by rw [hA]; simp only [putF]; kernel_rfl) (Below.refl _ _) rfl
            · intro K us W hK0 hB hd
              have hK := hid hK0; clear hK0
              have HBW := hid hB
              have hsW := hB.size
              have GB := hid (HBWa.out.trans (hB.mono HBWa.out.size))
              have e0 : us 0 = .slice (some ⟨g, 0, none⟩) 4 cap := hd ⟨0, Ground.data⟩ (by simp) rfl
              have e1 : us 1 = .int .i64 (m1 : Int) := hd ⟨1, Ground.data⟩ (by simp) rfl
              clear hd
              simp only [putF]
              rw [hA, e0, e1]
              go_frame
              go_wp2_with fail
              exact hK.out _ _ _ (by rw [hA]; simp only [putF]; rw [e0, e1]; kernel_rfl) (Below.refl _ _) rfl
            · intro K us W hK0 hB hd
              have hK := hid hK0; clear hK0
              have HBW := hid hB
              have hsW := hB.size
              have GB := hid (HBWa.out.trans (hB.mono HBWa.out.size))
              have e2 : us 2 = .pointer (some ⟨g, m1 * 3, none⟩) := hd ⟨2, Ground.data⟩ (by simp) rfl
              clear hd
              have c0 : W.cell? ⟨g, m1 * 3, none⟩ = some (.bool si) := (cell_row (heap_still hB YC.out)).trans HI0.out
              have c1 : W.cell? ⟨g, m1 * 3 + 1, none⟩ = some (.slice ai pi ci) := (cell_row (heap_still hB YC.out)).trans HI1.out
              have c2 : W.cell? ⟨g, m1 * 3 + 2, none⟩ = some (.slice bi ri di) := (cell_row (heap_still hB YC.out)).trans HI2.out
              simp only [putF]
              rw [hA, e2]
              go_frame
              go_wp2_with fail
              exact hK.out _ _ _ (by rw [hA]; simp only [putF]; rw [e2]; kernel_rfl) (Below.refl _ _) rfl
            · intro K us W hK0 hB hd
              have hK := hid hK0; clear hK0
              have HBW := hid hB
              have hsW := hB.size
              have GB := hid (HBWa.out.trans (hB.mono HBWa.out.size))
              clear hd
              have c0 : W.cell? ⟨g4, 0, none⟩ = some (.bool s1) := (cell_row (heap_still hB Y4.out)).trans HX0.out
              have c1 : W.cell? ⟨g4, 1, none⟩ = some (.slice a1 p1 c1) := (cell_row (heap_still hB Y4.out)).trans HX1.out
              have c2 : W.cell? ⟨g4, 2, none⟩ = some (.slice b1 r1 d1) := (cell_row (heap_still hB Y4.out)).trans HX2.out
              simp only [putF]
              rw [hA]
              go_frame
              go_wp2_with fail
              exact hK.out _ _ _ (by rw [hA]; simp only [putF]; kernel_rfl) (Below.refl _ _) rfl
            · intro K us W hK0 hB hd
              have hK := hid hK0; clear hK0
              have HBW := hid hB
              have hsW := hB.size
              have GB := hid (HBWa.out.trans (hB.mono HBWa.out.size))
              have e3 : us 3 = .agg #[.bool si, .slice ai pi ci, .slice bi ri di] := hd ⟨3, Ground.data⟩ (by simp) rfl
              have e4 : us 4 = .agg #[.bool s1, .slice a1 p1 c1, .slice b1 r1 d1] := hd ⟨4, Ground.data⟩ (by simp) rfl
              clear hd
              simp only [putF]
              rw [hA, e3, e4]
              go_frame
              go_wp2_with fail
              refine (HCM.out W _ _ (YQI.out.grow hB) (YQ1.out.grow hB)).mono ?_
              rintro r W' ⟨rfl, hb⟩
              go_wp2_with fail
              exact hK.out _ _ _ (by rw [hA]; simp only [putF]; rw [e3, e4]; kernel_rfl) hb rfl
            · intro K us W hK0 hB hd
              have hK := hid hK0; clear hK0
              have HBW := hid hB
              have hsW := hB.size
              have GB := hid (HBWa.out.trans (hB.mono HBWa.out.size))
              have e5 : us 5 = .int .i64 cv := hd ⟨5, Ground.data⟩ (by simp) rfl
              clear hd
              simp only [putF]
              rw [hA, e5]
              go_frame
              go_wp2_with fail
              exact hK.out _ _ _ (by rw [hA]; simp only [putF]; rw [e5]; kernel_rfl) (Below.refl _ _) rfl
          intro us We hB hp
          have e6 : us 6 = .bool false := hp 6 (by decide)
          have HBWe := hid (HBWa.out.trans (hB.mono HBWa.out.size))
          have HSWe := hid (fun n x => @heap_still _ _ n x hB)
          have hzWe := hB.size
          have hbWe := hid hB
          clear hp
          clear hB
          simp only [putF]
          rw [hA, e6]
          clear hA e6
          go_frame
          go_wp2_with fail
          refine gen_world (fun Wf hWf => ?_)
          have ALWf := hid (show ArLow q k C g g4 w Wf m1 by rw [hWf]; exact (YL.out.grow hbWe.out).same (by rw [LOW.out, HLO.out]))
          have AHWf := hid (show ArHigh q k g5 Wf (m1 - 1) by rw [hWf]; exact YH.out.grow hbWe.out)
          have HBWf := hid (show Below w.heap.size w Wf by rw [hWf]; exact HBWe.out)
          clear hWf HX0 HX1 HX2 HQ1 HI0 HI1 HI2 HQI G4 GC YL YH Y4 YC YQ1 YQI
          obtain ⟨C2, h2, h2s, h2q⟩ := AHWf.out
          obtain ⟨_, xc, xq, _, _⟩ := ALWf.out
          obtain ⟨s2, a2, p2, c2, b2, r2, d2, x3, x4, x5, hq2⟩ := h2q
          obtain ⟨si, ai, pi, ci, bi, ri, di, z0, z1, z2, hqi⟩ := xq m1 hm4
          have HX3 := hid x3
          have HX4 := hid x4
          have HX5 := hid x5
          have HQ2 := hid hq2
          have HI0 := hid z0
          have HI1 := hid z1
          have HI2 := hid z2
          have HQI := hid hqi
          have G5 := hid h2
          have GC := hid xc
          have HIGH := hid (show highQ q m1 = if 0 < cmpQ (q m1) (highQ q (m1 - 1)) then q m1 else highQ q (m1 - 1) by obtain ⟨n, rfl⟩ : ∃ n, m1 = n + 1 := ⟨m1 - 1, by omega⟩; rfl)
          generalize highQ q (m1 - 1) = hi at *
          clear h2 x3 x4 x5 hq2 z0 z1 z2 hqi xc xq
          by_cases hc2 : 0 < cmpQ (q m1) hi
          · have hd2 : decide (0 < cmpQ (q m1) hi) = true := by simp [hc2]
            rw [if_pos hc2] at HIGH
            have HCM := hid (fun W v v' h h' => HCMP.out (q m1) hi W v v' h h')
            generalize cmpQ (q m1) hi = cv at *
            go_wp2_with fail
            refine gen_world (fun Wga hWy => ?_)
            have HBWga := hid (show Below w.heap.size w Wga by rw [hWy]; exact HBWf.out)
            have Y5 := hid (show Wga.heap[g5]? = some (.cells C2 35) by rw [hWy]; exact G5.out)
            have YC := hid (show Wga.heap[g]? = some (.cells C 35) by rw [hWy]; exact GC.out)
            have YQ2 := hid (show QAt Wga (.agg #[.bool s2, .slice a2 p2 c2, .slice b2 r2 d2]) hi k by rw [hWy]; exact HQ2.out)
            have YQI := hid (show QAt Wga (.agg #[.bool si, .slice ai pi ci, .slice bi ri di]) (q m1) k by rw [hWy]; exact HQI.out)
            have YR := hid (show ArLow q k C g g4 w Wga m1 by rw [hWy]; exact ALWf.out)
            clear hWy
            refine gen_act (fun A0 hA => ?_)
            refine wp_region_pl (by kernel_rfl) (by kernel_rfl) [some 34, some 35, some 36, some 37, some 38, some 39, some 40] rfl (by decide)
              [IsV (.slice (some ⟨g, 0, none⟩) 4 cap), IsV (.int .i64 (m1 : Int)), IsV (.pointer (some ⟨g, m1 * 3, none⟩)), IsV (.agg #[.bool si, .slice ai pi ci, .slice bi ri di]), IsV (.agg #[.bool s2, .slice a2 p2 c2, .slice b2 r2 d2]), IsV (.int .i64 cv), IsV (.bool true)]
              ⟨IsV.stb _, IsV.stb _, IsV.stb _, IsV.stb _, IsV.stb _, IsV.stb _, IsV.stb _, trivial⟩ ?hs1_7_Wg ?hend_7_Wg
            case hs1_7_Wg =>
              refine ⟨?_, ?_, ?_, ?_, ?_, ?_, ?_, trivial⟩
              · intro K us W hK0 hB hd
                have hK := hid hK0; clear hK0
                have HBW := hid hB
                have hsW := hB.size
                have GB := hid (HBWga.out.trans (hB.mono HBWga.out.size))
                clear hd
                simp only [putF]
                rw [hA]
                go_frame
                go_wp2_with fail
                exact hK.out _ _ _ (by rw [hA]; simp only [putF]; kernel_rfl) (Below.refl _ _) rfl
              · intro K us W hK0 hB hd
                have hK := hid hK0; clear hK0
                have HBW := hid hB
                have hsW := hB.size
                have GB := hid (HBWga.out.trans (hB.mono HBWga.out.size))
                clear hd
                simp only [putF]
                rw [hA]
                go_frame
                go_wp2_with fail
                exact hK.out _ _ _ (by rw [hA]; simp only [putF]; kernel_rfl) (Below.refl _ _) rfl
              · intro K us W hK0 hB hd
                have hK := hid hK0; clear hK0
                have HBW := hid hB
                have hsW := hB.size
                have GB := hid (HBWga.out.trans (hB.mono HBWga.out.size))
                have e0 : us 0 = .slice (some ⟨g, 0, none⟩) 4 cap := hd ⟨0, Ground.data⟩ (by simp) rfl
                have e1 : us 1 = .int .i64 (m1 : Int) := hd ⟨1, Ground.data⟩ (by simp) rfl
                clear hd
                simp only [putF]
                rw [hA, e0, e1]
                go_frame
                go_wp2_with fail
                exact hK.out _ _ _ (by rw [hA]; simp only [putF]; rw [e0, e1]; kernel_rfl) (Below.refl _ _) rfl
              · intro K us W hK0 hB hd
                have hK := hid hK0; clear hK0
                have HBW := hid hB
                have hsW := hB.size
                have GB := hid (HBWga.out.trans (hB.mono HBWga.out.size))
                have e2 : us 2 = .pointer (some ⟨g, m1 * 3, none⟩) := hd ⟨2, Ground.data⟩ (by simp) rfl
                clear hd
                have c0 : W.cell? ⟨g, m1 * 3, none⟩ = some (.bool si) := (cell_row (heap_still hB YC.out)).trans HI0.out
                have c1 : W.cell? ⟨g, m1 * 3 + 1, none⟩ = some (.slice ai pi ci) := (cell_row (heap_still hB YC.out)).trans HI1.out
                have c2 : W.cell? ⟨g, m1 * 3 + 2, none⟩ = some (.slice bi ri di) := (cell_row (heap_still hB YC.out)).trans HI2.out
                simp only [putF]
                rw [hA, e2]
                go_frame
                go_wp2_with fail
                exact hK.out _ _ _ (by rw [hA]; simp only [putF]; rw [e2]; kernel_rfl) (Below.refl _ _) rfl
              · intro K us W hK0 hB hd
                have hK := hid hK0; clear hK0
                have HBW := hid hB
                have hsW := hB.size
                have GB := hid (HBWga.out.trans (hB.mono HBWga.out.size))
                clear hd
                have c0 : W.cell? ⟨g5, 0, none⟩ = some (.bool s2) := (cell_row (heap_still hB Y5.out)).trans HX3.out
                have c1 : W.cell? ⟨g5, 1, none⟩ = some (.slice a2 p2 c2) := (cell_row (heap_still hB Y5.out)).trans HX4.out
                have c2 : W.cell? ⟨g5, 2, none⟩ = some (.slice b2 r2 d2) := (cell_row (heap_still hB Y5.out)).trans HX5.out
                simp only [putF]
                rw [hA]
                go_frame
                go_wp2_with fail
                exact hK.out _ _ _ (by rw [hA]; simp only [putF]; kernel_rfl) (Below.refl _ _) rfl
              · intro K us W hK0 hB hd
                have hK := hid hK0; clear hK0
                have HBW := hid hB
                have hsW := hB.size
                have GB := hid (HBWga.out.trans (hB.mono HBWga.out.size))
                have e3 : us 3 = .agg #[.bool si, .slice ai pi ci, .slice bi ri di] := hd ⟨3, Ground.data⟩ (by simp) rfl
                have e4 : us 4 = .agg #[.bool s2, .slice a2 p2 c2, .slice b2 r2 d2] := hd ⟨4, Ground.data⟩ (by simp) rfl
                clear hd
                simp only [putF]
                rw [hA, e3, e4]
                go_frame
                go_wp2_with fail
                refine (HCM.out W _ _ (YQI.out.grow hB) (YQ2.out.grow hB)).mono ?_
                rintro r W' ⟨rfl, hb⟩
                go_wp2_with fail
                exact hK.out _ _ _ (by rw [hA]; simp only [putF]; rw [e3, e4]; kernel_rfl) hb rfl
              · intro K us W hK0 hB hd
                have hK := hid hK0; clear hK0
                have HBW := hid hB
                have hsW := hB.size
                have GB := hid (HBWga.out.trans (hB.mono HBWga.out.size))
                have e5 : us 5 = .int .i64 cv := hd ⟨5, Ground.data⟩ (by simp) rfl
                clear hd
                simp only [putF]
                rw [hA, e5]
                go_frame
                go_wp2_with fail
                exact hK.out _ _ _ (by rw [hA]; simp only [putF]; rw [e5]; kernel_rfl) (Below.refl _ _) rfl
            intro us Wg hB hp
            have e6 : us 6 = .bool true := hp 6 (by decide)
            have HBWg := hid (HBWga.out.trans (hB.mono HBWga.out.size))
            have HSWg := hid (fun n x => @heap_still _ _ n x hB)
            have hzWg := hB.size
            have hbWg := hid hB
            clear hp
            clear hB
            simp only [putF]
            rw [hA, e6]
            clear hA e6
            go_frame
            have Z5 := hid (HSWg.out _ _ Y5.out)
            have c0 : Wg.cell? ⟨g, m1 * 3, none⟩ = some (.bool si) := (cell_row (HSWg.out _ _ YC.out)).trans HI0.out
            have c1 : Wg.cell? ⟨g, m1 * 3 + 1, none⟩ = some (.slice ai pi ci) := (cell_row (HSWg.out _ _ YC.out)).trans HI1.out
            have c2 : Wg.cell? ⟨g, m1 * 3 + 2, none⟩ = some (.slice bi ri di) := (cell_row (HSWg.out _ _ YC.out)).trans HI2.out
            go_wp2_with (refine wpList_store_at rfl 35 (.tmp 5) (.tmp 44) rfl rfl rfl Z5.out size35 rfl h2s rfl ?_)
            refine ⟨⟨m1 + 1, by omega, by omega, by go_num, ?_⟩, by simp [intOf]; omega⟩
            rw [Nat.add_sub_cancel]
            have hqn := YQI.out.grow hbWg.out
            rw [← HIGH.out] at hqn
            exact ⟨(YR.out.grow hbWg.out).set Z5.out hne hng5 hw5, _, setRow_heap _ _ _ _ _ _ Z5.out, rfl, (hqn.row Z5.out (by decide)).cells3a⟩
          · have hd2 : decide (0 < cmpQ (q m1) hi) = false := by simp [hc2]
            rw [if_neg hc2] at HIGH
            have HCM := hid (fun W v v' h h' => HCMP.out (q m1) hi W v v' h h')
            generalize cmpQ (q m1) hi = cv at *
            go_wp2_with fail
            refine gen_world (fun Wgb hWy => ?_)
            have HBWgb := hid (show Below w.heap.size w Wgb by rw [hWy]; exact HBWf.out)
            have Y5 := hid (show Wgb.heap[g5]? = some (.cells C2 35) by rw [hWy]; exact G5.out)
            have YC := hid (show Wgb.heap[g]? = some (.cells C 35) by rw [hWy]; exact GC.out)
            have YQ2 := hid (show QAt Wgb (.agg #[.bool s2, .slice a2 p2 c2, .slice b2 r2 d2]) hi k by rw [hWy]; exact HQ2.out)
            have YQI := hid (show QAt Wgb (.agg #[.bool si, .slice ai pi ci, .slice bi ri di]) (q m1) k by rw [hWy]; exact HQI.out)
            have YR := hid (show ArLow q k C g g4 w Wgb m1 by rw [hWy]; exact ALWf.out)
            clear hWy
            refine gen_act (fun A0 hA => ?_)
            refine wp_region_pl (by kernel_rfl) (by kernel_rfl) [some 34, some 35, some 36, some 37, some 38, some 39, some 40] rfl (by decide)
              [IsV (.slice (some ⟨g, 0, none⟩) 4 cap), IsV (.int .i64 (m1 : Int)), IsV (.pointer (some ⟨g, m1 * 3, none⟩)), IsV (.agg #[.bool si, .slice ai pi ci, .slice bi ri di]), IsV (.agg #[.bool s2, .slice a2 p2 c2, .slice b2 r2 d2]), IsV (.int .i64 cv), IsV (.bool false)]
              ⟨IsV.stb _, IsV.stb _, IsV.stb _, IsV.stb _, IsV.stb _, IsV.stb _, IsV.stb _, trivial⟩ ?hs1_7_Wgn ?hend_7_Wgn
            case hs1_7_Wgn =>
              refine ⟨?_, ?_, ?_, ?_, ?_, ?_, ?_, trivial⟩
              · intro K us W hK0 hB hd
                have hK := hid hK0; clear hK0
                have HBW := hid hB
                have hsW := hB.size
                have GB := hid (HBWgb.out.trans (hB.mono HBWgb.out.size))
                clear hd
                simp only [putF]
                rw [hA]
                go_frame
                go_wp2_with fail
                exact hK.out _ _ _ (by rw [hA]; simp only [putF]; kernel_rfl) (Below.refl _ _) rfl
              · intro K us W hK0 hB hd
                have hK := hid hK0; clear hK0
                have HBW := hid hB
                have hsW := hB.size
                have GB := hid (HBWgb.out.trans (hB.mono HBWgb.out.size))
                clear hd
                simp only [putF]
                rw [hA]
                go_frame
                go_wp2_with fail
                exact hK.out _ _ _ (by rw [hA]; simp only [putF]; kernel_rfl) (Below.refl _ _) rfl
              · intro K us W hK0 hB hd
                have hK := hid hK0; clear hK0
                have HBW := hid hB
                have hsW := hB.size
                have GB := hid (HBWgb.out.trans (hB.mono HBWgb.out.size))
                have e0 : us 0 = .slice (some ⟨g, 0, none⟩) 4 cap := hd ⟨0, Ground.data⟩ (by simp) rfl
                have e1 : us 1 = .int .i64 (m1 : Int) := hd ⟨1, Ground.data⟩ (by simp) rfl
                clear hd
                simp only [putF]
                rw [hA, e0, e1]
                go_frame
                go_wp2_with fail
                exact hK.out _ _ _ (by rw [hA]; simp only [putF]; rw [e0, e1]; kernel_rfl) (Below.refl _ _) rfl
              · intro K us W hK0 hB hd
                have hK := hid hK0; clear hK0
                have HBW := hid hB
                have hsW := hB.size
                have GB := hid (HBWgb.out.trans (hB.mono HBWgb.out.size))
                have e2 : us 2 = .pointer (some ⟨g, m1 * 3, none⟩) := hd ⟨2, Ground.data⟩ (by simp) rfl
                clear hd
                have c0 : W.cell? ⟨g, m1 * 3, none⟩ = some (.bool si) := (cell_row (heap_still hB YC.out)).trans HI0.out
                have c1 : W.cell? ⟨g, m1 * 3 + 1, none⟩ = some (.slice ai pi ci) := (cell_row (heap_still hB YC.out)).trans HI1.out
                have c2 : W.cell? ⟨g, m1 * 3 + 2, none⟩ = some (.slice bi ri di) := (cell_row (heap_still hB YC.out)).trans HI2.out
                simp only [putF]
                rw [hA, e2]
                go_frame
                go_wp2_with fail
                exact hK.out _ _ _ (by rw [hA]; simp only [putF]; rw [e2]; kernel_rfl) (Below.refl _ _) rfl
              · intro K us W hK0 hB hd
                have hK := hid hK0; clear hK0
                have HBW := hid hB
                have hsW := hB.size
                have GB := hid (HBWgb.out.trans (hB.mono HBWgb.out.size))
                clear hd
                have c0 : W.cell? ⟨g5, 0, none⟩ = some (.bool s2) := (cell_row (heap_still hB Y5.out)).trans HX3.out
                have c1 : W.cell? ⟨g5, 1, none⟩ = some (.slice a2 p2 c2) := (cell_row (heap_still hB Y5.out)).trans HX4.out
                have c2 : W.cell? ⟨g5, 2, none⟩ = some (.slice b2 r2 d2) := (cell_row (heap_still hB Y5.out)).trans HX5.out
                simp only [putF]
                rw [hA]
                go_frame
                go_wp2_with fail
                exact hK.out _ _ _ (by rw [hA]; simp only [putF]; kernel_rfl) (Below.refl _ _) rfl
              · intro K us W hK0 hB hd
                have hK := hid hK0; clear hK0
                have HBW := hid hB
                have hsW := hB.size
                have GB := hid (HBWgb.out.trans (hB.mono HBWgb.out.size))
                have e3 : us 3 = .agg #[.bool si, .slice ai pi ci, .slice bi ri di] := hd ⟨3, Ground.data⟩ (by simp) rfl
                have e4 : us 4 = .agg #[.bool s2, .slice a2 p2 c2, .slice b2 r2 d2] := hd ⟨4, Ground.data⟩ (by simp) rfl
                clear hd
                simp only [putF]
                rw [hA, e3, e4]
                go_frame
                go_wp2_with fail
                refine (HCM.out W _ _ (YQI.out.grow hB) (YQ2.out.grow hB)).mono ?_
                rintro r W' ⟨rfl, hb⟩
                go_wp2_with fail
                exact hK.out _ _ _ (by rw [hA]; simp only [putF]; rw [e3, e4]; kernel_rfl) hb rfl
              · intro K us W hK0 hB hd
                have hK := hid hK0; clear hK0
                have HBW := hid hB
                have hsW := hB.size
                have GB := hid (HBWgb.out.trans (hB.mono HBWgb.out.size))
                have e5 : us 5 = .int .i64 cv := hd ⟨5, Ground.data⟩ (by simp) rfl
                clear hd
                simp only [putF]
                rw [hA, e5]
                go_frame
                go_wp2_with fail
                exact hK.out _ _ _ (by rw [hA]; simp only [putF]; rw [e5]; kernel_rfl) (Below.refl _ _) rfl
            intro us Wgn hB hp
            have e6 : us 6 = .bool false := hp 6 (by decide)
            have HBWgn := hid (HBWgb.out.trans (hB.mono HBWgb.out.size))
            have HSWgn := hid (fun n x => @heap_still _ _ n x hB)
            have hzWgn := hB.size
            have hbWgn := hid hB
            clear hp
            clear hB
            simp only [putF]
            rw [hA, e6]
            clear hA e6
            go_frame
            go_wp2_with fail
            refine ⟨⟨m1 + 1, by omega, by omega, by go_num, ?_⟩, by simp [intOf]; omega⟩
            rw [Nat.add_sub_cancel]
            exact ⟨YR.out.grow hbWgn.out, C2, HSWgn.out _ _ Y5.out, h2s, ⟨s2, a2, p2, c2, b2, r2, d2, HX3.out, HX4.out, HX5.out, by rw [HIGH.out]; exact YQ2.out.grow hbWgn.out⟩⟩
      · have : m1 = 4 := by omega
        subst this
        obtain ⟨⟨C1, h1, h1s, h1q⟩, xc, xq, xr, xb⟩ := AL0.out
        obtain ⟨C2, h2, h2s, h2q⟩ := AH0.out
        have hszr := xb.size
        obtain ⟨s1, a1, p1, c1, b1, r1, d1, x0, x1, x2, hq1⟩ := h1q
        obtain ⟨s2, a2, p2, c2, b2, r2, d2, x3, x4, x5, hq2⟩ := h2q
        have HQ1 := hid hq1
        have HQ2 := hid hq2
        have k0 : wr.cell? ⟨g4, 0, none⟩ = some (.bool s1) := (cell_row h1).trans x0
        have k1 : wr.cell? ⟨g4, 1, none⟩ = some (.slice a1 p1 c1) := (cell_row h1).trans x1
        have k2 : wr.cell? ⟨g4, 2, none⟩ = some (.slice b1 r1 d1) := (cell_row h1).trans x2
        have HX3 := hid x3
        have HX4 := hid x4
        have HX5 := hid x5
        have G5 := hid h2
        have GR := hid xr
        have HB1 := hid xb
        clear h1 h2 xc xq xr xb x0 x1 x2 x3 x4 x5 hq1 hq2 AL0 AH0
        go_wp2_with fail
        clear k0 k1 k2
        refine (HFL.out _ _ HQ1.out).mono ?_
        rintro r w1 ⟨⟨v1, rfl, hv1⟩, hb1⟩
        obtain ⟨cv1, rfl, hcv1, _⟩ := hv1.cells
        have HV1 := hid hv1
        have HB2 := hid (HB1.out.trans (hb1.mono HB1.out.size))
        have HS1 := hid (fun n x => @heap_still _ _ n x hb1)
        have HG1 := hid hb1
        clear hv1 hb1
        go_wp2_with fail
        refine (HL.out _ _ HV1.out).mono ?_
        rintro r w2 ⟨rfl, hb2⟩
        have HB3 := hid (HB2.out.trans (hb2.mono HB2.out.size))
        have k3 : w2.cell? ⟨g5, 0, none⟩ = some (.bool s2) := (cell_row (heap_still hb2 (HS1.out _ _ G5.out))).trans HX3.out
        have k4 : w2.cell? ⟨g5, 1, none⟩ = some (.slice a2 p2 c2) := (cell_row (heap_still hb2 (HS1.out _ _ G5.out))).trans HX4.out
        have k5 : w2.cell? ⟨g5, 2, none⟩ = some (.slice b2 r2 d2) := (cell_row (heap_still hb2 (HS1.out _ _ G5.out))).trans HX5.out
        have HQ3 := hid ((HQ2.out.grow HG1.out).grow hb2)
        have GR2 := hid (heap_still hb2 (HS1.out _ _ GR.out))
        clear hb2
        go_wp2_with fail
        clear k3 k4 k5
        refine (HCE.out _ _ HQ3.out).mono ?_
        rintro r w3 ⟨⟨v3, rfl, hv3⟩, hb3⟩
        obtain ⟨cv3, rfl, hcv3, _⟩ := hv3.cells
        have HV3 := hid hv3
        have HB4 := hid (HB3.out.trans (hb3.mono HB3.out.size))
        have GR3 := hid (heap_still hb3 GR2.out)
        clear hv3 hb3
        go_wp2_with fail
        refine (HH.out _ _ HV3.out).mono ?_
        rintro r w4 ⟨rfl, hb4⟩
        have HB5 := hid (HB4.out.trans (hb4.mono HB4.out.size))
        have GR4 := hid (heap_still hb4 GR3.out)
        clear hb4
        go_wp2_with (refine wpList_store_at rfl 44 (.tmp 2) (.tmp 66) rfl rfl rfl GR4.out size44 rfl rfl rfl ?_)
        refine bodyPost_ret (results_at2 rfl rfl (setRow_heap _ _ _ _ _ _ GR4.out) Try.underlying44 rfl size44 rfl) rfl ?_
        exact ⟨rfl, below_setRow HB5.out (Nat.le_refl _) _⟩
end Go.Proofs.Yteoikaedpgianaa
namespace Go.Proofs.Yteoikaedpgianaa
open Go.RowKit Limb

theorem num_lt (x : Rat) : x.num.sign < 0 ↔ x < 0 := by
  rw [Int.sign_neg_iff, ← Int.not_le, Rat.num_nonneg, Rat.not_le]
theorem num_gt (x : Rat) : 0 < x.num.sign ↔ 0 < x := by
  have h := num_lt (-x)
  rw [Rat.neg_num, Int.sign_neg] at h
  constructor
  · intro hx; have := h.1 (by omega); grind
  · intro hx; have := h.2 (by grind); omega
theorem cmp_lt (x y : Rat) : cmpQ x y < 0 ↔ x < y := by
  unfold cmpQ; rw [num_lt]; grind
theorem cmp_gt (x y : Rat) : 0 < cmpQ x y ↔ y < x := by
  unfold cmpQ; rw [num_gt]; grind
/-- the four ends of a coordinate -/
def fourQ (lo hi k r0 r1 n : Int) : Nat → Rat
  | 0 => (lo : Rat) + (k : Rat) * (r0 : Rat) / (n : Rat)
  | 1 => (lo : Rat) + (k : Rat) * (r1 : Rat) / (n : Rat)
  | 2 => (hi : Rat) + (k : Rat) * (r0 : Rat) / (n : Rat)
  | _ => (hi : Rat) + (k : Rat) * (r1 : Rat) / (n : Rat)
theorem low_of {q : Nat → Rat} {x : Rat} (h0 : x ≤ q 0) (h1 : x ≤ q 1) (h2 : x ≤ q 2) (h3 : x ≤ q 3) (h : x = q 0 ∨ x = q 1) : lowQ q 3 = x := by
  simp only [lowQ, cmp_lt]
  generalize q 0 = a at *
  generalize q 1 = b at *
  generalize q 2 = c at *
  generalize q 3 = d at *
  grind
theorem high_of {q : Nat → Rat} {x : Rat} (h0 : q 0 ≤ x) (h1 : q 1 ≤ x) (h2 : q 2 ≤ x) (h3 : q 3 ≤ x) (h : x = q 2 ∨ x = q 3) : highQ q 3 = x := by
  simp only [highQ, cmp_gt]
  generalize q 0 = a at *
  generalize q 1 = b at *
  generalize q 2 = c at *
  generalize q 3 = d at *
  grind
theorem frac_le {a b n : Int} (hn : 0 < n) (h : a ≤ b) : ((a : Int) : Rat) / (n : Rat) ≤ ((b : Int) : Rat) / (n : Rat) := by
  have hnr : (0 : Rat) < (n : Rat) := Rat.intCast_pos.2 hn
  rw [← Rat.not_lt, Rat.div_lt_iff hnr, Rat.not_lt, Rat.div_mul_cancel (Rat.ne_of_gt hnr)]
  exact Rat.intCast_le_intCast.2 h
theorem floor_add (c : Int) (x : Rat) : ((c : Rat) + x).floor = c + x.floor := by
  have key : ∀ k : Int, k ≤ ((c : Rat) + x).floor ↔ k ≤ c + x.floor := by
    intro k
    rw [Rat.le_floor_iff]
    have h : k ≤ c + x.floor ↔ k - c ≤ x.floor := by omega
    rw [h, Rat.le_floor_iff, Rat.intCast_sub]
    grind
  have h1 := (key _).1 (Int.le_refl _)
  have h2 := (key _).2 (Int.le_refl _)
  omega
theorem ceil_add (c : Int) (x : Rat) : ((c : Rat) + x).ceil = c + x.ceil := by
  rw [Rat.ceil_eq_neg_floor_neg, Rat.ceil_eq_neg_floor_neg, Rat.neg_add, ← Rat.intCast_neg, floor_add]
  omega
theorem low4 {lo hi k r0 r1 n : Int} (hn : 0 < n) (hl : lo ≤ hi) (hr : r0 ≤ r1) : (lowQ (fourQ lo hi k r0 r1 n) 3).floor = lo + dnV k (if k < 0 then r1 else r0) n := by
  have hlq : (lo : Rat) ≤ (hi : Rat) := Rat.intCast_le_intCast.2 hl
  have key : ∀ r, r = r0 ∨ r = r1 → k * r ≤ k * r0 → k * r ≤ k * r1 → (lowQ (fourQ lo hi k r0 r1 n) 3).floor = lo + dnV k r n := by
    intro r h e0 e1
    have f0 := frac_le hn e0
    have f1 := frac_le hn e1
    rw [Rat.intCast_mul, Rat.intCast_mul] at f0 f1
    have : lowQ (fourQ lo hi k r0 r1 n) 3 = (lo : Rat) + ((k : Rat) * (r : Rat)) / (n : Rat) := by
      refine low_of ?_ ?_ ?_ ?_ ?_
      · show _ ≤ (lo : Rat) + (k : Rat) * (r0 : Rat) / (n : Rat)
        grind
      · show _ ≤ (lo : Rat) + (k : Rat) * (r1 : Rat) / (n : Rat)
        grind
      · show _ ≤ (hi : Rat) + (k : Rat) * (r0 : Rat) / (n : Rat)
        grind
      · show _ ≤ (hi : Rat) + (k : Rat) * (r1 : Rat) / (n : Rat)
        grind
      · rcases h with rfl | rfl
        · exact Or.inl rfl
        · exact Or.inr rfl
    rw [this, floor_add, ← Rat.intCast_mul, floor_div _ _ hn]
    rfl
  by_cases hk : k < 0
  · rw [if_pos hk]
    refine key r1 (Or.inr rfl) ?_ (Int.le_refl _)
    exact Int.mul_le_mul_of_nonpos_left (Int.le_of_lt hk) hr
  · rw [if_neg hk]
    refine key r0 (Or.inl rfl) (Int.le_refl _) ?_
    exact Int.mul_le_mul_of_nonneg_left hr (by omega)
theorem high4 {lo hi k r0 r1 n : Int} (hn : 0 < n) (hl : lo ≤ hi) (hr : r0 ≤ r1) : (highQ (fourQ lo hi k r0 r1 n) 3).ceil = hi + upV k (if k < 0 then r0 else r1) n := by
  have hlq : (lo : Rat) ≤ (hi : Rat) := Rat.intCast_le_intCast.2 hl
  have key : ∀ r, r = r0 ∨ r = r1 → k * r0 ≤ k * r → k * r1 ≤ k * r → (highQ (fourQ lo hi k r0 r1 n) 3).ceil = hi + upV k r n := by
    intro r h e0 e1
    have f0 := frac_le hn e0
    have f1 := frac_le hn e1
    rw [Rat.intCast_mul, Rat.intCast_mul] at f0 f1
    have : highQ (fourQ lo hi k r0 r1 n) 3 = (hi : Rat) + ((k : Rat) * (r : Rat)) / (n : Rat) := by
      refine high_of ?_ ?_ ?_ ?_ ?_
      · show (lo : Rat) + (k : Rat) * (r0 : Rat) / (n : Rat) ≤ _
        grind
      · show (lo : Rat) + (k : Rat) * (r1 : Rat) / (n : Rat) ≤ _
        grind
      · show (hi : Rat) + (k : Rat) * (r0 : Rat) / (n : Rat) ≤ _
        grind
      · show (hi : Rat) + (k : Rat) * (r1 : Rat) / (n : Rat) ≤ _
        grind
      · rcases h with rfl | rfl
        · exact Or.inl rfl
        · exact Or.inr rfl
    rw [this, ceil_add, ceil_up _ _ _ hn]
  by_cases hk : k < 0
  · rw [if_pos hk]
    refine key r0 (Or.inl rfl) (Int.le_refl _) ?_
    exact Int.mul_le_mul_of_nonpos_left (Int.le_of_lt hk) hr
  · rw [if_neg hk]
    refine key r1 (Or.inr rfl) ?_ (Int.le_refl _)
    exact Int.mul_le_mul_of_nonneg_left hr (by omega)
end Go.Proofs.Yteoikaedpgianaa
