/- The reference's rational numbers: quotients. -/
import Derived.Test.YteoikaedpgianaaRMul
import Derived.Test.YteoikaedpgianaaFixR
namespace Go.Proofs.Yteoikaedpgianaa
open Go.RowKit Limb

/-- a quotient by signs and magnitudes -/
def divN (a b : Int) : Int := if b < 0 then -a else a
theorem rat_div (x y : Rat) (hy : y ≠ 0) : x / y = mkRat (divN (x.num * y.den) (y.num * x.den)) (y.num * x.den).natAbs := by
  have hy0 : y.num ≠ 0 := fun h => hy (Rat.num_eq_zero.1 h)
  have hz : y.num * (x.den : Int) ≠ 0 := Int.mul_ne_zero hy0 (by have := x.den_nz; omega)
  have h1 : x / y = Rat.divInt (x.num * y.den) (y.num * x.den) := by
    rw [Rat.div_def, Rat.inv_def]
    conv => lhs; lhs; rw [← Rat.num_divInt_den x]
    rw [Rat.divInt_mul_divInt, Int.mul_comm (x.den : Int) y.num]
  rw [h1]
  generalize x.num * (y.den : Int) = a at *
  generalize y.num * (x.den : Int) = b at *
  unfold divN
  split
  · rename_i h
    rw [← Rat.neg_divInt_neg, ← Rat.divInt_ofNat]
    congr 1
    omega
  · rw [← Rat.divInt_ofNat]
    congr 1
    omega
theorem divN_abs (a b : Int) : (divN a b).natAbs = a.natAbs := by unfold divN; split <;> simp
theorem divN_neg (a b : Int) (_ : b ≠ 0) : decide (divN a b < 0) = ((decide (a < 0) != decide (b < 0)) && decide (a.natAbs ≠ 0)) := by
  unfold divN
  by_cases h1 : a < 0 <;> by_cases h2 : b < 0 <;> by_cases h3 : a = 0 <;> simp [h1, h2, h3] <;> omega
/-- a block made for an integer, still zero -/
def Fresh33 (B : Nat) (W : World) (v : Value) : Prop := ∃ g, v = .pointer (some ⟨g, 0, none⟩) ∧ W.heap[g]? = some (.cells #[.bool false, .slice none 0 0] 33) ∧ B ≤ g
theorem Fresh33.stb (B : Nat) : Stb (Fresh33 B) := fun _ _ _ hB ⟨g, h1, h2, h3⟩ => ⟨g, h1, heap_still hB h2, h3⟩
/-- the cells of an aggregate -/
def cellsOf : Value → Array Value
  | .agg cs => cs
  | _ => #[]
def Z33 : Array Value := #[.bool false, .slice none 0 0]
/-- stays when a block of an integer is written -/
def StbR (p : World → Value → Prop) : Prop := ∀ W v g old cs, W.heap[g]? = some (.cells old 33) → p W v → p (W.setRow g cs) v
def StbRL : List (World → Value → Prop) → Prop
  | [] => True
  | p :: l => StbR p ∧ StbRL l
theorem StbRL.at : ∀ {l : List (World → Value → Prop)}, StbRL l → ∀ j W v g old cs, W.heap[g]? = some (.cells old 33) → l.getD j (fun _ _ => True) W v → l.getD j (fun _ _ => True) (W.setRow g cs) v
  | [], _, j, W, v, g, old, cs, _, _ => by simp
  | p :: l, h, 0, W, v, g, old, cs, hg, hp => h.1 W v g old cs hg hp
  | p :: l, h, j + 1, W, v, g, old, cs, hg, hp => StbRL.at h.2 j W v g old cs hg hp
theorem IsV.stbR (x : Value) : StbR (IsV x) := fun _ _ _ _ _ _ h => h
theorem IntAt.stbR (z : Int) (k : Nat) : StbR (fun W v => IntAt W v z k) := fun _ _ _ _ _ hg h => h.row hg (by decide)
/-- what holds while the two integers are made and laid into their blocks -/
structure DivR (W0 : World) (ps : List (World → Value → Prop)) (L : Nat → Bool) (us : Nat → Value) (W : World) : Prop where
  grow : Below W0.heap.size W0 W
  vals : ∀ j, j < 12 → L j = true → ps.getD j (fun _ _ => True) W (us j)
  b12 : L 12 = true → ∃ g, us 12 = .pointer (some ⟨g, 0, none⟩) ∧ W0.heap.size ≤ g ∧ W.heap[g]? = some (.cells (if L 14 = true then cellsOf (us 5) else Z33) 33)
  b13 : L 13 = true → ∃ g, us 13 = .pointer (some ⟨g, 0, none⟩) ∧ W0.heap.size ≤ g ∧ W.heap[g]? = some (.cells (if L 15 = true then cellsOf (us 11) else Z33) 33)
  ne : L 12 = true → L 13 = true → us 12 ≠ us 13
  d14 : L 14 = true → L 12 = true ∧ L 5 = true
  d15 : L 15 = true → L 13 = true ∧ L 11 = true
theorem DivR.pure {W0 W W' : World} {ps : List (World → Value → Prop)} {L : Nat → Bool} {us : Nat → Value} {k : Nat} {v : Value} (hps : StbL ps) (h : DivR W0 ps L us W) (hk : k < 12) (hL : L k = false) (hB : Below W.heap.size W W')
    (hv : ps.getD k (fun _ _ => True) W' v) : DivR W0 ps (fun j => j == k || L j) (updF us k v) W' := by
  have o : ∀ j, 12 ≤ j → ((j == k || L j) = L j) ∧ updF us k v j = us j := fun j hj => by
    have hne : j ≠ k := by omega
    exact ⟨by rw [show (j == k) = false from beq_false_of_ne hne, Bool.false_or], by simp [updF, hne]⟩
  refine ⟨h.grow.trans (hB.mono h.grow.size), ?_, ?_, ?_, ?_, ?_, ?_⟩
  · intro j hj hLj
    by_cases hjk : j = k
    · subst hjk; simpa [updF] using hv
    · simp only [updF, hjk, if_false]
      exact hps.at j W W' _ hB (h.vals j hj (by simpa [hjk] using hLj))
  · intro h12
    rw [(o 12 (by omega)).1] at h12
    obtain ⟨g, e, hg, hh⟩ := h.b12 h12
    refine ⟨g, by rw [(o 12 (by omega)).2]; exact e, hg, ?_⟩
    rw [(o 14 (by omega)).1]
    have := heap_still hB hh
    by_cases h14 : L 14 = true
    · have h5 := (h.d14 h14).2
      have hne : (5 : Nat) ≠ k := by rintro rfl; rw [h5] at hL; cases hL
      rw [show updF us k v 5 = us 5 by simp [updF, hne]]
      exact this
    · rw [if_neg h14] at this ⊢
      exact this
  · intro h13
    rw [(o 13 (by omega)).1] at h13
    obtain ⟨g, e, hg, hh⟩ := h.b13 h13
    refine ⟨g, by rw [(o 13 (by omega)).2]; exact e, hg, ?_⟩
    rw [(o 15 (by omega)).1]
    have := heap_still hB hh
    by_cases h15 : L 15 = true
    · have h11 := (h.d15 h15).2
      have hne : (11 : Nat) ≠ k := by rintro rfl; rw [h11] at hL; cases hL
      rw [show updF us k v 11 = us 11 by simp [updF, hne]]
      exact this
    · rw [if_neg h15] at this ⊢
      exact this
  · intro h12 h13
    rw [(o 12 (by omega)).1] at h12
    rw [(o 13 (by omega)).1] at h13
    rw [(o 12 (by omega)).2, (o 13 (by omega)).2]
    exact h.ne h12 h13
  · intro h14
    rw [(o 14 (by omega)).1] at h14
    have := h.d14 h14
    exact ⟨by rw [(o 12 (by omega)).1]; exact this.1, by rw [this.2]; simp⟩
  · intro h15
    rw [(o 15 (by omega)).1] at h15
    have := h.d15 h15
    exact ⟨by rw [(o 13 (by omega)).1]; exact this.1, by rw [this.2]; simp⟩
theorem eqb_or {L : Nat → Bool} {j k : Nat} (h : j ≠ k) : (j == k || L j) = L j := by rw [show (j == k) = false from beq_false_of_ne h, Bool.false_or]
theorem updF_ne {us : Nat → Value} {j k : Nat} {v : Value} (h : j ≠ k) : updF us k v j = us j := by simp [updF, h]
theorem updF_at {us : Nat → Value} {k : Nat} {v : Value} : updF us k v k = v := by simp [updF]
theorem DivR.alloc12 {W0 W : World} {ps : List (World → Value → Prop)} {L : Nat → Bool} {us : Nat → Value} (hps : StbL ps) (h : DivR W0 ps L us W) (hL : L 12 = false) :
    DivR W0 ps (fun j => j == 12 || L j) (updF us 12 (.pointer (some ⟨W.heap.size, 0, none⟩))) (W.alloc (.cells Z33 33)) := by
  have hB := (Below.refl W.heap.size W).alloc (Nat.le_refl _) (.cells Z33 33)
  have h14 : L 14 = false := by
    cases h14 : L 14 with
    | false => rfl
    | true => have := (h.d14 h14).1; rw [this] at hL; cases hL
  refine ⟨h.grow.trans (hB.mono h.grow.size), ?_, ?_, ?_, ?_, ?_, ?_⟩
  · intro j hj hLj
    rw [eqb_or (by omega)] at hLj
    rw [updF_ne (by omega)]
    exact hps.at j W _ _ hB (h.vals j hj hLj)
  · intro _
    refine ⟨W.heap.size, updF_at, h.grow.size, ?_⟩
    rw [eqb_or (by decide), h14, if_neg (by decide)]
    exact heap_alloc_at _ _ _ rfl
  · intro h13
    rw [eqb_or (by decide)] at h13
    obtain ⟨g, e, hg, hh⟩ := h.b13 h13
    refine ⟨g, by rw [updF_ne (by decide)]; exact e, hg, ?_⟩
    rw [eqb_or (by decide), updF_ne (by decide)]
    exact heap_alloc_past _ _ _ _ hh
  · intro _ h13
    rw [eqb_or (by decide)] at h13
    obtain ⟨g, e, hg, hh⟩ := h.b13 h13
    rw [updF_at, updF_ne (by decide), e]
    intro h
    have hlt := (Array.getElem?_eq_some_iff.1 hh).1
    simp at h
    (try omega)
  · intro h'
    rw [eqb_or (by decide), h14] at h'
    cases h'
  · intro h15
    rw [eqb_or (by decide)] at h15
    have := h.d15 h15
    exact ⟨by rw [eqb_or (by decide)]; exact this.1, by rw [eqb_or (by decide)]; exact this.2⟩
theorem DivR.alloc13 {W0 W : World} {ps : List (World → Value → Prop)} {L : Nat → Bool} {us : Nat → Value} (hps : StbL ps) (h : DivR W0 ps L us W) (hL : L 13 = false) :
    DivR W0 ps (fun j => j == 13 || L j) (updF us 13 (.pointer (some ⟨W.heap.size, 0, none⟩))) (W.alloc (.cells Z33 33)) := by
  have hB := (Below.refl W.heap.size W).alloc (Nat.le_refl _) (.cells Z33 33)
  have h15 : L 15 = false := by
    cases h15 : L 15 with
    | false => rfl
    | true => have := (h.d15 h15).1; rw [this] at hL; cases hL
  refine ⟨h.grow.trans (hB.mono h.grow.size), ?_, ?_, ?_, ?_, ?_, ?_⟩
  · intro j hj hLj
    rw [eqb_or (by omega)] at hLj
    rw [updF_ne (by omega)]
    exact hps.at j W _ _ hB (h.vals j hj hLj)
  · intro h12
    rw [eqb_or (by decide)] at h12
    obtain ⟨g, e, hg, hh⟩ := h.b12 h12
    refine ⟨g, by rw [updF_ne (by decide)]; exact e, hg, ?_⟩
    rw [eqb_or (by decide), updF_ne (by decide)]
    exact heap_alloc_past _ _ _ _ hh
  · intro _
    refine ⟨W.heap.size, updF_at, h.grow.size, ?_⟩
    rw [eqb_or (by decide), h15, if_neg (by decide)]
    exact heap_alloc_at _ _ _ rfl
  · intro h12 _
    rw [eqb_or (by decide)] at h12
    obtain ⟨g, e, hg, hh⟩ := h.b12 h12
    rw [updF_at, updF_ne (by decide), e]
    intro h
    have hlt := (Array.getElem?_eq_some_iff.1 hh).1
    simp at h
    (try omega)
  · intro h14
    rw [eqb_or (by decide)] at h14
    have := h.d14 h14
    exact ⟨by rw [eqb_or (by decide)]; exact this.1, by rw [eqb_or (by decide)]; exact this.2⟩
  · intro h'
    rw [eqb_or (by decide), h15] at h'
    cases h'
theorem DivR.store14 {W0 W : World} {ps : List (World → Value → Prop)} {L : Nat → Bool} {us : Nat → Value} {g : Nat} {cs : Array Value} (hpr : StbRL ps) (h : DivR W0 ps L us W) (h12 : L 12 = true) (h5 : L 5 = true) (e : us 12 = .pointer (some ⟨g, 0, none⟩)) (hg : W0.heap.size ≤ g) (hh : W.heap[g]? = some (.cells Z33 33)) (hc : cellsOf (us 5) = cs) (v : Value) :
    DivR W0 ps (fun j => j == 14 || L j) (updF us 14 v) (W.setRow g cs) := by
  refine ⟨below_setRow h.grow hg _, ?_, ?_, ?_, ?_, ?_, ?_⟩
  · intro j hj hLj
    rw [eqb_or (by omega)] at hLj
    rw [updF_ne (by omega)]
    exact hpr.at j W _ g _ cs hh (h.vals j hj hLj)
  · intro _
    refine ⟨g, by rw [updF_ne (by decide)]; exact e, hg, ?_⟩
    rw [if_pos (by simp), updF_ne (by decide), hc]
    exact setRow_heap _ _ _ _ _ _ hh
  · intro h13
    rw [eqb_or (by decide)] at h13
    obtain ⟨g', e', hg', hh'⟩ := h.b13 h13
    have hne : g' ≠ g := by
      rintro rfl
      exact h.ne h12 h13 (e.trans e'.symm)
    refine ⟨g', by rw [updF_ne (by decide)]; exact e', hg', ?_⟩
    rw [eqb_or (by decide), updF_ne (by decide), heap_row_other hne]
    exact hh'
  · intro h12' h13
    rw [eqb_or (by decide)] at h12' h13
    rw [updF_ne (by decide), updF_ne (by decide)]
    exact h.ne h12' h13
  · intro _
    exact ⟨by rw [eqb_or (by decide)]; exact h12, by rw [eqb_or (by decide)]; exact h5⟩
  · intro h15
    rw [eqb_or (by decide)] at h15
    have := h.d15 h15
    exact ⟨by rw [eqb_or (by decide)]; exact this.1, by rw [eqb_or (by decide)]; exact this.2⟩
theorem DivR.store15 {W0 W : World} {ps : List (World → Value → Prop)} {L : Nat → Bool} {us : Nat → Value} {g : Nat} {cs : Array Value} (hpr : StbRL ps) (h : DivR W0 ps L us W) (h13 : L 13 = true) (h11 : L 11 = true) (e : us 13 = .pointer (some ⟨g, 0, none⟩)) (hg : W0.heap.size ≤ g) (hh : W.heap[g]? = some (.cells Z33 33)) (hc : cellsOf (us 11) = cs) (v : Value) :
    DivR W0 ps (fun j => j == 15 || L j) (updF us 15 v) (W.setRow g cs) := by
  refine ⟨below_setRow h.grow hg _, ?_, ?_, ?_, ?_, ?_, ?_⟩
  · intro j hj hLj
    rw [eqb_or (by omega)] at hLj
    rw [updF_ne (by omega)]
    exact hpr.at j W _ g _ cs hh (h.vals j hj hLj)
  · intro h12
    rw [eqb_or (by decide)] at h12
    obtain ⟨g', e', hg', hh'⟩ := h.b12 h12
    have hne : g' ≠ g := by
      rintro rfl
      exact h.ne h12 h13 (e'.trans e.symm)
    refine ⟨g', by rw [updF_ne (by decide)]; exact e', hg', ?_⟩
    rw [eqb_or (by decide), updF_ne (by decide), heap_row_other hne]
    exact hh'
  · intro _
    refine ⟨g, by rw [updF_ne (by decide)]; exact e, hg, ?_⟩
    rw [if_pos (by simp), updF_ne (by decide), hc]
    exact setRow_heap _ _ _ _ _ _ hh
  · intro h12 h13'
    rw [eqb_or (by decide)] at h12 h13'
    rw [updF_ne (by decide), updF_ne (by decide)]
    exact h.ne h12 h13'
  · intro h14
    rw [eqb_or (by decide)] at h14
    have := h.d14 h14
    exact ⟨by rw [eqb_or (by decide)]; exact this.1, by rw [eqb_or (by decide)]; exact this.2⟩
  · intro _
    exact ⟨by rw [eqb_or (by decide)]; exact h13, by rw [eqb_or (by decide)]; exact h11⟩

set_option maxRecDepth 100000 in
set_option maxHeartbeats 3200000 in
theorem qdiv_any (x y : Rat) (k : Nat) (va vb : Value) (w : World) (ha : QAt w va x k) (hb : QAt w vb y k) (hk : k ≤ 10000) (hy : y ≠ 0) :
    Calls Try.prog 54 #[va, vb] w fun r w' => (∃ v, r = .returned v ∧ QAt w' v (x / y) (k + k)) ∧ Below w.heap.size w w' := by
  obtain ⟨n1, d1, rfl, hn1, hd1, hkn1, hkd1⟩ := ha
  obtain ⟨n2, d2, rfl, hn2, hd2, hkn2, hkd2⟩ := hb
  obtain ⟨a1, ca1, rfl, _, _⟩ := hn1.open
  obtain ⟨b1, cb1, rfl, _, _⟩ := hd1.open
  obtain ⟨a2, ca2, rfl, _, _⟩ := hn2.open
  obtain ⟨b2, cb2, rfl, _, _⟩ := hd2.open
  have hy0 : y.num ≠ 0 := fun h => hy (Rat.num_eq_zero.1 h)
  have hz20 : y.num * (x.den : Int) ≠ 0 := Int.mul_ne_zero hy0 (by have := x.den_nz; omega)
  have HQ := hid (rat_div x y hy)
  obtain ⟨z1, hz1⟩ : ∃ z, z = x.num * (y.den : Int) := ⟨_, rfl⟩
  obtain ⟨z2, hz2⟩ : ∃ z, z = y.num * (x.den : Int) := ⟨_, rfl⟩
  rw [← hz1, ← hz2] at HQ
  rw [← hz2] at hz20
  have HIM := fun (a b : Int) (W : World) (v v' : Value) h h' => imul_any a b k k v v' W h h' (by omega) (by omega)
  have HIM1 := hid (fun W v v' h h' => HIM x.num (y.den : Int) W v v' h h')
  have HIM2 := hid (fun W v v' h h' => HIM y.num (x.den : Int) W v v' h h')
  rw [← hz1] at HIM1
  rw [← hz2] at HIM2
  have HKK := hid hk
  have HZ2 := hid hz20
  have HI1 := hid (show ∀ W, Below w.heap.size w W → IntAt W (.agg #[.bool (decide (x.num < 0)), .slice a1 (natL x.num.natAbs).length ca1]) x.num k from fun W hW => ⟨_, rfl, hn1.grow hW, hkn1⟩)
  have HI2 := hid (show ∀ W, Below w.heap.size w W → IntAt W (.agg #[.bool (decide (y.num < 0)), .slice a2 (natL y.num.natAbs).length ca2]) y.num k from fun W hW => ⟨_, rfl, hn2.grow hW, hkn2⟩)
  have HD1 := hid (show ∀ W, Below w.heap.size w W → IntAt W (.agg #[.bool false, .slice b1 (natL x.den).length cb1]) (x.den : Int) k from fun W hW => ⟨_, by rw [nat_sign], by rw [Int.natAbs_natCast]; exact hd1.grow hW, by rw [Int.natAbs_natCast]; exact hkd1⟩)
  have HD2 := hid (show ∀ W, Below w.heap.size w W → IntAt W (.agg #[.bool false, .slice b2 (natL y.den).length cb2]) (y.den : Int) k from fun W hW => ⟨_, by rw [nat_sign], by rw [Int.natAbs_natCast]; exact hd2.grow hW, by rw [Int.natAbs_natCast]; exact hkd2⟩)
  generalize decide (x.num < 0) = s1 at *
  generalize decide (y.num < 0) = s2 at *
  generalize (natL x.num.natAbs).length = p1 at *
  generalize (natL y.num.natAbs).length = p2 at *
  generalize (natL x.den).length = r1 at *
  generalize (natL y.den).length = r2 at *
  clear hn1 hd1 hkn1 hkd1 hn2 hd2 hkn2 hkd2 hz1 hz2 hk hy hy0 hz20 HIM
  go_enter Try.func54, Try.ntmps54
  go_wp2_with fail
  refine gen_world (fun W0 hW0 => ?_)
  have HB0 := hid (show Below w.heap.size w W0 by rw [hW0]; (repeat' (first | (with_reducible exact Below.refl _ _) | (with_reducible assumption) | (with_reducible refine Below.alloc ?_ ?_ _) | (with_reducible refine Below.drew ?_) | (with_reducible refine below_drewN ?_ _) | (with_reducible refine Below.setCell ?_ ?_ _) | (with_reducible refine below_setRow ?_ ?_ _) | go_size)))
  have F0 := hid (show W0.heap[w.heap.size]? = some (.cells #[.bool s1, .slice a1 p1 ca1, .slice b1 r1 cb1] 35) by rw [hW0]; exact (by repeat' (first | (refine heap_alloc_at _ _ _ ?_; (first | rfl | (simp; done) | (simp; omega))) | (refine heap_alloc_past _ _ _ _ ?_))))
  have F1 := hid (show W0.heap[w.heap.size + 1]? = some (.cells #[.bool s2, .slice a2 p2 ca2, .slice b2 r2 cb2] 35) by rw [hW0]; exact (by repeat' (first | (refine heap_alloc_at _ _ _ ?_; (first | rfl | (simp; done) | (simp; omega))) | (refine heap_alloc_past _ _ _ _ ?_))))
  have F2 := hid (show W0.heap[w.heap.size + 1 + 1]? = some (.cells #[.bool false, .slice none 0 0, .slice none 0 0] 35) by rw [hW0]; exact (by repeat' (first | (refine heap_alloc_at _ _ _ ?_; (first | rfl | (simp; done) | (simp; omega))) | (refine heap_alloc_past _ _ _ _ ?_))))
  have hsz0 : w.heap.size + 1 + 1 < W0.heap.size := (Array.getElem?_eq_some_iff.1 F2.out).1
  clear hW0
  refine gen_act (fun A0 hA => ?_)
  obtain ⟨ps, hpse⟩ : ∃ ps, ps = ([IsV (.pointer (some ⟨w.heap.size, 0, none⟩)), fun W v => IntAt W v x.num k, IsV (.pointer (some ⟨w.heap.size + 1, 2, none⟩)), IsV (.slice b2 r2 cb2), fun W v => IntAt W v (y.den : Int) k, fun W v => IntAt W v z1 (k + k),
      IsV (.pointer (some ⟨w.heap.size + 1, 0, none⟩)), fun W v => IntAt W v y.num k, IsV (.pointer (some ⟨w.heap.size, 2, none⟩)), IsV (.slice b1 r1 cb1), fun W v => IntAt W v (x.den : Int) k, fun W v => IntAt W v z2 (k + k)] : List (World → Value → Prop)) := ⟨_, rfl⟩
  have HPS := hid (show StbL ps by rw [hpse]; exact ⟨IsV.stb _, IntAt.stb _ _, IsV.stb _, IsV.stb _, IntAt.stb _ _, IntAt.stb _ _, IsV.stb _, IntAt.stb _ _, IsV.stb _, IsV.stb _, IntAt.stb _ _, IntAt.stb _ _, trivial⟩)
  have HPR := hid (show StbRL ps by rw [hpse]; exact ⟨IsV.stbR _, IntAt.stbR _ _, IsV.stbR _, IsV.stbR _, IntAt.stbR _ _, IntAt.stbR _ _, IsV.stbR _, IntAt.stbR _ _, IsV.stbR _, IsV.stbR _, IntAt.stbR _ _, IntAt.stbR _ _, trivial⟩)
  refine wp_region_by (by kernel_rfl) (by kernel_rfl) [some 7, some 8, some 9, some 10, some 11, some 12, some 13, some 14, some 15, some 16, some 17, some 18, some 5, some 6, none, none] rfl (by decide) (DivR W0 ps) (selfF A0 _) (putF_self A0 _)
    ⟨(Below.refl _ _).drew, fun _ _ h => (Bool.false_ne_true h).elim, fun h => (Bool.false_ne_true h).elim, fun h => (Bool.false_ne_true h).elim, fun h => (Bool.false_ne_true h).elim, fun h => (Bool.false_ne_true h).elim, fun h => (Bool.false_ne_true h).elim⟩ ?hs1 ?hend
  case hs1 =>
    subst hpse
    refine ⟨?_, ?_, ?_, ?_, ?_, ?_, ?_, ?_, ?_, ?_, ?_, ?_, ?_, ?_, ?_, ?_, trivial⟩
    · intro K L us W hK0 hL hd hR
      have hK := hid (fun v A' W' h1 h2 h3 => hK0 v A' W' h1 (hR.pure (by exact HPS.out) (by decide) hL h2 h3)); clear hK0
      have hB := hR.grow
      have HBW := hid hB
      have hsW := hB.size
      (try simp [Region.binds] at hd)
      simp only [putF]
      rw [hA]
      go_frame
      go_wp2_with fail
      exact hK.out _ _ _ (by rw [hA]; kernel_rfl) (Below.refl _ _) rfl
    · intro K L us W hK0 hL hd hR
      have hK := hid (fun v A' W' h1 h2 h3 => hK0 v A' W' h1 (hR.pure (by exact HPS.out) (by decide) hL h2 h3)); clear hK0
      have hB := hR.grow
      have HBW := hid hB
      have hsW := hB.size
      (try simp [Region.binds] at hd)
      have e0 : us 0 = _ := hR.vals 0 (by decide) hd
      have G0 := hid (heap_still hB F0.out)
      have c0 : W.cell? ⟨w.heap.size, 0, none⟩ = some (.bool s1) := (cell_row (j := 0) G0.out).trans rfl
      have c1 : W.cell? ⟨w.heap.size, 1, none⟩ = some (.slice a1 p1 ca1) := (cell_row (j := 1) G0.out).trans rfl
      simp only [putF]
      rw [hA, e0]
      go_frame
      go_wp2_with fail
      exact hK.out _ _ _ (by rw [hA]; simp only [putF]; rw [e0]; kernel_rfl) (Below.refl _ _) (HI1.out W (HB0.out.trans (HBW.out.mono HB0.out.size)))
    · intro K L us W hK0 hL hd hR
      have hK := hid (fun v A' W' h1 h2 h3 => hK0 v A' W' h1 (hR.pure (by exact HPS.out) (by decide) hL h2 h3)); clear hK0
      have hB := hR.grow
      have HBW := hid hB
      have hsW := hB.size
      (try simp [Region.binds] at hd)
      simp only [putF]
      rw [hA]
      go_frame
      go_wp2_with fail
      exact hK.out _ _ _ (by rw [hA]; kernel_rfl) (Below.refl _ _) rfl
    · intro K L us W hK0 hL hd hR
      have hK := hid (fun v A' W' h1 h2 h3 => hK0 v A' W' h1 (hR.pure (by exact HPS.out) (by decide) hL h2 h3)); clear hK0
      have hB := hR.grow
      have HBW := hid hB
      have hsW := hB.size
      (try simp [Region.binds] at hd)
      have e0 : us 2 = _ := hR.vals 2 (by decide) hd
      have G0 := hid (heap_still hB F1.out)
      have c0 : W.cell? ⟨w.heap.size + 1, 2, none⟩ = some (.slice b2 r2 cb2) := (cell_row (j := 2) G0.out).trans rfl
      simp only [putF]
      rw [hA, e0]
      go_frame
      go_wp2_with fail
      exact hK.out _ _ _ (by rw [hA]; simp only [putF]; rw [e0]; kernel_rfl) (Below.refl _ _) rfl
    · intro K L us W hK0 hL hd hR
      have hK := hid (fun v A' W' h1 h2 h3 => hK0 v A' W' h1 (hR.pure (by exact HPS.out) (by decide) hL h2 h3)); clear hK0
      have hB := hR.grow
      have HBW := hid hB
      have hsW := hB.size
      (try simp [Region.binds] at hd)
      have e0 : us 3 = _ := hR.vals 3 (by decide) hd
      simp only [putF]
      rw [hA, e0]
      go_frame
      go_wp2_with fail
      exact hK.out _ _ _ (by rw [hA]; simp only [putF]; rw [e0]; kernel_rfl) (Below.refl _ _) (HD2.out W (HB0.out.trans (HBW.out.mono HB0.out.size)))
    · intro K L us W hK0 hL hd hR
      have hK := hid (fun v A' W' h1 h2 h3 => hK0 v A' W' h1 (hR.pure (by exact HPS.out) (by decide) hL h2 h3)); clear hK0
      have hB := hR.grow
      have HBW := hid hB
      have hsW := hB.size
      (try simp [Region.binds] at hd)
      have hd1 : IntAt W (us 1) _ k := hR.vals 1 (by decide) hd.1
      have hd2 : IntAt W (us 4) _ k := hR.vals 4 (by decide) hd.2
      obtain ⟨cs1, e0, _, _⟩ := hd1.cells
      obtain ⟨cs2, e1, _, _⟩ := hd2.cells
      rw [e0] at hd1
      rw [e1] at hd2
      have HH1 := hid hd1
      have HH2 := hid hd2
      clear hd hd1 hd2 hR
      simp only [putF]
      rw [hA, e0, e1]
      go_frame
      go_wp2_with fail
      refine (HIM1.out W _ _ HH1.out HH2.out).mono ?_
      rintro r W' ⟨⟨v, rfl, hv⟩, hb⟩
      go_wp2_with fail
      exact hK.out _ _ _ (by rw [hA]; simp only [putF]; rw [e0, e1]; kernel_rfl) hb hv
    · intro K L us W hK0 hL hd hR
      have hK := hid (fun v A' W' h1 h2 h3 => hK0 v A' W' h1 (hR.pure (by exact HPS.out) (by decide) hL h2 h3)); clear hK0
      have hB := hR.grow
      have HBW := hid hB
      have hsW := hB.size
      (try simp [Region.binds] at hd)
      simp only [putF]
      rw [hA]
      go_frame
      go_wp2_with fail
      exact hK.out _ _ _ (by rw [hA]; kernel_rfl) (Below.refl _ _) rfl
    · intro K L us W hK0 hL hd hR
      have hK := hid (fun v A' W' h1 h2 h3 => hK0 v A' W' h1 (hR.pure (by exact HPS.out) (by decide) hL h2 h3)); clear hK0
      have hB := hR.grow
      have HBW := hid hB
      have hsW := hB.size
      (try simp [Region.binds] at hd)
      have e0 : us 6 = _ := hR.vals 6 (by decide) hd
      have G0 := hid (heap_still hB F1.out)
      have c0 : W.cell? ⟨w.heap.size + 1, 0, none⟩ = some (.bool s2) := (cell_row (j := 0) G0.out).trans rfl
      have c1 : W.cell? ⟨w.heap.size + 1, 1, none⟩ = some (.slice a2 p2 ca2) := (cell_row (j := 1) G0.out).trans rfl
      simp only [putF]
      rw [hA, e0]
      go_frame
      go_wp2_with fail
      exact hK.out _ _ _ (by rw [hA]; simp only [putF]; rw [e0]; kernel_rfl) (Below.refl _ _) (HI2.out W (HB0.out.trans (HBW.out.mono HB0.out.size)))
    · intro K L us W hK0 hL hd hR
      have hK := hid (fun v A' W' h1 h2 h3 => hK0 v A' W' h1 (hR.pure (by exact HPS.out) (by decide) hL h2 h3)); clear hK0
      have hB := hR.grow
      have HBW := hid hB
      have hsW := hB.size
      (try simp [Region.binds] at hd)
      simp only [putF]
      rw [hA]
      go_frame
      go_wp2_with fail
      exact hK.out _ _ _ (by rw [hA]; kernel_rfl) (Below.refl _ _) rfl
    · intro K L us W hK0 hL hd hR
      have hK := hid (fun v A' W' h1 h2 h3 => hK0 v A' W' h1 (hR.pure (by exact HPS.out) (by decide) hL h2 h3)); clear hK0
      have hB := hR.grow
      have HBW := hid hB
      have hsW := hB.size
      (try simp [Region.binds] at hd)
      have e0 : us 8 = _ := hR.vals 8 (by decide) hd
      have G0 := hid (heap_still hB F0.out)
      have c0 : W.cell? ⟨w.heap.size, 2, none⟩ = some (.slice b1 r1 cb1) := (cell_row (j := 2) G0.out).trans rfl
      simp only [putF]
      rw [hA, e0]
      go_frame
      go_wp2_with fail
      exact hK.out _ _ _ (by rw [hA]; simp only [putF]; rw [e0]; kernel_rfl) (Below.refl _ _) rfl
    · intro K L us W hK0 hL hd hR
      have hK := hid (fun v A' W' h1 h2 h3 => hK0 v A' W' h1 (hR.pure (by exact HPS.out) (by decide) hL h2 h3)); clear hK0
      have hB := hR.grow
      have HBW := hid hB
      have hsW := hB.size
      (try simp [Region.binds] at hd)
      have e0 : us 9 = _ := hR.vals 9 (by decide) hd
      simp only [putF]
      rw [hA, e0]
      go_frame
      go_wp2_with fail
      exact hK.out _ _ _ (by rw [hA]; simp only [putF]; rw [e0]; kernel_rfl) (Below.refl _ _) (HD1.out W (HB0.out.trans (HBW.out.mono HB0.out.size)))
    · intro K L us W hK0 hL hd hR
      have hK := hid (fun v A' W' h1 h2 h3 => hK0 v A' W' h1 (hR.pure (by exact HPS.out) (by decide) hL h2 h3)); clear hK0
      have hB := hR.grow
      have HBW := hid hB
      have hsW := hB.size
      (try simp [Region.binds] at hd)
      have hd1 : IntAt W (us 7) _ k := hR.vals 7 (by decide) hd.1
      have hd2 : IntAt W (us 10) _ k := hR.vals 10 (by decide) hd.2.1
      obtain ⟨cs1, e0, _, _⟩ := hd1.cells
      obtain ⟨cs2, e1, _, _⟩ := hd2.cells
      rw [e0] at hd1
      rw [e1] at hd2
      have HH1 := hid hd1
      have HH2 := hid hd2
      clear hd hd1 hd2 hR
      simp only [putF]
      rw [hA, e0, e1]
      go_frame
      go_wp2_with fail
      refine (HIM2.out W _ _ HH1.out HH2.out).mono ?_
      rintro r W' ⟨⟨v, rfl, hv⟩, hb⟩
      go_wp2_with fail
      exact hK.out _ _ _ (by rw [hA]; simp only [putF]; rw [e0, e1]; kernel_rfl) hb hv
    · intro K L us W hK0 hL hd hR
      have hK := hid hK0; clear hK0
      have hR2 := hid (hR.alloc12 HPS.out hL)
      simp only [putF]
      rw [hA]
      go_frame
      go_wp2_with fail
      exact hK.out (.pointer (some ⟨W.heap.size, 0, none⟩)) _ _ (by rw [hA]; kernel_rfl) hR2.out
    · intro K L us W hK0 hL hd hR
      have hK := hid hK0; clear hK0
      have hR2 := hid (hR.alloc13 HPS.out hL)
      simp only [putF]
      rw [hA]
      go_frame
      go_wp2_with fail
      exact hK.out (.pointer (some ⟨W.heap.size, 0, none⟩)) _ _ (by rw [hA]; kernel_rfl) hR2.out
    · intro K L us W hK0 hL hd hR
      have hK := hid hK0; clear hK0
      simp [Region.binds] at hd
      have h12 : L 12 = true := hd.1
      have h5 : L 5 = true := hd.2.1
      obtain ⟨g, e0, hg, hh⟩ := hR.b12 h12
      rw [hL, if_neg (by decide)] at hh
      have hi : IntAt W (us 5) z1 (k + k) := hR.vals 5 (by decide) h5
      obtain ⟨cs, e1, hcs, hco⟩ := hi.cells
      have hR2 := hid (hR.store14 (cs := cs) HPR.out h12 h5 e0 hg hh (by rw [e1]; rfl) undef)
      simp only [putF]
      rw [hA, e0, e1]
      go_frame
      go_wp2_with (refine wpList_store_at rfl 33 (.tmp 5) (.tmp 12) rfl rfl rfl hh size33 hcs rfl hco ?_)
      exact hK.out undef _ _ (by rw [hA]; simp only [putF]; rw [e0, e1]; kernel_rfl) hR2.out
    · intro K L us W hK0 hL hd hR
      have hK := hid hK0; clear hK0
      simp [Region.binds] at hd
      have h13 : L 13 = true := hd.1
      have h11 : L 11 = true := hd.2.1
      obtain ⟨g, e0, hg, hh⟩ := hR.b13 h13
      rw [hL, if_neg (by decide)] at hh
      have hi : IntAt W (us 11) z2 (k + k) := hR.vals 11 (by decide) h11
      obtain ⟨cs, e1, hcs, hco⟩ := hi.cells
      have hR2 := hid (hR.store15 (cs := cs) HPR.out h13 h11 e0 hg hh (by rw [e1]; rfl) undef)
      simp only [putF]
      rw [hA, e0, e1]
      go_frame
      go_wp2_with (refine wpList_store_at rfl 33 (.tmp 6) (.tmp 18) rfl rfl rfl hh size33 hcs rfl hco ?_)
      exact hK.out undef _ _ (by rw [hA]; simp only [putF]; rw [e0, e1]; kernel_rfl) hR2.out
  case hend =>
    intro L us W hL hR
    subst hpse
    obtain ⟨g5, e5, hg5, hh5⟩ := hR.b12 (hL 12 (by decide))
    obtain ⟨g6, e6, hg6, hh6⟩ := hR.b13 (hL 13 (by decide))
    rw [hL 14 (by decide), if_pos rfl] at hh5
    rw [hL 15 (by decide), if_pos rfl] at hh6
    obtain ⟨l1, i1, hn1, hk1⟩ : IntAt W (us 5) z1 (k + k) := hR.vals 5 (by decide) (hL 5 (by decide))
    obtain ⟨l2, i2, hn2, hk2⟩ : IntAt W (us 11) z2 (k + k) := hR.vals 11 (by decide) (hL 11 (by decide))
    obtain ⟨u1, cu1, rfl, _, _⟩ := hn1.open
    obtain ⟨u2, cu2, rfl, _, _⟩ := hn2.open
    rw [i1] at hh5
    rw [i2] at hh6
    have hhh5 : W.heap[g5]? = some (.cells #[.bool (decide (z1 < 0)), .slice u1 (natL z1.natAbs).length cu1] 33) := hh5
    have hhh6 : W.heap[g6]? = some (.cells #[.bool (decide (z2 < 0)), .slice u2 (natL z2.natAbs).length cu2] 33) := hh6
    have k0 : W.cell? ⟨g5, 0, none⟩ = some (.bool (decide (z1 < 0))) := (cell_row (j := 0) hhh5).trans rfl
    have k1 : W.cell? ⟨g5, 1, none⟩ = some (.slice u1 (natL z1.natAbs).length cu1) := (cell_row (j := 1) hhh5).trans rfl
    have k2 : W.cell? ⟨g6, 0, none⟩ = some (.bool (decide (z2 < 0))) := (cell_row (j := 0) hhh6).trans rfl
    have k3 : W.cell? ⟨g6, 1, none⟩ = some (.slice u2 (natL z2.natAbs).length cu2) := (cell_row (j := 1) hhh6).trans rfl
    have GR := hid (heap_still hR.grow F2.out)
    have HBR := hid (HB0.out.trans (hR.grow.mono HB0.out.size))
    have HN1 := hid hn1
    have HN2 := hid hn2
    have HK1 := hid hk1
    have HK2 := hid hk2
    have HFR := hid (fun W v v' h h' => frac_any (divN z1 z2) z2.natAbs (k + k) v v' W h h' (by have := HKK.out; omega) (by have := HZ2.out; omega))
    have HAB := hid (divN_abs z1 z2)
    have HSG := hid (divN_neg z1 z2 HZ2.out)
    have hszW := HBR.out.size
    simp only [putF, Nat.zero_add, Nat.reduceAdd]
    rw [hA, e5, e6]
    clear hh5 hh6 hhh5 hhh6 hn1 hn2 hk1 hk2 hR hL hA i1 i2 e5 e6
    by_cases hz : z1.natAbs = 0
    · have hl0 : (natL z1.natAbs).length = 0 := by rw [hz, natL_zero]; rfl
      replace HSG := hid (show decide (divN z1 z2 < 0) = false by rw [HSG.out, hz]; simp)
      rw [hl0] at k1 HN1
      generalize decide (z1 < 0) = t1 at *
      generalize decide (z2 < 0) = t2 at *
      generalize (natL z2.natAbs).length = m2 at *
      clear hl0 hz
      cases t1 <;> cases t2
      all_goals
        go_frame
        go_wp2_with fail
        refine (HFR.out _ _ _ ⟨_, by rw [HSG.out] <;> rfl, by rw [HAB.out]; exact HN1.out, by rw [HAB.out]; exact HK1.out⟩ ⟨_, by rw [nat_sign], by rw [Int.natAbs_natCast]; exact HN2.out, by rw [Int.natAbs_natCast]; exact HK2.out⟩).mono ?_
        rintro r W3 ⟨⟨v, rfl, hv⟩, hb⟩
        have G3 := hid (heap_still hb GR.out)
        have HB3 := hid (HBR.out.trans (hb.mono HBR.out.size))
        have HV := hid hv
        obtain ⟨cs, rfl, hcs, hco⟩ := hv.cells
        clear hb hv
        go_wp2_with (refine wpList_store_at rfl 35 (.tmp 4) (.tmp 36) rfl rfl rfl (G3.out) size35 hcs rfl hco ?_)
        refine bodyPost_ret (results_at1 rfl rfl (setRow_heap _ _ _ _ _ _ (G3.out)) Try.underlying35 rfl size35 hcs) rfl ?_
        refine ⟨⟨_, rfl, ?_⟩, below_setRow HB3.out (by omega) _⟩
        rw [HQ.out]
        exact HV.out.row G3.out (by decide)
    · have hlp : 0 < (natL z1.natAbs).length := length_pos (Nat.pos_of_ne_zero hz)
      replace HSG := hid (show decide (divN z1 z2 < 0) = (decide (z1 < 0) != decide (z2 < 0)) by rw [HSG.out]; simp [hz])
      generalize decide (z1 < 0) = t1 at *
      generalize decide (z2 < 0) = t2 at *
      generalize (natL z2.natAbs).length = m2 at *
      generalize (natL z1.natAbs).length = m1 at *
      clear hz
      cases t1 <;> cases t2
      all_goals
        go_frame
        go_wp2_with fail
        refine (HFR.out _ _ _ ⟨_, by rw [HSG.out] <;> rfl, by rw [HAB.out]; exact HN1.out, by rw [HAB.out]; exact HK1.out⟩ ⟨_, by rw [nat_sign], by rw [Int.natAbs_natCast]; exact HN2.out, by rw [Int.natAbs_natCast]; exact HK2.out⟩).mono ?_
        rintro r W3 ⟨⟨v, rfl, hv⟩, hb⟩
        have G3 := hid (heap_still hb GR.out)
        have HB3 := hid (HBR.out.trans (hb.mono HBR.out.size))
        have HV := hid hv
        obtain ⟨cs, rfl, hcs, hco⟩ := hv.cells
        clear hb hv
        go_wp2_with (refine wpList_store_at rfl 35 (.tmp 4) (.tmp 36) rfl rfl rfl (G3.out) size35 hcs rfl hco ?_)
        refine bodyPost_ret (results_at1 rfl rfl (setRow_heap _ _ _ _ _ _ (G3.out)) Try.underlying35 rfl size35 hcs) rfl ?_
        refine ⟨⟨_, rfl, ?_⟩, below_setRow HB3.out (by omega) _⟩
        rw [HQ.out]
        exact HV.out.row G3.out (by decide)
end Go.Proofs.Yteoikaedpgianaa
