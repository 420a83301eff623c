/- A region that draws its order, by an invariant over the operations done, the values that they have left and the world. For whatever program. -/
import Derived.Test.YteoikaedpgianaaReg
namespace Go.Proofs.Yteoikaedpgianaa
open Go.RowKit

/-- a frame with these slots put -/
def putF (A : Act) : List (Option Nat) → (Nat → Value) → Act
  | [], _ => A
  | d :: ds, us => putF (A.put d (us 0)) ds (fun j => us (j + 1))
def updF (us : Nat → Value) (k : Nat) (v : Value) : Nat → Value := fun j => if j = k then v else us j
theorem put_comm (A : Act) {d e : Nat} (h : d ≠ e) (v u : Value) : (A.put (some d) v).put (some e) u = (A.put (some e) u).put (some d) v := by
  simp only [Act.put, Act.mk.injEq, and_true]
  exact Array.setIfInBounds_comm v u h
theorem put_twice (A : Act) (d : Nat) (v u : Value) : (A.put (some d) v).put (some d) u = A.put (some d) u := by
  simp [Act.put]
theorem put_none (A : Act) (v : Value) : A.put none v = A := rfl
theorem putF_put : ∀ (ds : List (Option Nat)) (A : Act) (us : Nat → Value) (d : Nat) (v : Value), some d ∉ ds → (putF A ds us).put (some d) v = putF (A.put (some d) v) ds us
  | [], A, us, d, v, _ => rfl
  | none :: ds, A, us, d, v, h => by
    simp only [List.mem_cons, not_or] at h
    exact putF_put ds A _ d v h.2
  | some e :: ds, A, us, d, v, h => by
    simp only [List.mem_cons, not_or] at h
    show (putF (A.put (some e) (us 0)) ds _).put (some d) v = putF ((A.put (some d) v).put (some e) (us 0)) ds _
    rw [putF_put ds _ _ d v h.2, put_comm A (fun hh => h.1 (by rw [hh]))]
theorem putF_upd : ∀ (ds : List (Option Nat)) (A : Act) (us : Nat → Value) (k : Nat) (v : Value), (ds.filterMap id).Nodup → k < ds.length → (putF A ds us).put (ds.getD k none) v = putF A ds (updF us k v)
  | [], _, _, _, _, _, h => by simp at h
  | none :: ds, A, us, 0, v, hd, _ => by
    show putF A ds _ = putF A ds _
    congr 1
  | some e :: ds, A, us, 0, v, hd, _ => by
    simp only [List.filterMap_cons, id, List.nodup_cons, List.mem_filterMap] at hd
    show (putF (A.put (some e) (us 0)) ds _).put (some e) v = putF (A.put (some e) v) ds _
    rw [putF_put ds _ _ e v (fun h => hd.1 ⟨_, h, rfl⟩), put_twice]
    congr 1
  | d :: ds, A, us, k + 1, v, hd, hk => by
    have hd' : (ds.filterMap id).Nodup := by
      cases d with
      | none => simpa using hd
      | some e => simp only [List.filterMap_cons, id, List.nodup_cons] at hd; exact hd.2
    show (putF (A.put d (us 0)) ds _).put (ds.getD k none) v = putF (A.put d (us 0)) ds _
    rw [putF_upd ds _ _ k v hd' (by simpa using hk)]
    congr 1
    funext j
    simp [updF]

theorem put_self (A : Act) (d : Nat) : A.put (some d) (A.tmps.getD d undef) = A := by
  cases A with
  | mk tmps defers =>
    simp only [Act.put, Act.mk.injEq, and_true]
    apply Array.ext
    · simp
    · intro i h1 h2
      rw [Array.getElem_setIfInBounds]
      split
      · rename_i h
        subst h
        rw [Array.getD_eq_getD_getElem?, Array.getElem?_eq_getElem h2]
        rfl
      · rfl
/-- the values that the frame's slots hold -/
def selfF (A : Act) (ds : List (Option Nat)) : Nat → Value := fun j => match ds.getD j none with
  | some d => A.tmps.getD d undef
  | none => undef
theorem putF_self (A : Act) : ∀ (ds : List (Option Nat)), putF A ds (selfF A ds) = A
  | [] => rfl
  | none :: ds => putF_self A ds
  | some d :: ds => by
    show putF (A.put (some d) (A.tmps.getD d undef)) ds (selfF A ds) = A
    rw [put_self]
    exact putF_self A ds

section
variable {P : Program} {Q : Exit → Act → World → Prop}
/-- Each operation of the list, met when those that it waits for are done, keeps R. -/
def BySteps (P : Program) (ops : Array Oper) (Q : Exit → Act → World → Prop) (A0 : Act) (ds : List (Option Nat)) (R : (Nat → Bool) → (Nat → Value) → World → Prop) : Nat → List Oper → Prop
  | _, [] => True
  | k, o :: rest => (∀ (K : Act → World → Prop) (L : Nat → Bool) (us : Nat → Value) (W : World),
      (∀ v A' W', A' = (putF A0 ds us).put (ds.getD k none) v → R (fun j => j == k || L j) (updF us k v) W' → K A' W') → L k = false →
      (o.after.all fun e => !Region.binds .any e || L e.on) = true → R L us W → wpList P ops (Exit.then K Q) [o] (putF A0 ds us) W) ∧ BySteps P ops Q A0 ds R (k + 1) rest

theorem BySteps.reg {ops : Array Oper} {A0 : Act} {ds : List (Option Nat)} {R : (Nat → Bool) → (Nat → Value) → World → Prop} (hds : (ds.filterMap id).Nodup) : ∀ {l : List Oper} {k : Nat}, k + l.length = ds.length → backB k l = true →
    BySteps P ops Q A0 ds R k l → ∀ K : (Nat → Bool) → Act → World → Prop, (∀ L a w, (∃ us, a = putF A0 ds us ∧ R (fun j => L j && decide (j < ds.length)) us w) → K L a w) →
    RegSteps P ops Q (fun L a w => ∃ us, a = putF A0 ds us ∧ R (fun j => L j && decide (j < ds.length)) us w) K k l
  | [], _, _, _, _, _, _ => trivial
  | o :: rest, k, hl, hb, hs, K, hK => by
    simp only [List.length_cons] at hl
    simp only [backB, Bool.and_eq_true] at hb
    refine ⟨?_, BySteps.reg hds (by omega) hb.2 hs.2 K hK⟩
    rintro L hL hd a w ⟨us, rfl, hR⟩
    refine hs.1 (K fun j => j == k || L j) (fun j => L j && decide (j < ds.length)) us w ?_ (by simp [hL]) ?_ hR
    · intro v A' W' hA hR'
      refine hK _ _ _ ⟨updF us k v, hA.trans (putF_upd ds A0 us k v hds (by omega)), ?_⟩
      have : (fun j => (j == k || L j) && decide (j < ds.length)) = fun j => j == k || (L j && decide (j < ds.length)) := by
        funext j
        by_cases hj : j = k
        · subst hj; simp; omega
        · rw [show (j == k) = false from beq_false_of_ne hj, Bool.false_or, Bool.false_or]
      rw [this]
      exact hR'
    · have hb1 := hb.1
      rw [Array.all_eq_true'] at hd hb1 ⊢
      intro e he
      have h1 := hd e he
      have h2 := hb1 e he
      simp only [Bool.or_eq_true, Bool.not_eq_true', Bool.and_eq_true, decide_eq_true_eq] at h1 h2 ⊢
      rcases h1 with h1 | h1
      · exact .inl h1
      · rcases h2 with h2 | h2
        · exact .inl h2
        · exact .inr ⟨h1, by omega⟩

/-- A REGION THAT DRAWS ITS ORDER, by an invariant on the operations done, their values and the world. -/
theorem wp_region_by {id : Nat} {l : List Oper} {A0 : Act} {w : World} (hm : P.follows .mixedOrders = true) (hb : backB 0 l = true) (ds : List (Option Nat)) (hl : l.length = ds.length) (hds : (ds.filterMap _root_.id).Nodup)
    (R : (Nat → Bool) → (Nat → Value) → World → Prop) (us0 : Nat → Value) (hus : putF A0 ds us0 = A0) (h0 : R (fun _ => false) us0 w.drew)
    (hs : BySteps P l.toArray Q A0 ds R 0 l) (hend : ∀ (L : Nat → Bool) us W, (∀ j, j < ds.length → L j = true) → R L us W → Q .normal (putF A0 ds us) W) : (Code.region id l.toArray true).wp P Q A0 w := by
  refine wp_region_inv hm hb (fun L a w => ∃ us, a = putF A0 ds us ∧ R (fun j => L j && decide (j < ds.length)) us w) ⟨us0, hus.symm, ?_⟩ ?_ (fun K hK => BySteps.reg hds (by omega) hb hs K hK) ?_
  · simpa using h0
  · rintro L L' hL a w ⟨us, ha, hR⟩
    refine ⟨us, ha, ?_⟩
    have : (fun j => L j && decide (j < ds.length)) = fun j => L' j && decide (j < ds.length) := by
      funext j
      by_cases hj : j < ds.length
      · rw [hL j (by omega)]
      · simp [hj]
    rw [← this]
    exact hR
  · rintro a w ⟨us, rfl, hR⟩
    exact hend _ us w (by intro j hj; simp [hj]) hR

/-- each operation, from the values of those that it waits for, in any grown world: a value with its predicate, and a grown world -/
def PtSteps (P : Program) (ops : Array Oper) (Q : Exit → Act → World → Prop) (A0 : Act) (ds : List (Option Nat)) (B : World) (Pr : Nat → World → Value → Prop) : Nat → List Oper → Prop
  | _, [] => True
  | k, o :: rest => (∀ (K : Act → World → Prop) (us : Nat → Value) (W : World),
      (∀ v A' W', A' = (putF A0 ds us).put (ds.getD k none) v → Below W.heap.size W W' → Pr k W' v → K A' W') → Below B.heap.size B W →
      (∀ e ∈ o.after, Region.binds .any e = true → Pr e.on W (us e.on)) → wpList P ops (Exit.then K Q) [o] (putF A0 ds us) W) ∧ PtSteps P ops Q A0 ds B Pr (k + 1) rest

theorem PtSteps.by {ops : Array Oper} {A0 : Act} {ds : List (Option Nat)} {B : World} {Pr : Nat → World → Value → Prop} (hPr : ∀ j W W' v, Below W.heap.size W W' → Pr j W v → Pr j W' v) : ∀ {l : List Oper} {k : Nat},
    PtSteps P ops Q A0 ds B Pr k l → BySteps P ops Q A0 ds (fun L us W => Below B.heap.size B W ∧ ∀ j, L j = true → Pr j W (us j)) k l
  | [], _, _ => trivial
  | o :: rest, k, hs => by
    refine ⟨?_, PtSteps.by hPr hs.2⟩
    intro K L us W hK hL hd hR
    refine hs.1 K us W ?_ hR.1 ?_
    · intro v A' W' hA hB hv
      refine hK v A' W' hA ⟨hR.1.trans (hB.mono hR.1.size), ?_⟩
      intro j hj
      by_cases hjk : j = k
      · subst hjk; simpa [updF] using hv
      · simp only [updF, hjk, if_false]
        exact hPr j W W' _ hB (hR.2 j (by simpa [hjk] using hj))
    · intro e he hbi
      rw [Array.all_eq_true'] at hd
      have := hd e he
      rw [hbi] at this
      exact hR.2 e.on (by simpa using this)

/-- the same, one predicate for each operation's value -/
theorem wp_region_pt {id : Nat} {l : List Oper} {A0 : Act} {w : World} (hm : P.follows .mixedOrders = true) (hb : backB 0 l = true) (ds : List (Option Nat)) (hl : l.length = ds.length) (hds : (ds.filterMap _root_.id).Nodup)
    (Pr : Nat → World → Value → Prop) (hPr : ∀ j W W' v, Below W.heap.size W W' → Pr j W v → Pr j W' v) (us0 : Nat → Value) (hus : putF A0 ds us0 = A0)
    (hs : PtSteps P l.toArray Q A0 ds w Pr 0 l) (hend : ∀ us W, Below w.heap.size w W → (∀ j, j < ds.length → Pr j W (us j)) → Q .normal (putF A0 ds us) W) : (Code.region id l.toArray true).wp P Q A0 w :=
  wp_region_by hm hb ds hl hds (fun L us W => Below w.heap.size w W ∧ ∀ j, L j = true → Pr j W (us j)) us0 hus ⟨(Below.refl _ _).drew, by simp⟩ (hs.by hPr)
    (fun L us W hL hR => hend us W hR.1 (fun j hj => hR.2 j (hL j hj)))
/-- a predicate on a value that stays when the world grows -/
def Stb (p : World → Value → Prop) : Prop := ∀ W W' v, Below W.heap.size W W' → p W v → p W' v
def StbL : List (World → Value → Prop) → Prop
  | [] => True
  | p :: l => Stb p ∧ StbL l
theorem StbL.at : ∀ {l : List (World → Value → Prop)}, StbL l → ∀ j W W' v, Below W.heap.size W W' → l.getD j (fun _ _ => True) W v → l.getD j (fun _ _ => True) W' v
  | [], _, j, W, W', v, _, _ => by simp
  | p :: l, h, 0, W, W', v, hB, hp => h.1 W W' v hB hp
  | p :: l, h, j + 1, W, W', v, hB, hp => StbL.at h.2 j W W' v hB hp
/-- the value is this one -/
def IsV (x : Value) (_ : World) (v : Value) : Prop := v = x
theorem IsV.stb (x : Value) : Stb (IsV x) := fun _ _ _ _ h => h
/-- the same by a list of predicates, one for each operation -/
theorem wp_region_pl {id : Nat} {l : List Oper} {A0 : Act} {w : World} (hm : P.follows .mixedOrders = true) (hb : backB 0 l = true) (ds : List (Option Nat)) (hl : l.length = ds.length) (hds : (ds.filterMap _root_.id).Nodup)
    (ps : List (World → Value → Prop)) (hps : StbL ps)
    (hs : PtSteps P l.toArray Q A0 ds w (fun j => ps.getD j (fun _ _ => True)) 0 l) (hend : ∀ us W, Below w.heap.size w W → (∀ j, j < ds.length → ps.getD j (fun _ _ => True) W (us j)) → Q .normal (putF A0 ds us) W) : (Code.region id l.toArray true).wp P Q A0 w :=
  wp_region_pt hm hb ds hl hds _ hps.at (selfF A0 ds) (putF_self A0 ds) hs hend
end
end Go.Proofs.Yteoikaedpgianaa
