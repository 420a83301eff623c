/- A region that draws its order, by what is known of each operation that has been carried out: whatever the order. For whatever program. A region that draws its order, by an invariant over the operations done, the values that they have left and the world. For whatever program. A region that draws its order, in two parts: operations that only add to the world, and behind all of them others (stores). For whatever program. A region that draws its order, in two parts, with a relation between the values besides. For whatever program. A region that draws its order, whose last operation waits for all others: the first ones by one predicate each, then the last one and what follows. For whatever program. A region that draws its order, whose last operations come one behind the other, each behind all that stand ahead of it: the first ones by one predicate each, the last ones in the text's order. For whatever program. Drawn regions whose operations are plain values but for some, which go on from stage to stage (out of seat 2's DiskR). -/
import Derived.Test.YteoikaedpgianaaRAid
import Derived.Orders
namespace Go.Proofs.Yteoikaedpgianaa
open Go.RowKit

/-- Each operation of the list, met when those that it waits for have been carried out, keeps J. -/
def RegSteps (P : Program) (ops : Array Oper) (Q : Exit → Act → World → Prop) (S J : (Nat → Bool) → Act → World → Prop) : Nat → List Oper → Prop
  | _, [] => True
  | k, o :: rest => (∀ L : Nat → Bool, L k = false → (o.after.all fun e => !Region.binds .any e || L e.on) = true → ∀ a w, S L a w →
      wpList P ops (Exit.then (J fun j => j == k || L j) Q) [o] a w) ∧ RegSteps P ops Q S J (k + 1) rest
/-- Every edge leads back. -/
def backB : Nat → List Oper → Bool
  | _, [] => true
  | k, o :: rest => (o.after.all fun e => !Region.binds .any e || decide (e.on < k)) && backB (k + 1) rest

section
variable {P : Program} {Q : Exit → Act → World → Prop} {J : (Nat → Bool) → Act → World → Prop}

theorem RegSteps.at {ops : Array Oper} : ∀ {l : List Oper} {k : Nat}, RegSteps P ops Q J J k l → ∀ {i : Nat} {o : Oper}, l[i]? = some o → ∀ L : Nat → Bool, L (k + i) = false →
    (o.after.all fun e => !Region.binds .any e || L e.on) = true → ∀ a w, J L a w → wpList P ops (Exit.then (J fun j => j == k + i || L j) Q) [o] a w
  | [], _, _, i, o, h => by simp at h
  | x :: l, k, hs, 0, o, h => by
    simp at h; subst h
    exact hs.1
  | x :: l, k, hs, i + 1, o, h => by
    have := RegSteps.at hs.2 (i := i) (o := o) (by simpa using h)
    rwa [show k + 1 + i = k + (i + 1) from by omega] at this
theorem backB.at : ∀ {l : List Oper} {k : Nat}, backB k l = true → ∀ {i : Nat} {o : Oper}, l[i]? = some o → (o.after.all fun e => !Region.binds .any e || decide (e.on < k + i)) = true
  | [], _, _, i, o, h => by simp at h
  | x :: l, k, hb, 0, o, h => by
    simp at h; subst h
    simp only [backB, Bool.and_eq_true] at hb
    exact hb.1
  | x :: l, k, hb, i + 1, o, h => by
    simp only [backB, Bool.and_eq_true] at hb
    have := backB.at hb.2 (i := i) (o := o) (by simpa using h)
    rwa [show k + 1 + i = k + (i + 1) from by omega] at this

theorem Oper.wp_then {o : Oper} {a : Act} {w : World} {N : Act → World → Prop} {K : Act → World → Prop} (h : o.wp P a w N (Exit.then K Q)) : o.wp P a w N Q := by
  unfold Oper.wp at *
  generalize (execOp a.eval o).run P w = r at *
  cases r with
  | ok n w' => cases n <;> exact h
  | halt x w' => cases x <;> exact h

theorem wpOp_of_list {l : List Oper} {i : Nat} {o : Oper} {K : Act → World → Prop} {a : Act} {w : World} (ho : l.toArray[i]? = some o)
    (h : wpList P l.toArray (Exit.then K Q) [o] a w) : wpOp P l.toArray Q i K a w := by
  unfold wpOp
  rw [ho]
  simp only [wpList] at h ⊢
  split
  · rename_i hw
    rw [if_pos hw] at h
    rcases h with h | ⟨h1, h2⟩
    · exact .inl (Oper.wp_then h)
    · obtain ⟨a', w', hq⟩ := h2
      exact .inr ⟨h1, a', w', hq⟩
  · rename_i hw
    rw [if_neg hw] at h
    exact h

/-- how many are not yet listed -/
def unlisted (listed : Array Bool) : Nat := listed.toList.countP (!·)

theorem wpAny_inv {l : List Oper} (hs : RegSteps P l.toArray Q J J 0 l) (hb : backB 0 l = true)
    (hJ : ∀ L L' : Nat → Bool, (∀ j, j < l.length → L j = L' j) → ∀ a w, J L a w → J L' a w)
    (hend : ∀ a w, J (fun _ => true) a w → Q .normal a w) : ∀ (fuel : Nat) (listed : Array Bool) (a : Act) (w : World), listed.size = l.length → unlisted listed ≤ fuel → J (fun j => listed.getD j false) a w →
    wpAny P .any l.toArray Q fuel listed a w := by
  have hready : ∀ (listed : Array Bool), listed.size = l.length → Region.ready .any l.toArray listed = [] → ∀ j, j < l.length → listed.getD j false = true := by
    intro listed hsz hr j
    induction j using Nat.strongRecOn with
    | _ j ih =>
      intro hj
      cases hc : listed.getD j false with
      | true => rfl
      | false =>
        exfalso
        have hmem : j ∈ Region.ready .any l.toArray listed := by
          unfold Region.ready
          rw [List.mem_filter]
          refine ⟨by simpa using hj, ?_⟩
          have hlj : l.toArray[j]? = some l[j] := by simp [hj]
          have hgt : listed.getD j true = false := by
            rw [Array.getD_eq_getD_getElem?] at hc ⊢
            rw [Array.getElem?_eq_getElem (by omega)] at hc ⊢
            exact hc
          rw [hgt, hlj]
          simp only [Bool.not_false, Bool.true_and, Option.map_some, Option.getD_some]
          have hbj := backB.at hb (i := j) (o := l[j]) (by simp [hj])
          rw [Array.all_eq_true'] at hbj ⊢
          intro e he
          have := hbj e he
          simp only [Bool.or_eq_true, Bool.not_eq_true', decide_eq_true_eq] at this ⊢
          rcases this with h1 | h1
          · exact .inl h1
          · exact .inr (ih e.on (by omega) (by omega))
        rw [hr] at hmem
        simp at hmem
  have hall : ∀ (listed : Array Bool) (a : Act) (w : World), listed.size = l.length → Region.ready .any l.toArray listed = [] → J (fun j => listed.getD j false) a w → Q .normal a w :=
    fun listed a w hsz hr hj => hend a w (hJ _ _ (fun j h => hready listed hsz hr j h) a w hj)
  intro fuel
  induction fuel with
  | zero =>
    intro listed a w hsz hu hj
    have hr : Region.ready .any l.toArray listed = [] := by
      unfold Region.ready
      rw [List.filter_eq_nil_iff]
      intro i hi
      have hil : i < l.length := by simpa using hi
      have hcount : listed.toList.countP (!·) = 0 := by unfold unlisted at hu; omega
      rw [List.countP_eq_zero] at hcount
      have := hcount listed[i] (by simp)
      rw [Array.getD_eq_getD_getElem?, Array.getElem?_eq_getElem (by omega)]
      simp at this
      simp [this]
    exact ⟨hr, hall listed a w hsz hr hj⟩
  | succ fuel ih =>
    intro listed a w hsz hu hj
    refine ⟨fun hr => hall listed a w hsz hr hj, ?_⟩
    intro i hi
    unfold Region.ready at hi
    rw [List.mem_filter] at hi
    obtain ⟨hi1, hi2⟩ := hi
    have hil : i < l.length := by simpa using hi1
    have hli : l.toArray[i]? = some l[i] := by simp [hil]
    rw [hli] at hi2
    simp only [Bool.and_eq_true, Option.map_some, Option.getD_some, Bool.not_eq_true'] at hi2
    obtain ⟨hn, hd⟩ := hi2
    have hget : listed[i]'(by omega) = false := by
      rw [Array.getD_eq_getD_getElem?, Array.getElem?_eq_getElem (by omega)] at hn
      exact hn
    have hLi : (fun j => listed.getD j false) (0 + i) = false := by
      simp only [Nat.zero_add]
      rw [Array.getD_eq_getD_getElem?, Array.getElem?_eq_getElem (by omega)]
      exact hget
    have hstep := RegSteps.at hs (i := i) (o := l[i]) (by simp [hil]) (fun j => listed.getD j false) hLi hd a w hj
    refine wpOp_mono ?_ (wpOp_of_list hli hstep)
    intro a' w' hJ'
    refine ih _ _ _ (by simpa using hsz) ?_ (hJ _ _ ?_ _ _ hJ')
    · unfold unlisted at hu ⊢
      rw [Array.toList_setIfInBounds]
      have hlen : i < listed.toList.length := by simpa using (by omega : i < listed.size)
      have := List.countP_set (p := (!·)) (l := listed.toList) (i := i) (a := true) hlen
      have hgi : listed.toList[i] = false := by simpa using hget
      have hpos : 0 < listed.toList.countP (!·) := by
        rw [List.countP_pos_iff]
        exact ⟨listed.toList[i], List.getElem_mem hlen, by rw [hgi]; rfl⟩
      have e1 : (if (!listed.toList[i]) = true then 1 else 0) = 1 := by rw [hgi]; rfl
      have e2 : (if (!true) = true then 1 else 0) = 0 := rfl
      rw [e1, e2] at this
      rw [this]
      omega
    · intro j hjl
      simp only [Nat.zero_add]
      have hlt : j < listed.size := by omega
      by_cases hji : j = i
      · subst hji
        simp [hlt]
      · simp [hlt, hji, Ne.symm hji]

/-- A REGION THAT DRAWS ITS ORDER, by what each operation that has been carried out leaves. -/
theorem wp_region_inv {id : Nat} {l : List Oper} {a : Act} {w : World} (hm : P.follows .mixedOrders = true) (hb : backB 0 l = true) (J : (Nat → Bool) → Act → World → Prop)
    (h0 : J (fun _ => false) a w.drew) (hJ : ∀ L L' : Nat → Bool, (∀ j, j < l.length → L j = L' j) → ∀ a w, J L a w → J L' a w)
    (hs : ∀ K : (Nat → Bool) → Act → World → Prop, (∀ L a w, J L a w → K L a w) → RegSteps P l.toArray Q J K 0 l) (hend : ∀ a w, J (fun _ => true) a w → Q .normal a w) : (Code.region id l.toArray true).wp P Q a w := by
  have hs := hs J (fun _ _ _ h => h)
  refine wp_region_any hm (wpAny_inv hs hb hJ hend _ _ _ _ (by simp) ?_ (hJ _ _ ?_ _ _ h0))
  · unfold unlisted
    simp only [Array.toList_replicate, List.size_toArray]
    exact Nat.le_trans (List.countP_le_length) (by simp)
  · intro j hj
    rw [Array.getD_eq_getD_getElem?, Array.getElem?_replicate]
    simp [hj]
end
end Go.Proofs.Yteoikaedpgianaa
namespace Go.Proofs.Yteoikaedpgianaa
open Go.RowKit

/-- a frame with these slots put -/
def putF (A : Act) : List (Option Nat) → (Nat → Value) → Act
  | [], _ => A
  | d :: ds, us => putF (A.put d (us 0)) ds (fun j => us (j + 1))
def updF (us : Nat → Value) (k : Nat) (v : Value) : Nat → Value := fun j => if j = k then v else us j
theorem put_comm (A : Act) {d e : Nat} (h : d ≠ e) (v u : Value) : (A.put (some d) v).put (some e) u = (A.put (some e) u).put (some d) v := by
  simp only [Act.put, Act.mk.injEq, and_true]
  exact Array.setIfInBounds_comm v u h
theorem put_twice (A : Act) (d : Nat) (v u : Value) : (A.put (some d) v).put (some d) u = A.put (some d) u := by
  simp [Act.put]
theorem putF_put : ∀ (ds : List (Option Nat)) (A : Act) (us : Nat → Value) (d : Nat) (v : Value), some d ∉ ds → (putF A ds us).put (some d) v = putF (A.put (some d) v) ds us
  | [], A, us, d, v, _ => rfl
  | none :: ds, A, us, d, v, h => by
    simp only [List.mem_cons, not_or] at h
    exact putF_put ds A _ d v h.2
  | some e :: ds, A, us, d, v, h => by
    simp only [List.mem_cons, not_or] at h
    show (putF (A.put (some e) (us 0)) ds _).put (some d) v = putF ((A.put (some d) v).put (some e) (us 0)) ds _
    rw [putF_put ds _ _ d v h.2, put_comm A (fun hh => h.1 (by rw [hh]))]
theorem putF_upd : ∀ (ds : List (Option Nat)) (A : Act) (us : Nat → Value) (k : Nat) (v : Value), (ds.filterMap id).Nodup → k < ds.length → (putF A ds us).put (ds.getD k none) v = putF A ds (updF us k v)
  | [], _, _, _, _, _, h => by simp at h
  | none :: ds, A, us, 0, v, hd, _ => by
    show putF A ds _ = putF A ds _
    congr 1
  | some e :: ds, A, us, 0, v, hd, _ => by
    simp only [List.filterMap_cons, id, List.nodup_cons, List.mem_filterMap] at hd
    show (putF (A.put (some e) (us 0)) ds _).put (some e) v = putF (A.put (some e) v) ds _
    rw [putF_put ds _ _ e v (fun h => hd.1 ⟨_, h, rfl⟩), put_twice]
    congr 1
  | d :: ds, A, us, k + 1, v, hd, hk => by
    have hd' : (ds.filterMap id).Nodup := by
      cases d with
      | none => simpa using hd
      | some e => simp only [List.filterMap_cons, id, List.nodup_cons] at hd; exact hd.2
    show (putF (A.put d (us 0)) ds _).put (ds.getD k none) v = putF (A.put d (us 0)) ds _
    rw [putF_upd ds _ _ k v hd' (by simpa using hk)]
    congr 1
    funext j
    simp [updF]

theorem put_self (A : Act) (d : Nat) : A.put (some d) (A.tmps.getD d undef) = A := by
  cases A with
  | mk tmps defers =>
    simp only [Act.put, Act.mk.injEq, and_true]
    apply Array.ext
    · simp
    · intro i h1 h2
      rw [Array.getElem_setIfInBounds]
      split
      · rename_i h
        subst h
        rw [Array.getD_eq_getD_getElem?, Array.getElem?_eq_getElem h2]
        rfl
      · rfl
/-- the values that the frame's slots hold -/
def selfF (A : Act) (ds : List (Option Nat)) : Nat → Value := fun j => match ds.getD j none with
  | some d => A.tmps.getD d undef
  | none => undef
theorem putF_self (A : Act) : ∀ (ds : List (Option Nat)), putF A ds (selfF A ds) = A
  | [] => rfl
  | none :: ds => putF_self A ds
  | some d :: ds => by
    show putF (A.put (some d) (A.tmps.getD d undef)) ds (selfF A ds) = A
    rw [put_self]
    exact putF_self A ds

section
variable {P : Program} {Q : Exit → Act → World → Prop}
/-- Each operation of the list, met when those that it waits for are done, keeps R. -/
def BySteps (P : Program) (ops : Array Oper) (Q : Exit → Act → World → Prop) (A0 : Act) (ds : List (Option Nat)) (R : (Nat → Bool) → (Nat → Value) → World → Prop) : Nat → List Oper → Prop
  | _, [] => True
  | k, o :: rest => (∀ (K : Act → World → Prop) (L : Nat → Bool) (us : Nat → Value) (W : World),
      (∀ v A' W', A' = (putF A0 ds us).put (ds.getD k none) v → R (fun j => j == k || L j) (updF us k v) W' → K A' W') → L k = false →
      (o.after.all fun e => !Region.binds .any e || L e.on) = true → R L us W → wpList P ops (Exit.then K Q) [o] (putF A0 ds us) W) ∧ BySteps P ops Q A0 ds R (k + 1) rest

theorem BySteps.reg {ops : Array Oper} {A0 : Act} {ds : List (Option Nat)} {R : (Nat → Bool) → (Nat → Value) → World → Prop} (hds : (ds.filterMap id).Nodup) : ∀ {l : List Oper} {k : Nat}, k + l.length = ds.length → backB k l = true →
    BySteps P ops Q A0 ds R k l → ∀ K : (Nat → Bool) → Act → World → Prop, (∀ L a w, (∃ us, a = putF A0 ds us ∧ R (fun j => L j && decide (j < ds.length)) us w) → K L a w) →
    RegSteps P ops Q (fun L a w => ∃ us, a = putF A0 ds us ∧ R (fun j => L j && decide (j < ds.length)) us w) K k l
  | [], _, _, _, _, _, _ => trivial
  | o :: rest, k, hl, hb, hs, K, hK => by
    simp only [List.length_cons] at hl
    simp only [backB, Bool.and_eq_true] at hb
    refine ⟨?_, BySteps.reg hds (by omega) hb.2 hs.2 K hK⟩
    rintro L hL hd a w ⟨us, rfl, hR⟩
    refine hs.1 (K fun j => j == k || L j) (fun j => L j && decide (j < ds.length)) us w ?_ (by simp [hL]) ?_ hR
    · intro v A' W' hA hR'
      refine hK _ _ _ ⟨updF us k v, hA.trans (putF_upd ds A0 us k v hds (by omega)), ?_⟩
      have : (fun j => (j == k || L j) && decide (j < ds.length)) = fun j => j == k || (L j && decide (j < ds.length)) := by
        funext j
        by_cases hj : j = k
        · subst hj; simp; omega
        · rw [show (j == k) = false from beq_false_of_ne hj, Bool.false_or, Bool.false_or]
      rw [this]
      exact hR'
    · have hb1 := hb.1
      rw [Array.all_eq_true'] at hd hb1 ⊢
      intro e he
      have h1 := hd e he
      have h2 := hb1 e he
      simp only [Bool.or_eq_true, Bool.not_eq_true', Bool.and_eq_true, decide_eq_true_eq] at h1 h2 ⊢
      rcases h1 with h1 | h1
      · exact .inl h1
      · rcases h2 with h2 | h2
        · exact .inl h2
        · exact .inr ⟨h1, by omega⟩

/-- A REGION THAT DRAWS ITS ORDER, by an invariant on the operations done, their values and the world. -/
theorem wp_region_by {id : Nat} {l : List Oper} {A0 : Act} {w : World} (hm : P.follows .mixedOrders = true) (hb : backB 0 l = true) (ds : List (Option Nat)) (hl : l.length = ds.length) (hds : (ds.filterMap _root_.id).Nodup)
    (R : (Nat → Bool) → (Nat → Value) → World → Prop) (us0 : Nat → Value) (hus : putF A0 ds us0 = A0) (h0 : R (fun _ => false) us0 w.drew)
    (hs : BySteps P l.toArray Q A0 ds R 0 l) (hend : ∀ (L : Nat → Bool) us W, (∀ j, j < ds.length → L j = true) → R L us W → Q .normal (putF A0 ds us) W) : (Code.region id l.toArray true).wp P Q A0 w := by
  refine wp_region_inv hm hb (fun L a w => ∃ us, a = putF A0 ds us ∧ R (fun j => L j && decide (j < ds.length)) us w) ⟨us0, hus.symm, ?_⟩ ?_ (fun K hK => BySteps.reg hds (by omega) hb hs K hK) ?_
  · simpa using h0
  · rintro L L' hL a w ⟨us, ha, hR⟩
    refine ⟨us, ha, ?_⟩
    have : (fun j => L j && decide (j < ds.length)) = fun j => L' j && decide (j < ds.length) := by
      funext j
      by_cases hj : j < ds.length
      · rw [hL j (by omega)]
      · simp [hj]
    rw [← this]
    exact hR
  · rintro a w ⟨us, rfl, hR⟩
    exact hend _ us w (by intro j hj; simp [hj]) hR

/-- each operation, from the values of those that it waits for, in any grown world: a value with its predicate, and a grown world -/
def PtSteps (P : Program) (ops : Array Oper) (Q : Exit → Act → World → Prop) (A0 : Act) (ds : List (Option Nat)) (B : World) (Pr : Nat → World → Value → Prop) : Nat → List Oper → Prop
  | _, [] => True
  | k, o :: rest => (∀ (K : Act → World → Prop) (us : Nat → Value) (W : World),
      (∀ v A' W', A' = (putF A0 ds us).put (ds.getD k none) v → Below W.heap.size W W' → Pr k W' v → K A' W') → Below B.heap.size B W →
      (∀ e ∈ o.after, Region.binds .any e = true → Pr e.on W (us e.on)) → wpList P ops (Exit.then K Q) [o] (putF A0 ds us) W) ∧ PtSteps P ops Q A0 ds B Pr (k + 1) rest

theorem PtSteps.by {ops : Array Oper} {A0 : Act} {ds : List (Option Nat)} {B : World} {Pr : Nat → World → Value → Prop} (hPr : ∀ j W W' v, Below W.heap.size W W' → Pr j W v → Pr j W' v) : ∀ {l : List Oper} {k : Nat},
    PtSteps P ops Q A0 ds B Pr k l → BySteps P ops Q A0 ds (fun L us W => Below B.heap.size B W ∧ ∀ j, L j = true → Pr j W (us j)) k l
  | [], _, _ => trivial
  | o :: rest, k, hs => by
    refine ⟨?_, PtSteps.by hPr hs.2⟩
    intro K L us W hK hL hd hR
    refine hs.1 K us W ?_ hR.1 ?_
    · intro v A' W' hA hB hv
      refine hK v A' W' hA ⟨hR.1.trans (hB.mono hR.1.size), ?_⟩
      intro j hj
      by_cases hjk : j = k
      · subst hjk; simpa [updF] using hv
      · simp only [updF, hjk, if_false]
        exact hPr j W W' _ hB (hR.2 j (by simpa [hjk] using hj))
    · intro e he hbi
      rw [Array.all_eq_true'] at hd
      have := hd e he
      rw [hbi] at this
      exact hR.2 e.on (by simpa using this)

/-- the same, one predicate for each operation's value -/
theorem wp_region_pt {id : Nat} {l : List Oper} {A0 : Act} {w : World} (hm : P.follows .mixedOrders = true) (hb : backB 0 l = true) (ds : List (Option Nat)) (hl : l.length = ds.length) (hds : (ds.filterMap _root_.id).Nodup)
    (Pr : Nat → World → Value → Prop) (hPr : ∀ j W W' v, Below W.heap.size W W' → Pr j W v → Pr j W' v) (us0 : Nat → Value) (hus : putF A0 ds us0 = A0)
    (hs : PtSteps P l.toArray Q A0 ds w Pr 0 l) (hend : ∀ us W, Below w.heap.size w W → (∀ j, j < ds.length → Pr j W (us j)) → Q .normal (putF A0 ds us) W) : (Code.region id l.toArray true).wp P Q A0 w :=
  wp_region_by hm hb ds hl hds (fun L us W => Below w.heap.size w W ∧ ∀ j, L j = true → Pr j W (us j)) us0 hus ⟨(Below.refl _ _).drew, by simp⟩ (hs.by hPr)
    (fun L us W hL hR => hend us W hR.1 (fun j hj => hR.2 j (hL j hj)))
/-- a predicate on a value that stays when the world grows -/
def Stb (p : World → Value → Prop) : Prop := ∀ W W' v, Below W.heap.size W W' → p W v → p W' v
def StbL : List (World → Value → Prop) → Prop
  | [] => True
  | p :: l => Stb p ∧ StbL l
theorem StbL.at : ∀ {l : List (World → Value → Prop)}, StbL l → ∀ j W W' v, Below W.heap.size W W' → l.getD j (fun _ _ => True) W v → l.getD j (fun _ _ => True) W' v
  | [], _, j, W, W', v, _, _ => by simp
  | p :: l, h, 0, W, W', v, hB, hp => h.1 W W' v hB hp
  | p :: l, h, j + 1, W, W', v, hB, hp => StbL.at h.2 j W W' v hB hp
/-- the value is this one -/
def IsV (x : Value) (_ : World) (v : Value) : Prop := v = x
theorem IsV.stb (x : Value) : Stb (IsV x) := fun _ _ _ _ h => h
/-- the same by a list of predicates, one for each operation -/
theorem wp_region_pl {id : Nat} {l : List Oper} {A0 : Act} {w : World} (hm : P.follows .mixedOrders = true) (hb : backB 0 l = true) (ds : List (Option Nat)) (hl : l.length = ds.length) (hds : (ds.filterMap _root_.id).Nodup)
    (ps : List (World → Value → Prop)) (hps : StbL ps)
    (hs : PtSteps P l.toArray Q A0 ds w (fun j => ps.getD j (fun _ _ => True)) 0 l) (hend : ∀ us W, Below w.heap.size w W → (∀ j, j < ds.length → ps.getD j (fun _ _ => True) W (us j)) → Q .normal (putF A0 ds us) W) : (Code.region id l.toArray true).wp P Q A0 w :=
  wp_region_pt hm hb ds hl hds _ hps.at (selfF A0 ds) (putF_self A0 ds) hs hend
end
end Go.Proofs.Yteoikaedpgianaa
namespace Go.Proofs.Yteoikaedpgianaa
open Go.RowKit

/-- each operation waits for all of the first c -/
def covers (c : Nat) (l : List Oper) : Bool := l.all fun o => (List.range c).all fun j => o.after.any fun e => Region.binds .any e && e.on == j
section
variable {P : Program} {Q : Exit → Act → World → Prop}
theorem BySteps.append {ops : Array Oper} {A0 : Act} {ds : List (Option Nat)} {R : (Nat → Bool) → (Nat → Value) → World → Prop} : ∀ {l1 l2 : List Oper} {k : Nat},
    BySteps P ops Q A0 ds R k l1 → BySteps P ops Q A0 ds R (k + l1.length) l2 → BySteps P ops Q A0 ds R k (l1 ++ l2)
  | [], l2, k, _, h2 => h2
  | o :: l1, l2, k, h1, h2 => ⟨h1.1, BySteps.append h1.2 (by rw [show k + 1 + l1.length = k + (o :: l1).length by simp; omega]; exact h2)⟩

theorem two_first {ops : Array Oper} {A0 : Act} {ds : List (Option Nat)} {B : World} {Pr : Nat → World → Value → Prop} (hPr : ∀ j W W' v, Below W.heap.size W W' → Pr j W v → Pr j W' v) (c : Nat)
    (R2 : (Nat → Bool) → (Nat → Value) → World → Prop) : ∀ {l : List Oper} {k : Nat}, k + l.length ≤ c → backB k l = true → PtSteps P ops Q A0 ds B Pr k l →
    BySteps P ops Q A0 ds (fun L us W => ((∀ j, c ≤ j → j < ds.length → L j = false) ∧ Below B.heap.size B W ∧ ∀ j, j < c → L j = true → Pr j W (us j)) ∨ ((∀ j, j < c → L j = true) ∧ R2 L us W)) k l
  | [], _, _, _, _ => trivial
  | o :: rest, k, hl, hb, hs => by
    simp only [List.length_cons] at hl
    simp only [backB, Bool.and_eq_true] at hb
    refine ⟨?_, two_first hPr c R2 (by omega) hb.2 hs.2⟩
    intro K L us W hK hL hd hR
    rcases hR with ⟨hn, hB, hp⟩ | ⟨ha, _⟩
    · have hdep : ∀ e ∈ o.after, Region.binds .any e = true → L e.on = true := by
        intro e he hbi
        rw [Array.all_eq_true'] at hd
        have := hd e he
        rw [hbi] at this
        simpa using this
      have hlt : ∀ e ∈ o.after, Region.binds .any e = true → e.on < k := by
        intro e he hbi
        have hb1 := hb.1
        rw [Array.all_eq_true'] at hb1
        have := hb1 e he
        rw [hbi] at this
        simpa using this
      refine hs.1 K us W ?_ hB ?_
      · intro v A' W' hA hB' hv
        refine hK v A' W' hA (Or.inl ⟨?_, hB.trans (hB'.mono hB.size), ?_⟩)
        · intro j hj hjn
          have h1 := hn j hj hjn
          simp [h1]
          omega
        · intro j hjc hj
          by_cases hjk : j = k
          · subst hjk; simpa [updF] using hv
          · simp only [updF, hjk, if_false]
            exact hPr j W W' _ hB' (hp j hjc (by simpa [hjk] using hj))
      · intro e he hbi
        have := hlt e he hbi
        exact hp e.on (by omega) (hdep e he hbi)
    · rw [ha k (by omega)] at hL
      cases hL
theorem two_last {ops : Array Oper} {A0 : Act} {ds : List (Option Nat)} {B : World} {Pr : Nat → World → Value → Prop} (c : Nat)
    (R2 : (Nat → Bool) → (Nat → Value) → World → Prop)
    (h12 : ∀ L us W, (∀ j, j < c → L j = true) → (∀ j, c ≤ j → j < ds.length → L j = false) → Below B.heap.size B W → (∀ j, j < c → Pr j W (us j)) → R2 L us W) : ∀ {l : List Oper} {k : Nat}, covers c l = true →
    BySteps P ops Q A0 ds R2 k l →
    BySteps P ops Q A0 ds (fun L us W => ((∀ j, c ≤ j → j < ds.length → L j = false) ∧ Below B.heap.size B W ∧ ∀ j, j < c → L j = true → Pr j W (us j)) ∨ ((∀ j, j < c → L j = true) ∧ R2 L us W)) k l
  | [], _, _, _ => trivial
  | o :: rest, k, hc, hs => by
    simp only [covers, List.all_cons, Bool.and_eq_true] at hc
    refine ⟨?_, two_last c R2 h12 hc.2 hs.2⟩
    intro K L us W hK hL hd hR
    have hall : ∀ j, j < c → L j = true := by
      intro j hj
      have h1 := hc.1
      rw [List.all_eq_true] at h1
      have h2 := h1 j (List.mem_range.2 hj)
      rw [Array.any_eq_true'] at h2
      obtain ⟨e, he, h3⟩ := h2
      simp only [Bool.and_eq_true, beq_iff_eq] at h3
      rw [Array.all_eq_true'] at hd
      have h4 := hd e he
      rw [h3.1, h3.2] at h4
      simpa using h4
    have hR2 : R2 L us W := by
      rcases hR with ⟨hn, hB, hp⟩ | ⟨_, h⟩
      · exact h12 L us W hall hn hB (fun j hj => hp j hj (hall j hj))
      · exact h
    refine hs.1 K L us W ?_ hL hd hR2
    intro v A' W' hA hR'
    exact hK v A' W' hA (Or.inr ⟨fun j hj => by simp [hall j hj], hR'⟩)

/-- A REGION THAT DRAWS ITS ORDER, IN TWO PARTS: the first c operations by one predicate each, those behind all of them by an invariant. -/
theorem wp_region_two {id : Nat} {l : List Oper} {A0 : Act} {w : World} (hm : P.follows .mixedOrders = true) (hb : backB 0 l = true) (ds : List (Option Nat)) (hl : l.length = ds.length) (hds : (ds.filterMap _root_.id).Nodup)
    (c : Nat) (hcl : (l.take c).length ≤ c) (hb1 : backB 0 (l.take c) = true) (hcov : covers c (l.drop c) = true) (ps : List (World → Value → Prop)) (hps : StbL ps)
    (R2 : (Nat → Bool) → (Nat → Value) → World → Prop)
    (h12 : ∀ L us W, (∀ j, j < c → L j = true) → (∀ j, c ≤ j → j < ds.length → L j = false) → Below w.heap.size w W → (∀ j, j < c → ps.getD j (fun _ _ => True) W (us j)) → R2 L us W)
    (hs1 : PtSteps P l.toArray Q A0 ds w (fun j => ps.getD j (fun _ _ => True)) 0 (l.take c)) (hs2 : BySteps P l.toArray Q A0 ds R2 (l.take c).length (l.drop c))
    (hend : ∀ L us W, (∀ j, j < ds.length → L j = true) → R2 L us W → Q .normal (putF A0 ds us) W) (hcn : c < ds.length) : (Code.region id l.toArray true).wp P Q A0 w := by
  refine wp_region_by hm hb ds hl hds (fun L us W => ((∀ j, c ≤ j → j < ds.length → L j = false) ∧ Below w.heap.size w W ∧ ∀ j, j < c → L j = true → ps.getD j (fun _ _ => True) W (us j)) ∨ ((∀ j, j < c → L j = true) ∧ R2 L us W)) (selfF A0 ds) (putF_self A0 ds) (Or.inl ⟨fun _ _ _ => rfl, (Below.refl _ _).drew, by simp⟩) ?_ ?_
  · have h1 := two_first (ops := l.toArray) (Q := Q) (A0 := A0) (ds := ds) (B := w) hps.at c R2 (k := 0) (l := l.take c) (by omega) hb1 hs1
    have h2 := two_last (ops := l.toArray) (Q := Q) (A0 := A0) (ds := ds) (B := w) (Pr := fun j => ps.getD j (fun _ _ => True)) c R2 h12 (k := (l.take c).length) hcov hs2
    have h3 := BySteps.append h1 (by rw [Nat.zero_add]; exact h2)
    rw [List.take_append_drop] at h3
    exact h3
  · rintro L us W hL (⟨hn, _, _⟩ | ⟨_, h⟩)
    · have := hn c (Nat.le_refl _) hcn
      rw [hL c hcn] at this
      cases this
    · exact hend L us W hL h
end
end Go.Proofs.Yteoikaedpgianaa
namespace Go.Proofs.Yteoikaedpgianaa
open Go.RowKit

section
variable {P : Program} {Q : Exit → Act → World → Prop}
end
end Go.Proofs.Yteoikaedpgianaa
namespace Go.Proofs.Yteoikaedpgianaa
open Go.RowKit
section
variable {P : Program} {Q : Exit → Act → World → Prop}
end
end Go.Proofs.Yteoikaedpgianaa
namespace Go.Proofs.Yteoikaedpgianaa
open Go.RowKit

section
variable {P : Program} {Q : Exit → Act → World → Prop}
end
end Go.Proofs.Yteoikaedpgianaa
namespace Go.Proofs.Yteoikaedpgianaa
open Go.RowKit

theorem box_other9 {L : Nat → Bool} {us : Nat → Value} {k j : Nat} {v : Value} (h : j ≠ k) : ((j == k || L j) = L j) ∧ updF us k v j = us j := ⟨by simp [h], by simp [updF, h]⟩
/-- the values of the staged operations -/
def selV (ps : List Nat) (us : Nat → Value) (i : Nat) : Value := if h : i < ps.length then us ps[i] else undef
/-- a drawn region whose operations are plain values but for some, which go on from stage to stage -/
structure StR (V : Nat → Value) (ps pl : List Nat) (S : Nat → (Nat → Value) → World → Prop) (L : Nat → Bool) (us : Nat → Value) (W : World) : Prop where
  vals : ∀ j, j ∉ ps → L j = true → us j = V j
  st : ∃ k, k ≤ ps.length ∧ (∀ i (h : i < ps.length), (L ps[i] = true ↔ i < k)) ∧ S k (selV ps us) W
  pre : ∀ (h : ps.length - 1 < ps.length), L ps[ps.length - 1] = true → ∀ j ∈ pl, L j = true
section
variable {V : Nat → Value} {ps pl : List Nat} {S : Nat → (Nat → Value) → World → Prop} {L : Nat → Bool} {us : Nat → Value} {W W' : World}
theorem StR.start (h : S 0 (selV ps us) W) (hL : ∀ j, L j = false) : StR V ps pl S L us W :=
  ⟨fun j _ h => by rw [hL j] at h; exact absurd h (by simp), ⟨0, Nat.zero_le _, fun i h => by simp [hL], h⟩, fun _ h => by rw [hL _] at h; exact absurd h (by simp)⟩
theorem StR.pure {k : Nat} {v : Value} (h : StR V ps pl S L us W) (hk : k ∉ ps) (hv : v = V k) : StR V ps pl S (fun j => j == k || L j) (updF us k v) W := by
  refine ⟨fun j hj hl => ?_, ?_, fun hp hl j hj => ?_⟩
  · by_cases e : j = k
    · subst e; rw [updF, if_pos rfl]; exact hv
    · rw [(box_other9 (L := L) (us := us) (v := v) e).2]; exact h.vals j hj (by simpa [e] using hl)
  · obtain ⟨m, hm, hL, hS⟩ := h.st
    refine ⟨m, hm, fun i hi => ?_, ?_⟩
    · have e : ps[i] ≠ k := fun e => hk (by rw [← e]; exact List.getElem_mem hi)
      rw [(box_other9 (L := L) (us := us) (v := v) e).1]; exact hL i hi
    · have e : selV ps (updF us k v) = selV ps us := by
        funext i
        unfold selV
        split
        · rename_i hi
          exact (box_other9 (L := L) (us := us) (v := v) (fun e => hk (by rw [← e]; exact List.getElem_mem hi))).2
        · rfl
      rw [e]; exact hS
  · have e : ps[ps.length - 1] ≠ k := fun e => hk (by rw [← e]; exact List.getElem_mem hp)
    rw [(box_other9 (L := L) (us := us) (v := v) e).1] at hl
    simp [h.pre hp hl j hj]
theorem StR.at (h : StR V ps pl S L us W) (i : Nat) (hi : i < ps.length) (h0 : i = 0 ∨ ∃ (h' : i - 1 < ps.length), L ps[i - 1] = true) (hL : L ps[i] = false) : S i (selV ps us) W := by
  obtain ⟨m, hm, hl, hS⟩ := h.st
  have h1 : ¬ i < m := fun hlt => by rw [(hl i hi).2 hlt] at hL; exact absurd hL (by simp)
  have h2 : i ≤ m := by
    rcases h0 with h0 | ⟨h', h0⟩
    · omega
    · have := (hl (i - 1) h').1 h0; omega
  obtain rfl : m = i := by omega
  exact hS
theorem StR.next {v : Value} (h : StR V ps pl S L us W) (hnd : ps.Nodup) (i : Nat) (hi : i < ps.length) (h0 : i = 0 ∨ ∃ (h' : i - 1 < ps.length), L ps[i - 1] = true) (hL : L ps[i] = false)
    (hS : S (i + 1) (fun j => if j = i then v else selV ps us j) W') (hpl : i + 1 = ps.length → ∀ j ∈ pl, L j = true) : StR V ps pl S (fun j => j == ps[i] || L j) (updF us ps[i] v) W' := by
  obtain ⟨m, hm, hl, _⟩ := h.st
  have h1 : ¬ i < m := fun hlt => by rw [(hl i hi).2 hlt] at hL; exact absurd hL (by simp)
  have h2 : i ≤ m := by
    rcases h0 with h0 | ⟨h', h0⟩
    · omega
    · have := (hl (i - 1) h').1 h0; omega
  obtain rfl : m = i := by omega
  refine ⟨fun j hj hl' => ?_, ⟨m + 1, hi, fun i' hi' => ?_, ?_⟩, fun hp hl' j hj => ?_⟩
  · have e : j ≠ ps[m] := fun e => hj (by rw [e]; exact List.getElem_mem hi)
    rw [(box_other9 (L := L) (us := us) (v := v) e).2]; exact h.vals j hj (by simpa [e] using hl')
  · by_cases e : i' = m
    · subst e; simp
    · have e' : ps[i'] ≠ ps[m] := fun e' => e ((List.getElem_inj hnd).1 e')
      rw [(box_other9 (L := L) (us := us) (v := v) e').1, hl i' hi']
      omega
  · have e : selV ps (updF us ps[m] v) = fun j => if j = m then v else selV ps us j := by
      funext j
      by_cases e : j = m
      · subst e; simp [selV, hi, updF]
      · rw [if_neg e]
        unfold selV
        split
        · rename_i hj
          have e' : ps[j] ≠ ps[m] := fun e' => e ((List.getElem_inj hnd).1 e')
          exact (box_other9 (L := L) (us := us) (v := v) e').2
        · rfl
    rw [e]; exact hS
  · by_cases e : m + 1 = ps.length
    · simp [hpl e j hj]
    · have e' : ps[ps.length - 1] ≠ ps[m] := fun e' => by have := (List.getElem_inj hnd).1 e'; omega
      rw [(box_other9 (L := L) (us := us) (v := v) e').1] at hl'
      simp [h.pre hp hl' j hj]
/-- an operation for which the last staged one waits is met ahead of it -/
theorem StR.early (h : StR V ps pl S L us W) {j : Nat} (hj : j ∈ pl) (hL : L j = false) (h0 : 0 < ps.length) : ∃ k, k < ps.length ∧ S k (selV ps us) W := by
  obtain ⟨m, hm, hl, hS⟩ := h.st
  refine ⟨m, ?_, hS⟩
  rcases Nat.lt_or_ge m ps.length with h1 | h1
  · exact h1
  · have h2 : L ps[ps.length - 1] = true := (hl (ps.length - 1) (by omega)).2 (by omega)
    have := h.pre (by omega) h2 j hj
    rw [hL] at this
    cases this
theorem StR.last (h : StR V ps pl S L us W) (hall : ∀ i (hi : i < ps.length), L ps[i] = true) : S ps.length (selV ps us) W := by
  obtain ⟨m, hm, hl, hS⟩ := h.st
  have : ps.length ≤ m := by
    rcases Nat.lt_or_ge m ps.length with h1 | h1
    · have := (hl m h1).1 (hall m h1); omega
    · exact h1
  obtain rfl : m = ps.length := by omega
  exact hS
end
theorem all_on {a : Array Edge} {L : Nat → Bool} (h : (a.all fun e => !Region.binds .any e || L e.on) = true) (e : Edge) (he : e ∈ a) (hb : Region.binds .any e = true) : L e.on = true := by
  rw [Array.all_eq_true'] at h
  have := h e he
  rw [hb] at this
  simpa using this
end Go.Proofs.Yteoikaedpgianaa
