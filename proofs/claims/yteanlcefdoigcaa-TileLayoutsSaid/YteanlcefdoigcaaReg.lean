/- A region that draws its order, by what is known of each operation that has been carried out: whatever the order. For whatever program. -/
import Derived.Test.YteanlcefdoigcaaAid
import Derived.Orders
namespace Go.Proofs.Yteanlcefdoigcaa
open Go.RowKit

/-- Each operation of the list, met when those that it waits for have been carried out, keeps J. -/
def RegSteps (P : Program) (ops : Array Oper) (Q : Exit → Act → World → Prop) (S J : (Nat → Bool) → Act → World → Prop) : Nat → List Oper → Prop
  | _, [] => True
  | k, o :: rest => (∀ L : Nat → Bool, L k = false → (o.after.all fun e => !Region.binds .any e || L e.on) = true → ∀ a w, S L a w →
      wpList P ops (Exit.then (J fun j => j == k || L j) Q) [o] a w) ∧ RegSteps P ops Q S J (k + 1) rest
/-- Every edge leads back. -/
def backB : Nat → List Oper → Bool
  | _, [] => true
  | k, o :: rest => (o.after.all fun e => !Region.binds .any e || decide (e.on < k)) && backB (k + 1) rest

section
variable {P : Program} {Q : Exit → Act → World → Prop} {J : (Nat → Bool) → Act → World → Prop}

theorem RegSteps.at {ops : Array Oper} : ∀ {l : List Oper} {k : Nat}, RegSteps P ops Q J J k l → ∀ {i : Nat} {o : Oper}, l[i]? = some o → ∀ L : Nat → Bool, L (k + i) = false →
    (o.after.all fun e => !Region.binds .any e || L e.on) = true → ∀ a w, J L a w → wpList P ops (Exit.then (J fun j => j == k + i || L j) Q) [o] a w
  | [], _, _, i, o, h => by simp at h
  | x :: l, k, hs, 0, o, h => by
    simp at h; subst h
    exact hs.1
  | x :: l, k, hs, i + 1, o, h => by
    have := RegSteps.at hs.2 (i := i) (o := o) (by simpa using h)
    rwa [show k + 1 + i = k + (i + 1) from by omega] at this
theorem backB.at : ∀ {l : List Oper} {k : Nat}, backB k l = true → ∀ {i : Nat} {o : Oper}, l[i]? = some o → (o.after.all fun e => !Region.binds .any e || decide (e.on < k + i)) = true
  | [], _, _, i, o, h => by simp at h
  | x :: l, k, hb, 0, o, h => by
    simp at h; subst h
    simp only [backB, Bool.and_eq_true] at hb
    exact hb.1
  | x :: l, k, hb, i + 1, o, h => by
    simp only [backB, Bool.and_eq_true] at hb
    have := backB.at hb.2 (i := i) (o := o) (by simpa using h)
    rwa [show k + 1 + i = k + (i + 1) from by omega] at this

theorem Oper.wp_then {o : Oper} {a : Act} {w : World} {N : Act → World → Prop} {K : Act → World → Prop} (h : o.wp P a w N (Exit.then K Q)) : o.wp P a w N Q := by
  unfold Oper.wp at *
  generalize (execOp a.eval o).run P w = r at *
  cases r with
  | ok n w' => cases n <;> exact h
  | halt x w' => cases x <;> exact h

theorem wpOp_of_list {l : List Oper} {i : Nat} {o : Oper} {K : Act → World → Prop} {a : Act} {w : World} (ho : l.toArray[i]? = some o)
    (h : wpList P l.toArray (Exit.then K Q) [o] a w) : wpOp P l.toArray Q i K a w := by
  unfold wpOp
  rw [ho]
  simp only [wpList] at h ⊢
  split
  · rename_i hw
    rw [if_pos hw] at h
    rcases h with h | ⟨h1, h2⟩
    · exact .inl (Oper.wp_then h)
    · obtain ⟨a', w', hq⟩ := h2
      exact .inr ⟨h1, a', w', hq⟩
  · rename_i hw
    rw [if_neg hw] at h
    exact h

/-- how many are not yet listed -/
def unlisted (listed : Array Bool) : Nat := listed.toList.countP (!·)

theorem wpAny_inv {l : List Oper} (hs : RegSteps P l.toArray Q J J 0 l) (hb : backB 0 l = true)
    (hJ : ∀ L L' : Nat → Bool, (∀ j, j < l.length → L j = L' j) → ∀ a w, J L a w → J L' a w)
    (hend : ∀ a w, J (fun _ => true) a w → Q .normal a w) : ∀ (fuel : Nat) (listed : Array Bool) (a : Act) (w : World), listed.size = l.length → unlisted listed ≤ fuel → J (fun j => listed.getD j false) a w →
    wpAny P .any l.toArray Q fuel listed a w := by
  have hready : ∀ (listed : Array Bool), listed.size = l.length → Region.ready .any l.toArray listed = [] → ∀ j, j < l.length → listed.getD j false = true := by
    intro listed hsz hr j
    induction j using Nat.strongRecOn with
    | _ j ih =>
      intro hj
      cases hc : listed.getD j false with
      | true => rfl
      | false =>
        exfalso
        have hmem : j ∈ Region.ready .any l.toArray listed := by
          unfold Region.ready
          rw [List.mem_filter]
          refine ⟨by simpa using hj, ?_⟩
          have hlj : l.toArray[j]? = some l[j] := by simp [hj]
          have hgt : listed.getD j true = false := by
            rw [Array.getD_eq_getD_getElem?] at hc ⊢
            rw [Array.getElem?_eq_getElem (by omega)] at hc ⊢
            exact hc
          rw [hgt, hlj]
          simp only [Bool.not_false, Bool.true_and, Option.map_some, Option.getD_some]
          have hbj := backB.at hb (i := j) (o := l[j]) (by simp [hj])
          rw [Array.all_eq_true'] at hbj ⊢
          intro e he
          have := hbj e he
          simp only [Bool.or_eq_true, Bool.not_eq_true', decide_eq_true_eq] at this ⊢
          rcases this with h1 | h1
          · exact .inl h1
          · exact .inr (ih e.on (by omega) (by omega))
        rw [hr] at hmem
        simp at hmem
  have hall : ∀ (listed : Array Bool) (a : Act) (w : World), listed.size = l.length → Region.ready .any l.toArray listed = [] → J (fun j => listed.getD j false) a w → Q .normal a w :=
    fun listed a w hsz hr hj => hend a w (hJ _ _ (fun j h => hready listed hsz hr j h) a w hj)
  intro fuel
  induction fuel with
  | zero =>
    intro listed a w hsz hu hj
    have hr : Region.ready .any l.toArray listed = [] := by
      unfold Region.ready
      rw [List.filter_eq_nil_iff]
      intro i hi
      have hil : i < l.length := by simpa using hi
      have hcount : listed.toList.countP (!·) = 0 := by unfold unlisted at hu; omega
      rw [List.countP_eq_zero] at hcount
      have := hcount listed[i] (by simp)
      rw [Array.getD_eq_getD_getElem?, Array.getElem?_eq_getElem (by omega)]
      simp at this
      simp [this]
    exact ⟨hr, hall listed a w hsz hr hj⟩
  | succ fuel ih =>
    intro listed a w hsz hu hj
    refine ⟨fun hr => hall listed a w hsz hr hj, ?_⟩
    intro i hi
    unfold Region.ready at hi
    rw [List.mem_filter] at hi
    obtain ⟨hi1, hi2⟩ := hi
    have hil : i < l.length := by simpa using hi1
    have hli : l.toArray[i]? = some l[i] := by simp [hil]
    rw [hli] at hi2
    simp only [Bool.and_eq_true, Option.map_some, Option.getD_some, Bool.not_eq_true'] at hi2
    obtain ⟨hn, hd⟩ := hi2
    have hget : listed[i]'(by omega) = false := by
      rw [Array.getD_eq_getD_getElem?, Array.getElem?_eq_getElem (by omega)] at hn
      exact hn
    have hLi : (fun j => listed.getD j false) (0 + i) = false := by
      simp only [Nat.zero_add]
      rw [Array.getD_eq_getD_getElem?, Array.getElem?_eq_getElem (by omega)]
      exact hget
    have hstep := RegSteps.at hs (i := i) (o := l[i]) (by simp [hil]) (fun j => listed.getD j false) hLi hd a w hj
    refine wpOp_mono ?_ (wpOp_of_list hli hstep)
    intro a' w' hJ'
    refine ih _ _ _ (by simpa using hsz) ?_ (hJ _ _ ?_ _ _ hJ')
    · unfold unlisted at hu ⊢
      rw [Array.toList_setIfInBounds]
      have hlen : i < listed.toList.length := by simpa using (by omega : i < listed.size)
      have := List.countP_set (p := (!·)) (l := listed.toList) (i := i) (a := true) hlen
      have hgi : listed.toList[i] = false := by simpa using hget
      have hpos : 0 < listed.toList.countP (!·) := by
        rw [List.countP_pos_iff]
        exact ⟨listed.toList[i], List.getElem_mem hlen, by rw [hgi]; rfl⟩
      have e1 : (if (!listed.toList[i]) = true then 1 else 0) = 1 := by rw [hgi]; rfl
      have e2 : (if (!true) = true then 1 else 0) = 0 := rfl
      rw [e1, e2] at this
      rw [this]
      omega
    · intro j hjl
      simp only [Nat.zero_add]
      have hlt : j < listed.size := by omega
      by_cases hji : j = i
      · subst hji
        simp [hlt]
      · simp [hlt, hji, Ne.symm hji]

/-- A REGION THAT DRAWS ITS ORDER, by what each operation that has been carried out leaves. -/
theorem wp_region_inv {id : Nat} {l : List Oper} {a : Act} {w : World} (hm : P.follows .mixedOrders = true) (hb : backB 0 l = true) (J : (Nat → Bool) → Act → World → Prop)
    (h0 : J (fun _ => false) a w.drew) (hJ : ∀ L L' : Nat → Bool, (∀ j, j < l.length → L j = L' j) → ∀ a w, J L a w → J L' a w)
    (hs : ∀ K : (Nat → Bool) → Act → World → Prop, (∀ L a w, J L a w → K L a w) → RegSteps P l.toArray Q J K 0 l) (hend : ∀ a w, J (fun _ => true) a w → Q .normal a w) : (Code.region id l.toArray true).wp P Q a w := by
  have hs := hs J (fun _ _ _ h => h)
  refine wp_region_any hm (wpAny_inv hs hb hJ hend _ _ _ _ (by simp) ?_ (hJ _ _ ?_ _ _ h0))
  · unfold unlisted
    simp only [Array.toList_replicate, List.size_toArray]
    exact Nat.le_trans (List.countP_le_length) (by simp)
  · intro j hj
    rw [Array.getD_eq_getD_getElem?, Array.getElem?_replicate]
    simp [hj]
end
end Go.Proofs.Yteanlcefdoigcaa
