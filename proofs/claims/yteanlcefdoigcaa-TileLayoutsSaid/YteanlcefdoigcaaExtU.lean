/- A region that draws its order, whose last operations come one behind the other; the first ones may read a slot that one of the last ones assigns. For whatever program. -/
import Derived.Test.YteanlcefdoigcaaExt
namespace Go.Proofs.Yteanlcefdoigcaa
open Go.RowKit

/-- each operation, from the values of those that it waits for, in any grown world, while the slots of the operations from c on are as they were -/
def PtStepsU (P : Program) (ops : Array Oper) (Q : Exit → Act → World → Prop) (A0 : Act) (ds : List (Option Nat)) (B : World) (Pr : Nat → World → Value → Prop) (c : Nat) : Nat → List Oper → Prop
  | _, [] => True
  | k, o :: rest => (∀ (K : Act → World → Prop) (us : Nat → Value) (W : World),
      (∀ v A' W', A' = (putF A0 ds us).put (ds.getD k none) v → Below W.heap.size W W' → Pr k W' v → K A' W') → Below B.heap.size B W →
      (∀ e ∈ o.after, Region.binds .any e = true → Pr e.on W (us e.on)) → (∀ j, c ≤ j → us j = selfF A0 ds j) → wpList P ops (Exit.then K Q) [o] (putF A0 ds us) W) ∧ PtStepsU P ops Q A0 ds B Pr c (k + 1) rest
section
variable {P : Program} {Q : Exit → Act → World → Prop}
def TailU (P : Program) (ops : Array Oper) (Q : Exit → Act → World → Prop) (l : List Oper) (A0 : Act) (ds : List (Option Nat)) (B : World) (Pr : Nat → World → Value → Prop) (c : Nat) (L : Nat → Bool) (us : Nat → Value) (W : World) : Prop :=
  Closed l L ∧ (((∀ j, c ≤ j → us j = selfF A0 ds j) ∧ (∀ j, c ≤ j → j < l.length → L j = false) ∧ Below B.heap.size B W ∧ ∀ j, j < c → L j = true → Pr j W (us j)) ∨
    (∃ t, (∀ j, j < t → L j = true) ∧ (∀ j, t ≤ j → j < l.length → L j = false) ∧ c < t ∧ SeqS P ops Q (l.drop t) (putF A0 ds us) W))
theorem tailU_first {ops : Array Oper} {l : List Oper} {A0 : Act} {ds : List (Option Nat)} {B : World} {Pr : Nat → World → Value → Prop} (hPr : ∀ j W W' v, Below W.heap.size W W' → Pr j W v → Pr j W' v) (c : Nat) :
    ∀ {l1 : List Oper} {k : Nat}, (∀ j, j < l1.length → l[k + j]? = l1[j]?) → k + l1.length ≤ c → backB k l1 = true → PtStepsU P ops Q A0 ds B Pr c k l1 → BySteps P ops Q A0 ds (TailU P ops Q l A0 ds B Pr c) k l1
  | [], _, _, _, _, _ => trivial
  | o :: rest, k, hat, hl, hb, hs => by
    simp only [List.length_cons] at hl
    simp only [backB, Bool.and_eq_true] at hb
    refine ⟨?_, tailU_first hPr c (l1 := rest) (k := k + 1) (fun j hj => by rw [show k + 1 + j = k + (j + 1) by omega, hat (j + 1) (by simp; omega)]; rfl) (by omega) hb.2 hs.2⟩
    intro K L us W hK hL hd hR
    have ho : l[k]? = some o := by have := hat 0 (by simp); simpa using this
    have hdi := deps_in hd
    obtain ⟨hcl, hR⟩ := hR
    rcases hR with ⟨hu, hn, hB, hp⟩ | ⟨t, ha, _, htc, _⟩
    · refine hs.1 K us W ?_ hB ?_ hu
      · intro v A' W' hA hB' hv
        refine hK v A' W' hA ⟨hcl.add ho hdi, Or.inl ⟨fun j hj => by simp only [updF, show ¬ j = k by omega, if_false]; exact hu j hj, ?_, hB.trans (hB'.mono hB.size), ?_⟩⟩
        · intro j hj hjn
          simp [hn j hj hjn]
          omega
        · intro j hjc hj
          by_cases hjk : j = k
          · subst hjk; simpa [updF] using hv
          · simp only [updF, hjk, if_false]
            exact hPr j W W' _ hB' (hp j hjc (by simpa [hjk] using hj))
      · intro e he hbi
        have hb1 := hb.1
        rw [Array.all_eq_true'] at hb1 hd
        have h1 := hb1 e he
        have h2 := hd e he
        rw [hbi] at h1 h2
        simp at h1 h2
        exact hp e.on (by omega) h2
    · rw [ha k (by omega)] at hL
      cases hL
theorem tailU_last {ops : Array Oper} {l : List Oper} {A0 : Act} {ds : List (Option Nat)} {B : World} {Pr : Nat → World → Value → Prop} (c : Nat) (hdst : ds = l.map (·.dst)) (hds : (ds.filterMap _root_.id).Nodup)
    (htail : ∀ us W, Below B.heap.size B W → (∀ j, j < c → Pr j W (us j)) → SeqS P ops Q (l.drop c) (putF A0 ds us) W) (hch : chained l c = true) :
    ∀ {l2 : List Oper} {k : Nat}, c ≤ k → l.drop k = l2 → BySteps P ops Q A0 ds (TailU P ops Q l A0 ds B Pr c) k l2
  | [], _, _, _ => trivial
  | o :: rest, k, hck, hdr => by
    have ho : l[k]? = some o := by
      have := congrArg (fun x => x[0]?) hdr
      simpa using this
    have hkl : k < l.length := (List.getElem?_eq_some_iff.1 ho).1
    have hdr1 : l.drop (k + 1) = rest := by
      have := congrArg List.tail hdr
      simpa [List.tail_drop] using this
    refine ⟨?_, tailU_last c hdst hds htail hch (l2 := rest) (k := k + 1) (by omega) hdr1⟩
    intro K L us W hK hL hd hR
    have hdi := deps_in hd
    obtain ⟨hcl, hR⟩ := hR
    have hall : ∀ j, j < k → L j = true := by
      unfold chained at hch
      rw [List.all_eq_true] at hch
      have h1 := hch k (List.mem_range.2 hkl)
      rw [ho] at h1
      simp only [Bool.or_eq_true, decide_eq_true_eq] at h1
      rcases h1 with h1 | h1
      · omega
      · intro j hj
        rw [List.all_eq_true] at h1
        have h2 := h1 j (List.mem_range.2 hj)
        rw [List.contains_iff_mem] at h2
        exact closeL_in hcl _ _ hdi j h2
    have hS : (∀ j, k ≤ j → j < l.length → L j = false) ∧ SeqS P ops Q (l.drop k) (putF A0 ds us) W := by
      rcases hR with ⟨_, hn, hB, hp⟩ | ⟨t, ha, hn, htc, hS⟩
      · have : k = c := by
          rcases Nat.lt_or_ge c k with h | h
          · have h2 := hall c h
            rw [hn c (Nat.le_refl _) (by omega)] at h2
            cases h2
          · omega
        subst this
        exact ⟨hn, htail us W hB (fun j hj => hp j hj (hall j hj))⟩
      · have : t = k := by
          rcases Nat.lt_trichotomy t k with h | h | h
          · have h2 := hall t h
            rw [hn t (Nat.le_refl _) (by omega)] at h2
            cases h2
          · exact h
          · rw [ha k h] at hL
            cases hL
        subst this
        exact ⟨hn, hS⟩
    obtain ⟨hn, hS⟩ := hS
    rw [hdr] at hS
    refine hS K (fun v A' W' hA hS' => ?_)
    have hdk : ds.getD k none = o.dst := by
      rw [hdst, List.getD_eq_getElem?_getD, List.getElem?_map, ho]
      rfl
    refine hK v A' W' (by rw [hdk]; exact hA) ⟨hcl.add ho hdi, Or.inr ⟨k + 1, ?_, ?_, by omega, ?_⟩⟩
    · intro j hj
      by_cases hjk : j = k
      · simp [hjk]
      · simp [hall j (by omega)]
    · intro j hj hjn
      simp [hn j (by omega) hjn]
      omega
    · rw [hdr1, ← putF_upd ds A0 us k v hds (by rw [hdst]; simpa using hkl), hdk, ← hA]
      exact hS'
theorem wp_region_tailU {id : Nat} {l : List Oper} {A0 : Act} {w : World} (hm : P.follows .mixedOrders = true) (hb : backB 0 l = true) (ds : List (Option Nat)) (hdst : ds = l.map (·.dst)) (hds : (ds.filterMap _root_.id).Nodup)
    (c : Nat) (hcl : c < l.length) (hb1 : backB 0 (l.take c) = true) (hch : chained l c = true) (ps : List (World → Value → Prop)) (hps : StbL ps)
    (hs1 : PtStepsU P l.toArray Q A0 ds w (fun j => ps.getD j (fun _ _ => True)) c 0 (l.take c))
    (htail : ∀ us W, Below w.heap.size w W → (∀ j, j < c → ps.getD j (fun _ _ => True) W (us j)) → SeqS P l.toArray Q (l.drop c) (putF A0 ds us) W) :
    (Code.region id l.toArray true).wp P Q A0 w := by
  have hl : l.length = ds.length := by rw [hdst]; simp
  refine wp_region_by hm hb ds hl hds (TailU P l.toArray Q l A0 ds w (fun j => ps.getD j (fun _ _ => True)) c) (selfF A0 ds) (putF_self A0 ds) ⟨fun _ _ _ h => by simp at h, Or.inl ⟨fun _ _ => rfl, fun _ _ _ => rfl, (Below.refl _ _).drew, fun _ _ h => by simp at h⟩⟩ ?_ ?_
  · have hlen : (l.take c).length = c := by rw [List.length_take]; omega
    have h1 := tailU_first (ops := l.toArray) (Q := Q) (l := l) (A0 := A0) (ds := ds) (B := w) hps.at c (l1 := l.take c) (k := 0) (fun j hj => by rw [Nat.zero_add, List.getElem?_take_of_lt (by omega)]) (by omega) hb1 hs1
    have h2 := tailU_last (P := P) (ops := l.toArray) (Q := Q) (l := l) (A0 := A0) (ds := ds) (B := w) (Pr := fun j => ps.getD j (fun _ _ => True)) c hdst hds htail hch (l2 := l.drop c) (k := c) (Nat.le_refl _) rfl
    have h3 := BySteps.append h1 (by rw [Nat.zero_add, hlen]; exact h2)
    rw [List.take_append_drop] at h3
    exact h3
  · intro L us W hL hR
    rcases hR.2 with ⟨_, hn, _, _⟩ | ⟨t, _, hn, htc, hS⟩
    · have := hn c (Nat.le_refl _) hcl
      rw [hL c (by omega)] at this
      cases this
    · have htl : l.length ≤ t := by
        rcases Nat.lt_or_ge t l.length with h | h
        · have := hn t (Nat.le_refl _) h
          rw [hL t (by omega)] at this
          cases this
        · exact h
      rw [List.drop_eq_nil_of_le htl] at hS
      exact hS
end
end Go.Proofs.Yteanlcefdoigcaa
