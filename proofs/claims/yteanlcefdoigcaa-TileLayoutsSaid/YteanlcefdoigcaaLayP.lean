/- The steps of a layout in plain Lean: the points that are left at a level in the order of their ranks, and which of them a tile takes. -/
import Derived.Test.YteanlcefdoigcaaLayM
namespace Go.Proofs.Yteanlcefdoigcaa
open Go.RowKit

/-- Ids that are Ids and different -/
def GoodS (S : List Pt) : Prop := S.Pairwise (fun p q => p.id ≠ q.id) ∧ ∀ p ∈ S, 0 ≤ p.id ∧ p.id ≤ 1152921504606846976
/-- the points without a tile above the level, in the order of their ranks -/
structure LeftAt (S : List Pt) (c l : Nat) (Lf : List Pt) : Prop where
  perm : Lf.Perm (S.filter (here S c l))
  rank : Lf.Pairwise (fun p q => rankV p.id < rankV q.id)
theorem LeftAt.mem {S : List Pt} {c l : Nat} {Lf : List Pt} (h : LeftAt S c l Lf) {p : Pt} : p ∈ Lf ↔ p ∈ S ∧ here S c l p = true := by
  rw [h.perm.mem_iff, List.mem_filter]
theorem left_start {S : List Pt} {c : Nat} {Lf : List Pt} (hS : GoodS S) (hp : Lf.Perm S) (hs : Lf.Pairwise (fun p q => ¬ rankV q.id < rankV p.id)) : LeftAt S c 0 Lf := by
  refine ⟨?_, ?_⟩
  · have e : S.filter (here S c 0) = S := List.filter_eq_self.2 (fun _ _ => rfl)
    rw [e]; exact hp
  · have hd : Lf.Pairwise (fun p q => p.id ≠ q.id) := (hp.pairwise_iff (fun {_ _} e => Ne.symm e)).2 hS.1
    have hall : ∀ p ∈ Lf, 0 ≤ p.id ∧ p.id ≤ 1152921504606846976 := fun p h => hS.2 p (hp.mem_iff.1 h)
    refine List.Pairwise.imp_of_mem ?_ (hd.and hs)
    rintro a b ha hb ⟨h1, h2⟩
    have : rankV a.id ≠ rankV b.id := fun e => h1 (rank_inj (hall a ha) (hall b hb) e)
    omega
theorem LeftAt.next {S : List Pt} {c l : Nat} {Lf : List Pt} (h : LeftAt S c l Lf) : LeftAt S c (l + 1) (Lf.filter (fun q => !takes S c l q)) := by
  refine ⟨?_, h.rank.filter _⟩
  refine (h.perm.filter _).trans ?_
  rw [List.filter_filter]
  refine List.Perm.of_eq (List.filter_congr fun p _ => ?_)
  rw [here_succ, Bool.and_comm]
theorem LeftAt.count {S : List Pt} {c l i : Nat} {Lf : List Pt} {p : Pt} (h : LeftAt S c l Lf) (hi : Lf[i]? = some p) : S.countP (fun q => here S c l q && lessB l p q) = (Lf.take i).countP (fun q => decide (cellK l q = cellK l p)) := by
  have e1 : S.countP (fun q => here S c l q && lessB l p q) = (S.filter (here S c l)).countP (lessB l p) := by
    rw [List.countP_filter]
    exact List.countP_congr (fun q _ => by rw [Bool.and_comm])
  rw [e1, ← h.perm.countP_eq]
  obtain ⟨hlt, hel⟩ := List.getElem?_eq_some_iff.1 hi
  have hpw := List.pairwise_iff_getElem.1 h.rank
  have hsp : (Lf.take i ++ Lf.drop i).countP (lessB l p) = (Lf.take i).countP (fun q => decide (cellK l q = cellK l p)) := by
    rw [List.countP_append]
    have z : (Lf.drop i).countP (lessB l p) = 0 := by
      rw [List.countP_eq_zero]
      intro q hq
      obtain ⟨j, hj, e⟩ := List.mem_iff_getElem.1 hq
      rw [List.getElem_drop] at e
      simp at hj
      have : ¬ rankV q.id < rankV p.id := by
        rw [← e, ← hel]
        by_cases h0 : j = 0
        · subst h0; simp
        · have := hpw i (i + j) hlt (by omega) (by omega)
          omega
      simp [lessB, this]
    rw [z, Nat.add_zero]
    refine List.countP_congr fun q hq => ?_
    obtain ⟨j, hj, e⟩ := List.mem_iff_getElem.1 hq
    rw [List.getElem_take] at e
    simp at hj
    have : rankV q.id < rankV p.id := by
      rw [← e, ← hel]
      exact hpw j i (by omega) hlt (by omega)
    simp [lessB, this]
  rw [List.take_append_drop] at hsp
  exact hsp
theorem LeftAt.takes {S : List Pt} {c l i : Nat} {Lf : List Pt} {p : Pt} (h : LeftAt S c l Lf) (hi : Lf[i]? = some p) : takes S c l p = (decide (l = 12) || decide ((Lf.take i).countP (fun q => decide (cellK l q = cellK l p)) < c)) := by
  unfold Yteanlcefdoigcaa.takes
  rw [h.count hi]
/-- what the tile of a key has taken of the first i points -/
def grp (S : List Pt) (c l : Nat) (Lf : List Pt) (i : Nat) (k : Ky) : List Pt := (Lf.take i).filter (fun q => decide (cellK l q = k) && takes S c l q)
def rst (S : List Pt) (c l : Nat) (Lf : List Pt) (i : Nat) : List Pt := (Lf.take i).filter (fun q => !takes S c l q)
theorem take_succ' {Lf : List Pt} {i : Nat} {p : Pt} (hi : Lf[i]? = some p) : Lf.take (i + 1) = Lf.take i ++ [p] := by
  rw [List.take_add_one, hi]
  rfl
theorem grp_yes {S : List Pt} {c l i : Nat} {Lf : List Pt} {p : Pt} (hi : Lf[i]? = some p) (ht : takes S c l p = true) : grp S c l Lf (i + 1) (cellK l p) = grp S c l Lf i (cellK l p) ++ [p] := by
  unfold grp
  rw [take_succ' hi, List.filter_append]
  simp [ht]
theorem grp_other {S : List Pt} {c l i : Nat} {Lf : List Pt} {p : Pt} {k : Ky} (hi : Lf[i]? = some p) (h : takes S c l p = false ∨ cellK l p ≠ k) : grp S c l Lf (i + 1) k = grp S c l Lf i k := by
  unfold grp
  rw [take_succ' hi, List.filter_append]
  rcases h with h | h
  · simp [h]
  · simp [h]
theorem rst_yes {S : List Pt} {c l i : Nat} {Lf : List Pt} {p : Pt} (hi : Lf[i]? = some p) (ht : takes S c l p = true) : rst S c l Lf (i + 1) = rst S c l Lf i := by
  unfold rst
  rw [take_succ' hi, List.filter_append]
  simp [ht]
theorem rst_no {S : List Pt} {c l i : Nat} {Lf : List Pt} {p : Pt} (hi : Lf[i]? = some p) (ht : takes S c l p = false) : rst S c l Lf (i + 1) = rst S c l Lf i ++ [p] := by
  unfold rst
  rw [take_succ' hi, List.filter_append]
  simp [ht]
theorem grp_len {S : List Pt} {c l : Nat} {Lf : List Pt} (h : LeftAt S c l Lf) (hl : l ≠ 12) (k : Ky) : ∀ i, i ≤ Lf.length → (grp S c l Lf i k).length = min c ((Lf.take i).countP (fun q => decide (cellK l q = k)))
  | 0, _ => by simp [grp]
  | i + 1, hi => by
    have ih := grp_len h hl k i (by omega)
    have hp : Lf[i]? = some Lf[i] := List.getElem?_eq_getElem (by omega)
    have ht := h.takes hp
    simp only [hl, decide_false, Bool.false_or] at ht
    rw [take_succ' hp, List.countP_append]
    by_cases hk : cellK l Lf[i] = k
    · subst hk
      rw [show List.countP (fun q => decide (cellK l q = cellK l Lf[i])) [Lf[i]] = 1 by simp]
      by_cases hc : (Lf.take i).countP (fun q => decide (cellK l q = cellK l Lf[i])) < c
      · rw [grp_yes hp (by rw [ht]; exact decide_eq_true hc), List.length_append, ih]
        simp
        omega
      · rw [grp_other hp (Or.inl (by rw [ht]; exact decide_eq_false hc)), ih]
        omega
    · rw [grp_other hp (Or.inr hk), ih, show List.countP (fun q => decide (cellK l q = k)) [Lf[i]] = 0 by simp [hk]]
      simp
theorem takes_grp {S : List Pt} {c l i : Nat} {Lf : List Pt} {p : Pt} (h : LeftAt S c l Lf) (hi : Lf[i]? = some p) : takes S c l p = (decide (l = 12) || decide ((grp S c l Lf i (cellK l p)).length < c)) := by
  rw [h.takes hi]
  by_cases hl : l = 12
  · simp [hl]
  · rw [grp_len h hl _ i (by have := (List.getElem?_eq_some_iff.1 hi).1; omega)]
    simp [hl]
    omega
theorem grp_mem {S : List Pt} {c l i : Nat} {Lf : List Pt} {p : Pt} {k : Ky} : p ∈ grp S c l Lf i k ↔ p ∈ Lf.take i ∧ cellK l p = k ∧ takes S c l p = true := by
  unfold grp
  rw [List.mem_filter]
  simp
/-- at a level's end: a tile has all points that belong to it -/
theorem grp_full {S : List Pt} {c l : Nat} {Lf : List Pt} {p : Pt} {k : Ky} (h : LeftAt S c l Lf) (hl : l ≤ 12) (hk : k.L = l) : p ∈ grp S c l Lf Lf.length k ↔ p ∈ S ∧ isAt S c p k := by
  rw [grp_mem, List.take_length, h.mem]
  constructor
  · rintro ⟨⟨h1, h2⟩, h3, h4⟩
    exact ⟨h1, l, hl, h2, h4, h3.symm⟩
  · rintro ⟨h1, m, _, h3, h4, rfl⟩
    have : m = l := by
      have : (m : Int) = l := hk
      omega
    subst this
    exact ⟨⟨h1, h3⟩, rfl, h4⟩
theorem grp_ids {S : List Pt} {c l i : Nat} {Lf : List Pt} (hS : GoodS S) (h : LeftAt S c l Lf) (k : Ky) : (grp S c l Lf i k).Pairwise (fun p q => p.id ≠ q.id) := by
  have h1 : Lf.Pairwise (fun p q => p.id ≠ q.id) := (h.perm.pairwise_iff (fun {_ _} e => Ne.symm e)).2 (hS.1.filter _)
  exact (h1.sublist (List.take_sublist ..)).filter _
theorem asc_ids {l l' : List Pt} (hp : l'.Perm l) (hd : l.Pairwise (fun p q => p.id ≠ q.id)) (hs : l'.Pairwise (fun p q => ¬ q.id < p.id)) : l'.Pairwise (fun p q => p.id < q.id) := by
  have h1 : l'.Pairwise (fun p q => p.id ≠ q.id) := (hp.pairwise_iff (fun {_ _} e => Ne.symm e)).2 hd
  refine (h1.and hs).imp ?_
  rintro a b ⟨h2, h3⟩
  omega
/-- none is left: all have their tiles above -/
theorem LeftAt.none {S : List Pt} {c l : Nat} (h : LeftAt S c l []) {p : Pt} {k : Ky} (hp : p ∈ S) (hk : isAt S c p k) : k.L < l := by
  obtain ⟨m, h1, h2, h3, rfl⟩ := hk
  have hn : here S c l p = false := by
    cases hq : here S c l p
    · rfl
    · have := h.mem.2 ⟨hp, hq⟩; simp at this
  show (m : Int) < l
  rcases Nat.lt_or_ge m l with g | g
  · omega
  · rw [here_mono g h2] at hn; cases hn
theorem LeftAt.end13 {S : List Pt} {c : Nat} {Lf : List Pt} (h : LeftAt S c 13 Lf) : Lf = [] := by
  cases Lf with
  | nil => rfl
  | cons p l =>
    have := (h.mem.1 (List.mem_cons_self ..)).2
    rw [here_13] at this
    cases this
end Go.Proofs.Yteanlcefdoigcaa
