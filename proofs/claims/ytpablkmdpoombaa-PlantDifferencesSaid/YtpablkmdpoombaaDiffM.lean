/- What makes new points of old ones, plain; validity of lists of points (any class). -/
import Derived.Test.YtpablkmdpoombaaRVal
import Derived.Test.YtpablkmdpoombaaMgA
namespace Go.Proofs.Ytpablkmdpoombaa
open Go.RowKit

def validL (S : List Pt) : Bool := validV (fun i j => (S[i]!).f j) S.length
def okQ (p : Pt) : Bool := pointB p.id p.x p.y p.zl p.zh p.wd p.nm p.of
theorem validL_facts {S : List Pt} (h : validL S = true) : S.length ≤ 1024 ∧ (∀ p ∈ S, okQ p = true) ∧ S.Pairwise (fun p q => p.id ≠ q.id) := by
  unfold validL validV at h
  simp only [Bool.and_eq_true, allN_iff, decide_eq_true_eq] at h
  have hf : ∀ i (h : i < S.length), S[i]! = S[i] := fun i h => getElem!_pos S i h
  obtain ⟨h2, h3⟩ := h
  refine ⟨h2, fun p hp => ?_, ?_⟩
  · obtain ⟨i, hi, rfl⟩ := List.mem_iff_getElem.1 hp
    have a2 := h3 i hi
    unfold newB ptB at a2
    simp only [hf i hi, Bool.and_eq_true] at a2
    unfold okQ
    exact a2.1
  · rw [List.pairwise_iff_getElem]
    intro i j hi hj hij e
    have a2 := h3 j hj
    unfold newB at a2
    simp only [Bool.and_eq_true, Bool.not_eq_true', List.any_eq_false] at a2
    have := a2.2 i (List.mem_range.2 hij)
    simp only [hf i hi, hf j hj] at this
    exact this (by simp [Pt.f, e])
theorem okQ_id {p : Pt} (h : okQ p = true) : 0 ≤ p.id ∧ p.id ≤ 1152921504606846976 := @pointB_id p.f h
theorem xvalid_list (pv : Value) (S : List Pt) (w : World) (hp : PtsV w pv S) : Calls Try.prog 66 #[pv] w fun r w' => r = .returned (.bool (validL S)) ∧ Below w.heap.size w w' := by
  obtain ⟨a, cap, rfl, h⟩ := hp
  by_cases hl : S = []
  · subst hl
    exact valid_none a cap w
  · obtain ⟨b, off, rfl, hb, hr⟩ := h.resolve_left hl
    exact valid_any b off S.length cap _ w (List.length_pos_iff.2 hl) hb (rows_recs hr)
theorem rvalidP_list (pv : Value) (S : List Pt) (w : World) (hp : PtsV w pv S) : Calls Try.prog 68 #[pv] w fun r w' => r = .returned (.bool (validL S)) ∧ Below w.heap.size w w' := by
  obtain ⟨a, cap, rfl, h⟩ := hp
  by_cases hl : S = []
  · subst hl
    exact rValidP_none a cap w
  · obtain ⟨b, off, rfl, hb, hr⟩ := h.resolve_left hl
    exact rValidP_any b off S.length cap _ w (List.length_pos_iff.2 hl) hb (rows_recs hr)
/-- what must be added, and the Ids of what must go -/
def addL (O P : List Pt) : List Pt := P.filter (fun p => !decide (p ∈ O))
def remL (O P : List Pt) : List Int := (O.filter (fun p => !decide (p ∈ P))).map Pt.id
structure DiffRes (O P : List Pt) (e : Int) (A : List Pt) (D : List Int) : Prop where
  err : e = if (validL O && validL P) = true then 0 else 70
  none : e ≠ 0 → A = [] ∧ D = []
  add : e = 0 → A.Perm (addL O P) ∧ A.Pairwise (fun p q => ¬ q.id < p.id)
  rem : e = 0 → D.Perm (remL O P) ∧ D.Pairwise (fun a b => a ≤ b)
theorem DiffRes.ok {O P : List Pt} {e : Int} {A : List Pt} {D : List Int} (h : DiffRes O P e A D) (h0 : e = 0) : validL O = true ∧ validL P = true := by
  have h1 := h.err
  rw [h0] at h1
  split at h1
  · rename_i h2; exact Bool.and_eq_true_iff.1 h2
  · exact absurd h1 (by decide)
theorem DiffRes.bad {O P : List Pt} (h : validL O = false ∨ validL P = false) : DiffRes O P 70 [] [] :=
  ⟨by rw [if_neg (by rcases h with h | h <;> simp [h])], fun _ => ⟨rfl, rfl⟩, fun h => absurd h (by decide), fun h => absurd h (by decide)⟩
theorem addL_ids {O P : List Pt} (h : P.Pairwise (fun p q => p.id ≠ q.id)) : (addL O P).Pairwise (fun p q => p.id ≠ q.id) := h.filter _
theorem remL_ids {O P : List Pt} (h : O.Pairwise (fun p q => p.id ≠ q.id)) : (remL O P).Pairwise (fun a b => a ≠ b) := List.Pairwise.map _ (fun _ _ h => h) (h.filter _)
theorem int_sorted {D D' : List Int} (hp : D.Perm D') (h : D.Pairwise (fun a b => a ≤ b)) (h' : D'.Pairwise (fun a b => a ≤ b)) : D = D' :=
  List.Perm.eq_of_pairwise (fun _ _ _ _ h1 h2 => Int.le_antisymm h1 h2) h h' hp
theorem DiffRes.same {O P : List Pt} {e e' : Int} {A A' : List Pt} {D D' : List Int} (h : DiffRes O P e A D) (h' : DiffRes O P e' A' D') : e = e' ∧ A = A' ∧ D = D' := by
  have he : e = e' := h.err.trans h'.err.symm
  subst he
  refine ⟨rfl, ?_⟩
  by_cases h0 : e = 0
  · have hv := validL_facts (h.ok h0).2
    obtain ⟨a1, a2⟩ := h.add h0
    obtain ⟨b1, b2⟩ := h'.add h0
    obtain ⟨c1, c2⟩ := h.rem h0
    obtain ⟨d1, d2⟩ := h'.rem h0
    have hd := addL_ids (O := O) hv.2.2
    exact ⟨asc_same (asc_strict a1 hd a2) (asc_strict b1 hd b2) (fun p => (a1.trans b1.symm).mem_iff), int_sorted (c1.trans d1.symm) c2 d2⟩
  · have x := h.none h0
    have y := h'.none h0
    rw [x.1, x.2, y.1, y.2]; exact ⟨rfl, rfl⟩
theorem id_inj {S : List Pt} (h : S.Pairwise (fun p q => p.id ≠ q.id)) {p q : Pt} (hp : p ∈ S) (hq : q ∈ S) (e : p.id = q.id) : p = q := by
  obtain ⟨x, hx, rfl⟩ := List.mem_iff_getElem.1 hp
  obtain ⟨y, hy, rfl⟩ := List.mem_iff_getElem.1 hq
  have hpw := List.pairwise_iff_getElem.1 h
  rcases Nat.lt_trichotomy x y with g | g | g
  · exact absurd e (hpw x y hx hy g)
  · subst g; rfl
  · exact absurd e.symm (hpw y x hy hx g)
theorem mem_addL {O P : List Pt} {p : Pt} : p ∈ addL O P ↔ p ∈ P ∧ p ∉ O := by simp [addL, List.mem_filter]
theorem mem_remL {O P : List Pt} {z : Int} : z ∈ remL O P ↔ ∃ p ∈ O, p ∉ P ∧ p.id = z := by
  simp only [remL, List.mem_map, List.mem_filter, Bool.not_eq_true', decide_eq_false_iff_not]
  exact ⟨fun ⟨p, ⟨h1, h2⟩, h3⟩ => ⟨p, h1, h2, h3⟩, fun ⟨p, h1, h2, h3⟩ => ⟨p, ⟨h1, h2⟩, h3⟩⟩
theorem keep_diff {O P : List Pt} {D : List Int} (hO : O.Pairwise (fun p q => p.id ≠ q.id)) (hD : D.Perm (remL O P)) {p : Pt} : p ∈ keepL O D ↔ p ∈ O ∧ p ∈ P := by
  rw [keepL_mem, hD.mem_iff, mem_remL]
  constructor
  · rintro ⟨h1, h2⟩
    exact ⟨h1, Classical.byContradiction fun h => h2 ⟨p, h1, h, rfl⟩⟩
  · rintro ⟨h1, h2⟩
    exact ⟨h1, fun ⟨q, q1, q2, q3⟩ => q2 (by rw [id_inj hO q1 h1 q3]; exact h2)⟩
theorem diff_perm {O P A : List Pt} {D : List Int} (hO : O.Pairwise (fun p q => p.id ≠ q.id)) (hP : P.Pairwise (fun p q => p.id ≠ q.id)) (hA : A.Perm (addL O P)) (hD : D.Perm (remL O P)) : (A ++ keepL O D).Perm P := by
  have nd : ∀ {S : List Pt}, S.Pairwise (fun p q => p.id ≠ q.id) → S.Nodup := fun h => h.imp (fun {_ _} h e => h (congrArg Pt.id e))
  have nA : A.Nodup := (hA.nodup_iff).2 (nd (addL_ids hP))
  have nK : (keepL O D).Nodup := nd (hO.filter _)
  refine (List.perm_ext_iff_of_nodup ?_ (nd hP)).2 (fun p => ?_)
  · rw [List.nodup_append]
    refine ⟨nA, nK, fun a ha b hb e => ?_⟩
    subst e
    exact (mem_addL.1 (hA.mem_iff.1 ha)).2 ((keep_diff hO hD).1 hb).1
  · rw [List.mem_append, hA.mem_iff, mem_addL, keep_diff hO hD]
    constructor
    · rintro (h | h)
      · exact h.1
      · exact h.2
    · intro h
      by_cases g : p ∈ O
      · exact Or.inr ⟨g, h⟩
      · exact Or.inl ⟨h, g⟩
/-- added and removed, the new points come out of the old ones -/
theorem diff_merge {O P A : List Pt} {D : List Int} (h : DiffRes O P 0 A D) : mergeErr O A D = 0 ∧ (A ++ keepL O D).Perm P := by
  have hO := validL_facts (h.ok rfl).1
  have hP := validL_facts (h.ok rfl).2
  obtain ⟨a1, _⟩ := h.add rfl
  obtain ⟨d1, _⟩ := h.rem rfl
  have hp := diff_perm hO.2.2 hP.2.2 a1 d1
  refine ⟨mergeErr_ok ⟨fun z hz => ?_, (d1.pairwise_iff (fun {_ _} e => Ne.symm e)).2 (remL_ids hO.2.2)⟩ (fun a ha p hpk e => ?_) ?_, hp⟩
  · obtain ⟨p, h1, _, h3⟩ := mem_remL.1 (d1.mem_iff.1 hz)
    exact ⟨p, h1, h3⟩
  · have m1 := mem_addL.1 (a1.mem_iff.1 ha)
    have m2 := (keep_diff hO.2.2 d1).1 hpk
    exact m1.2 (by rw [← id_inj hP.2.2 m2.2 m1.1 e]; exact m2.1)
  · have := hp.length_eq
    rw [List.length_append] at this
    omega
end Go.Proofs.Ytpablkmdpoombaa
