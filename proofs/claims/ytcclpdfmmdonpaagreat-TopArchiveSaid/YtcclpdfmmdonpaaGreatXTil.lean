/- Texts of the seat Yteanlcefdoigcaa, turned to this one by wip/port.py: TileM AffM TileX LevM UpdM SameX KeyV TlsX RefM EqX AmongX. -/
import Derived.Test.YtcclpdfmmdonpaaGreatRows
import Derived.Test.YtcclpdfmmdonpaaGreatXBas
import Derived.Test.YtcclpdfmmdonpaaGreatXArg
import Derived.Test.YtcclpdfmmdonpaaGreatXMap
import Derived.Test.YtcclpdfmmdonpaaGreatXVal
import Derived.Test.YtcclpdfmmdonpaaGreatXSrt
import Derived.Test.YtcclpdfmmdonpaaGreatXLay
import Derived.Test.YtcclpdfmmdonpaaGreatXRst
import Derived.Test.YtcclpdfmmdonpaaGreatXRla
namespace Go.Proofs.YtcclpdfmmdonpaaGreat
open Go.RowKit
theorem take_next {α : Type} {E : List α} {i : Nat} {x : α} (hx : E[i]? = some x) : E.take (i + 1) = E.take i ++ [x] := by
  rw [List.take_add_one, hx]; rfl
theorem mem_take {α : Type} {E : List α} {i : Nat} {a : α} (h : a ∈ E.take i) : ∃ j, j < i /\ E[j]? = some a := by
  obtain ⟨j, hj', e⟩ := List.mem_iff_getElem.1 h; have hj := hj'; rw [List.length_take, Nat.lt_min] at hj; rw [List.getElem_take] at e; exact ⟨j, hj.1, by rw [List.getElem?_eq_getElem hj.2, e]⟩
theorem pw_not {α : Type} {r : α -> α -> Prop} {E : List α} {i j : Nat} {a b : α} (hij : i < j) (hi : E[i]? = some a) (hj : E[j]? = some b) (hn : ¬ r a b) : ¬ E.Pairwise r := fun h => by
  obtain ⟨h1, rfl⟩ := List.getElem?_eq_some_iff.1 hi; obtain ⟨h2, rfl⟩ := List.getElem?_eq_some_iff.1 hj; exact hn (List.pairwise_iff_getElem.1 h i j h1 h2 hij)
theorem asc_strict {D S : List Pt} (hp : D.Perm S) (hd : S.Pairwise (fun p q => p.id ≠ q.id)) (hs : D.Pairwise (fun p q => ¬ q.id < p.id)) : D.Pairwise (fun p q => p.id < q.id) := by
  have h2 := (hp.pairwise_iff (R := fun p q : Pt => p.id ≠ q.id) (fun {_ _} e => Ne.symm e)).2 hd; refine (h2.and hs).imp ?_; rintro a b ⟨h1, h3⟩; omega
theorem asc_same {D D' : List Pt} (h : D.Pairwise (fun p q => p.id < q.id)) (h' : D'.Pairwise (fun p q => p.id < q.id)) (hm : ∀ p, p ∈ D ↔ p ∈ D') : D = D' :=
  sorted_same (r := fun p q : Pt => p.id < q.id) (fun a => by omega) (fun a b c h1 h2 => by omega) h h' hm
open Go.RowKit
open Go.RowKit
open Go.RowKit
section
variable {S S' : List Pt} {c : Nat} (hS : GoodS S') (hf : ∀ p ∈ S', p.fine) (hc : 1 <= c)
end
open Go.ChangeShapes Go.WideShapes Go.RowKit Go.Sort
open Go.RowKit
section
variable {S : List Pt} {c : Nat} {T : List Tl}
end
open Go.RowKit
def goneB (R : List Int) (p : Pt) : Bool := R.any (fun z => z == p.id)
theorem goneB_mem {R : List Int} {p : Pt} : goneB R p = true ↔ p.id ∈ R := by
  unfold goneB; rw [List.any_eq_true]; constructor
  · rintro ⟨z, h1, h2⟩; rw [beq_iff_eq] at h2; exact h2 ▸ h1
  · intro h; exact ⟨_, h, beq_iff_eq.2 rfl⟩
def keepL (P : List Pt) (R : List Int) : List Pt := P.filter (fun p => !goneB R p)
theorem keepL_mem {P : List Pt} {R : List Int} {p : Pt} : p ∈ keepL P R ↔ p ∈ P /\ p.id ∉ R := by
  unfold keepL; rw [List.mem_filter, Bool.not_eq_true', Bool.eq_false_iff, Ne, goneB_mem]
theorem keepL_nil (P : List Pt) : keepL P [] = P := by
  unfold keepL; rw [List.filter_eq_self]; intro p _; rfl
theorem keepL_next {P : List Pt} {R : List Int} {i : Nat} {z : Int} (h : R[i]? = some z) : keepL P (R.take (i + 1)) = (keepL P (R.take i)).filter (fun p => !(z == p.id)) := by
  unfold keepL; rw [List.filter_filter, take_next h]; congr 1; funext p; unfold goneB; rw [List.any_append]; simp [Bool.and_comm]
def GoneOk (P : List Pt) (R : List Int) : Prop := (∀ z ∈ R, ∃ p ∈ P, p.id = z) /\ R.Pairwise (fun a b => a ≠ b)
instance (P : List Pt) (R : List Int) : Decidable (GoneOk P R) := by unfold GoneOk; exact inferInstance
def ThereOk (P A : List Pt) (R : List Int) : Prop := ∀ a ∈ A, ∀ p ∈ keepL P R, p.id ≠ a.id
instance (P A : List Pt) (R : List Int) : Decidable (ThereOk P A R) := by unfold ThereOk; exact inferInstance
def mergeErr (P A : List Pt) (R : List Int) : Int := if GoneOk P R then (if ThereOk P A R then (if (keepL P R).length + A.length <= 1024 then 0 else 86) else 84) else 85
theorem mergeErr_gone {P A : List Pt} {R : List Int} (h : ¬ GoneOk P R) : mergeErr P A R = 85 := by unfold mergeErr; rw [if_neg h]
theorem mergeErr_there {P A : List Pt} {R : List Int} (h : GoneOk P R) (h2 : ¬ ThereOk P A R) : mergeErr P A R = 84 := by unfold mergeErr; rw [if_pos h, if_neg h2]
theorem mergeErr_many {P A : List Pt} {R : List Int} (h : GoneOk P R) (h2 : ThereOk P A R) (h3 : ¬ (keepL P R).length + A.length <= 1024) : mergeErr P A R = 86 := by unfold mergeErr; rw [if_pos h, if_pos h2, if_neg h3]
theorem mergeErr_ok {P A : List Pt} {R : List Int} (h : GoneOk P R) (h2 : ThereOk P A R) (h3 : (keepL P R).length + A.length <= 1024) : mergeErr P A R = 0 := by unfold mergeErr; rw [if_pos h, if_pos h2, if_pos h3]
theorem mergeErr_zero {P A : List Pt} {R : List Int} (h : mergeErr P A R = 0) : GoneOk P R /\ ThereOk P A R /\ (keepL P R).length + A.length <= 1024 := by
  by_cases h1 : GoneOk P R
  · by_cases h2 : ThereOk P A R
    · by_cases h3 : (keepL P R).length + A.length <= 1024
      · exact ⟨h1, h2, h3⟩
      · rw [mergeErr_many h1 h2 h3] at h; simp at h
    · rw [mergeErr_there h1 h2] at h; simp at h
  · rw [mergeErr_gone h1] at h; simp at h
structure MergeRes (P A : List Pt) (R : List Int) (e : Int) (L : List Pt) : Prop where
  err : e = mergeErr P A R
  none : e ≠ 0 -> L = []
  perm : e = 0 -> L.Perm (A ++ keepL P R)
  asc : e = 0 -> L.Pairwise (fun p q => ¬ q.id < p.id)
section
variable {P A : List Pt} {R : List Int}
theorem merge_good (hP : goodL P = true) (hA : goodL A = true) (h : mergeErr P A R = 0) : goodL (A ++ keepL P R) = true := by
  obtain ⟨_, h2, h3⟩ := mergeErr_zero h; obtain ⟨_, p2, p3⟩ := (goodL_iff P).1 hP; obtain ⟨_, a2, a3⟩ := (goodL_iff A).1 hA; rw [goodL_iff]; refine ⟨by rw [List.length_append]; omega, fun p hp => ?_, ?_⟩
  · rcases List.mem_append.1 hp with g | g
    · exact a2 p g
    · exact p2 p (keepL_mem.1 g).1
  · rw [List.pairwise_append]; exact ⟨a3, p3.filter _, fun a ha p hp e => h2 a ha p hp e.symm⟩
theorem MergeRes.good {e : Int} {L : List Pt} (h : MergeRes P A R e L) (hP : goodL P = true) (hA : goodL A = true) (he : e = 0) : goodL L = true :=
  goodL_perm (h.perm he).symm (merge_good hP hA (h.err ▸ he))
theorem MergeRes.same {e e' : Int} {L L' : List Pt} (h : MergeRes P A R e L) (h' : MergeRes P A R e' L') (hP : goodL P = true) (hA : goodL A = true) : e = e' /\ L = L' := by
  obtain rfl : e = e' := h.err.trans h'.err.symm; refine ⟨rfl, ?_⟩; by_cases h0 : e = 0
  · have hd := ((goodL_iff _).1 (merge_good (R := R) hP hA (h.err ▸ h0))).2.2; exact asc_same (asc_strict (h.perm h0) hd (h.asc h0)) (asc_strict (h'.perm h0) hd (h'.asc h0)) (fun p => by rw [(h.perm h0).mem_iff, (h'.perm h0).mem_iff])
  · rw [h.none h0, h'.none h0]
theorem MergeRes.bad {e : Int} (h : mergeErr P A R = e) (he : e ≠ 0) : MergeRes P A R e [] := ⟨h.symm, fun _ => rfl, fun h0 => absurd h0 he, fun h0 => absurd h0 he⟩
theorem MergeRes.ok {L : List Pt} (h : mergeErr P A R = 0) (hp : L.Perm (A ++ keepL P R)) (ha : L.Pairwise (fun p q => ¬ q.id < p.id)) : MergeRes P A R 0 L := ⟨h.symm, fun h0 => absurd rfl h0, fun _ => hp, fun _ => ha⟩
theorem GoneOk.nil : GoneOk P [] := ⟨fun z h => by simp at h, List.Pairwise.nil⟩
theorem GoneOk.next {i : Nat} {z : Int} (h : GoneOk P (R.take i)) (hz : R[i]? = some z) (hp : ∃ p ∈ keepL P (R.take i), p.id = z) : GoneOk P (R.take (i + 1)) := by
  obtain ⟨p, hp1, rfl⟩ := hp; obtain ⟨hp2, hp3⟩ := keepL_mem.1 hp1; refine ⟨?_, ?_⟩
  · rw [take_next hz]; intro u hu
    rcases List.mem_append.1 hu with g | g
    · exact h.1 u g
    · obtain rfl := List.mem_singleton.1 g; exact ⟨p, hp2, rfl⟩
  · rw [take_next hz, List.pairwise_append]; refine ⟨h.2, List.pairwise_singleton _ _, fun a ha b hb e => ?_⟩; obtain rfl := List.mem_singleton.1 hb; exact hp3 (e ▸ ha)
theorem GoneOk.stop {i : Nat} {z : Int} (hz : R[i]? = some z) (hp : ¬ ∃ p ∈ keepL P (R.take i), p.id = z) : ¬ GoneOk P R := fun h => by
  obtain ⟨p, hp1, hp2⟩ := h.1 z (List.mem_of_getElem? hz); refine hp ⟨p, keepL_mem.2 ⟨hp1, fun hm => ?_⟩, hp2⟩; rw [hp2] at hm; obtain ⟨j, hj, ej⟩ := mem_take hm; exact pw_not hj ej hz (fun g => g rfl) h.2
end
open Go.RowKit Go.Maps Go.Sort
open Go.RowKit Go.Maps
open Go.ChangeShapes Go.WideShapes Go.RowKit Go.Maps Go.Sort
open Go.RowKit
section
variable {A B : List Tl} {i j : Nat} {K : List Ky} {t : Tl}
end
open Go.RowKit Go.Maps Go.Sort
open Go.ChangeShapes Go.WideShapes Go.RowKit Go.Maps Go.Sort
end Go.Proofs.YtcclpdfmmdonpaaGreat
