/- Texts of the seat Yteanlcefdoigcaa, turned to this one by wip/port.py: Base Args Maps LawKit Valid Keys LayM SortF Lay1 LayX RSort RLay TileM TileX LevM UpdM SameX MapX. -/
import Derived.Test.YtpablkmdpoombaaFund
import Derived.Test.YtpablkmdpoombaaVal
import Derived.Test.YtpablkmdpoombaaPts
import Derived.Test.YtpablkmdpoombaaSrt
import Derived.Test.YtpablkmdpoombaaNum
import Derived.Test.YtpablkmdpoombaaCrc
import Derived.Test.YtpablkmdpoombaaEnc
import Derived.Test.YtpablkmdpoombaaRp
import Derived.Test.YtpablkmdpoombaaAidB
import Derived.Test.YtpablkmdpoombaaAidC
import Derived.Test.YtpablkmdpoombaaAidD
import Derived.Test.YtpablkmdpoombaaAidE
import Derived.Test.YtpablkmdpoombaaTlA
import Derived.Test.YtpablkmdpoombaaTlB
import Derived.WalkKit
import Derived.ProofKit
import Derived.Handy
import Derived.WalkSpells
import Derived.Deep.QuietTactic
import Derived.BigQuiet
import Derived.BigRegion
import Derived.Laws.CopyOwn
import Derived.Lib.SmallJoins
import Derived.Orders
import Derived.Laws.Tables
import Derived.Deep.MidRow
import Derived.OpenShut
import Derived.Deep.Slices
import Derived.Maps.AppendAt
import Derived.Maps.Own
import Derived.Maps.OwnSet
import Derived.Maps.Views
import Derived.Maps.RangeWalk
import GoSem.Claim
import GoSem.ClaimJoined
import Derived.SizedLaws
import Derived.Carry
import Derived.Lib.QuietBelow
import Derived.Laws.Bits64b
import Derived.Laws.Shifts
import Derived.Lib.SliceRun
import Derived.Lib.BitFns
import Derived.Shelf.SlSortCmp.NoneTotal
/- Base -/
namespace Go.Proofs.Ytpablkmdpoombaa
open Go.RowKit

section
variable {P : Program} {fn : Func} {p u v : Tmp} {ty : TypeId} {tmps : Array Value} {w : World} {g : Nat} {t : TypeId} {cs : Array Value} {fr : Nat × Nat} {d : TypeDesc} {n : Nat}
end
end Go.Proofs.Ytpablkmdpoombaa
namespace Go.Proofs.Ytpablkmdpoombaa
open Go.RowKit

section
variable {P : Program} {Q : Exit → Act → World → Prop} {J : (Nat → Bool) → Act → World → Prop}

end
end Go.Proofs.Ytpablkmdpoombaa
namespace Go.Proofs.Ytpablkmdpoombaa
open Go.RowKit

section
variable {P : Program} {Q : Exit → Act → World → Prop}
end
end Go.Proofs.Ytpablkmdpoombaa
namespace Go.Proofs.Ytpablkmdpoombaa
open Go.RowKit

section
variable {P : Program} {Q : Exit → Act → World → Prop}
end
end Go.Proofs.Ytpablkmdpoombaa
namespace Go.Proofs.Ytpablkmdpoombaa
open Go.RowKit

section
variable {P : Program} {Q : Exit → Act → World → Prop}
end
end Go.Proofs.Ytpablkmdpoombaa
namespace Go.Proofs.Ytpablkmdpoombaa
open Go.RowKit
section
variable {P : Program} {Q : Exit → Act → World → Prop}
end
end Go.Proofs.Ytpablkmdpoombaa
namespace Go.Proofs.Ytpablkmdpoombaa
open Go.RowKit

section
variable {P : Program} {Q : Exit → Act → World → Prop}
end
end Go.Proofs.Ytpablkmdpoombaa
namespace Go.Proofs.Ytpablkmdpoombaa
open Go.RowKit

section
variable {P : Program} {Q : Exit → Act → World → Prop}
end
end Go.Proofs.Ytpablkmdpoombaa
namespace Go.Proofs.Ytpablkmdpoombaa
open Go.RowKit

section
variable {W0 W W' : World} {c m : Nat} {V : Nat → Value} {Z C : Nat → Array Value} {T : Nat → TypeId} {L : Nat → Bool} {us : Nat → Value}
end
end Go.Proofs.Ytpablkmdpoombaa
namespace Go.Proofs.Ytpablkmdpoombaa
open Go.RowKit Go.Deep

end Go.Proofs.Ytpablkmdpoombaa

/- Args -/
namespace Go.Proofs.Ytpablkmdpoombaa
open Go.RowKit

section
variable {P : Program}

/-- lists of integers as cells -/
def ints (l : List Int) : List Value := l.map (Value.int .i64)
theorem sameL_ints : ∀ {a b : List Int}, a.length = b.length → sameL (ints a) (ints b) = (a == b)
  | [], [], _ => rfl
  | x :: a, y :: b, h => by
    have h1 := sameL_ints (a := a) (b := b) (by simpa using h)
    simp only [ints] at h1
    simp [ints, sameL, sameV, h1]
  | [], _ :: _, h => by simp at h
  | _ :: _, [], h => by simp at h
end
end Go.Proofs.Ytpablkmdpoombaa
namespace Go.Proofs.Ytpablkmdpoombaa
open Go.ChangeShapes Go.WideShapes Go.ChangeAt Go.RowKit

section
variable {H : Type} {enc : TypeId × Value → H} {P : Program} {w : World} {base : Nat} {spare : Nat → Bool} {held : Bool}

end
end Go.Proofs.Ytpablkmdpoombaa
namespace Go.Proofs.Ytpablkmdpoombaa
open Go.ChangeShapes Go.WideShapes Go.ChangeAt Go.RowKit Go.Deep
section
variable {H : Type} {enc : TypeId × Value → H} {P : Program} {w : World} {base : Nat} {spare : Nat → Bool} {held : Bool}

end
end Go.Proofs.Ytpablkmdpoombaa

/- Maps -/
namespace Go.Proofs.Ytpablkmdpoombaa
open Go.RowKit

section
variable {W W' : World} {base base' t sz : Nat} {v : Value} {l : List (List Value)}
end
end Go.Proofs.Ytpablkmdpoombaa
namespace Go.Proofs.Ytpablkmdpoombaa
open Go.RowKit Go.Maps

section
variable {P : Program} {W W' : World} {k t e : TypeId} {b n : Nat} {get : Lit → Option Value}
end
end Go.Proofs.Ytpablkmdpoombaa
namespace Go.Proofs.Ytpablkmdpoombaa
open Go.RowKit Go.Maps
open Go.ChangeMaps (heap_setBlock_same)
open Go.WideElems (other_key)

section
variable {P : Program} {W W' : World} {k t e : TypeId} {b n : Nat} {get : Lit → Option Value}
end
end Go.Proofs.Ytpablkmdpoombaa
namespace Go.Proofs.Ytpablkmdpoombaa
open Go.RowKit Go.Maps

section
variable {P : Program} {W W' : World} {k t e : TypeId} {b r n cnt : Nat} {get : Lit → Option Value} {left : Lit → Bool}
end
end Go.Proofs.Ytpablkmdpoombaa

/- Valid -/
namespace Go.Proofs.Ytpablkmdpoombaa
open Go.RowKit

end Go.Proofs.Ytpablkmdpoombaa
namespace Go.Proofs.Ytpablkmdpoombaa
open Go.RowKit Go.Maps

end Go.Proofs.Ytpablkmdpoombaa
namespace Go.Proofs.Ytpablkmdpoombaa
open Go.RowKit Go.Maps

end Go.Proofs.Ytpablkmdpoombaa
namespace Go.Proofs.Ytpablkmdpoombaa
open Go.RowKit Go.Maps Go.Sort

end Go.Proofs.Ytpablkmdpoombaa
namespace Go.Proofs.Ytpablkmdpoombaa
open Go.RowKit
end Go.Proofs.Ytpablkmdpoombaa
namespace Go.Proofs.Ytpablkmdpoombaa
open Go.RowKit

end Go.Proofs.Ytpablkmdpoombaa
namespace Go.Proofs.Ytpablkmdpoombaa
open Go.RowKit

end Go.Proofs.Ytpablkmdpoombaa
namespace Go.Proofs.Ytpablkmdpoombaa
open Go.RowKit

end Go.Proofs.Ytpablkmdpoombaa

/- LayM -/
namespace Go.Proofs.Ytpablkmdpoombaa
open Go.RowKit

end Go.Proofs.Ytpablkmdpoombaa
namespace Go.Proofs.Ytpablkmdpoombaa
open Go.RowKit

end Go.Proofs.Ytpablkmdpoombaa

/- SortF -/
namespace Go.Proofs.Ytpablkmdpoombaa
open Go.RowKit Go.Sort Go.Lib Go.Shelf Go.Proofs

section
variable {α : Type} [Inhabited α] {enc : α → List Value} {k : Nat}
end
end Go.Proofs.Ytpablkmdpoombaa
namespace Go.Proofs.Ytpablkmdpoombaa
open Go.Shelf
end Go.Proofs.Ytpablkmdpoombaa
namespace Go.Proofs.Ytpablkmdpoombaa
open Go.RowKit Go.Sort Go.Lib Go.Shelf Go.Proofs

end Go.Proofs.Ytpablkmdpoombaa

/- Lay1 -/
namespace Go.Proofs.Ytpablkmdpoombaa
open Go.RowKit Go.Maps

end Go.Proofs.Ytpablkmdpoombaa
namespace Go.Proofs.Ytpablkmdpoombaa
open Go.RowKit

end Go.Proofs.Ytpablkmdpoombaa

/- LayX -/
namespace Go.Proofs.Ytpablkmdpoombaa
open Go.RowKit Go.Maps

end Go.Proofs.Ytpablkmdpoombaa
namespace Go.Proofs.Ytpablkmdpoombaa
open Go.RowKit Go.Maps

section
variable {W W' : World} {base t sz : Nat} {v : Value} {l : List (List Value)}
end
end Go.Proofs.Ytpablkmdpoombaa
namespace Go.Proofs.Ytpablkmdpoombaa
open Go.RowKit Go.Maps

end Go.Proofs.Ytpablkmdpoombaa
namespace Go.Proofs.Ytpablkmdpoombaa
open Go.RowKit Go.Maps

end Go.Proofs.Ytpablkmdpoombaa
namespace Go.Proofs.Ytpablkmdpoombaa
open Go.RowKit Go.Maps

end Go.Proofs.Ytpablkmdpoombaa
namespace Go.Proofs.Ytpablkmdpoombaa
open Go.RowKit Go.Maps Go.Sort

end Go.Proofs.Ytpablkmdpoombaa
namespace Go.Proofs.Ytpablkmdpoombaa
open Go.RowKit Go.Maps

end Go.Proofs.Ytpablkmdpoombaa

/- RSort -/
namespace Go.Proofs.Ytpablkmdpoombaa
open Go.RowKit

section
variable {W0 W1 W2 W : World} {s1 s2 : Nat} {ps : List Nat} {vs : List Value} {L : Nat → Bool} {us : Nat → Value} {v : Value}
end

end Go.Proofs.Ytpablkmdpoombaa
namespace Go.Proofs.Ytpablkmdpoombaa
open Go.RowKit

section
variable {α : Type}
end
end Go.Proofs.Ytpablkmdpoombaa
namespace Go.Proofs.Ytpablkmdpoombaa
open Go.ChangeShapes Go.WideShapes Go.ChangeAt Go.RowKit Go.Deep

section
variable {H : Type} {enc : TypeId × Value → H} {P : Program} {w : World} {base : Nat} {spare : Nat → Bool} {held : Bool}

end
end Go.Proofs.Ytpablkmdpoombaa
namespace Go.Proofs.Ytpablkmdpoombaa
open Go.RowKit Go.Sort

end Go.Proofs.Ytpablkmdpoombaa

/- TileM -/
namespace Go.Proofs.Ytpablkmdpoombaa
open Go.RowKit

end Go.Proofs.Ytpablkmdpoombaa
namespace Go.Proofs.Ytpablkmdpoombaa
open Go.RowKit

end Go.Proofs.Ytpablkmdpoombaa

/- UpdM -/
namespace Go.Proofs.Ytpablkmdpoombaa
open Go.RowKit

def goneB (R : List Int) (p : Pt) : Bool := R.any (fun z => z == p.id)
theorem goneB_mem {R : List Int} {p : Pt} : goneB R p = true ↔ p.id ∈ R := by
  unfold goneB
  rw [List.any_eq_true]
  constructor
  · rintro ⟨z, h1, h2⟩
    rw [beq_iff_eq] at h2
    exact h2 ▸ h1
  · intro h
    exact ⟨_, h, beq_iff_eq.2 rfl⟩
/-- the points that are not removed -/
def keepL (P : List Pt) (R : List Int) : List Pt := P.filter (fun p => !goneB R p)
theorem keepL_mem {P : List Pt} {R : List Int} {p : Pt} : p ∈ keepL P R ↔ p ∈ P ∧ p.id ∉ R := by
  unfold keepL
  rw [List.mem_filter, Bool.not_eq_true', Bool.eq_false_iff, Ne, goneB_mem]
/-- the removed Ids are Ids of points, and no two are the same -/
def GoneOk (P : List Pt) (R : List Int) : Prop := (∀ z ∈ R, ∃ p ∈ P, p.id = z) ∧ R.Pairwise (fun a b => a ≠ b)
instance (P : List Pt) (R : List Int) : Decidable (GoneOk P R) := by unfold GoneOk; exact inferInstance
/-- no added point has the Id of one that stays -/
def ThereOk (P A : List Pt) (R : List Int) : Prop := ∀ a ∈ A, ∀ p ∈ keepL P R, p.id ≠ a.id
instance (P A : List Pt) (R : List Int) : Decidable (ThereOk P A R) := by unfold ThereOk; exact inferInstance
def mergeErr (P A : List Pt) (R : List Int) : Int := if GoneOk P R then (if ThereOk P A R then (if (keepL P R).length + A.length ≤ 1024 then 0 else 86) else 84) else 85
theorem mergeErr_gone {P A : List Pt} {R : List Int} (h : ¬ GoneOk P R) : mergeErr P A R = 85 := by unfold mergeErr; rw [if_neg h]
theorem mergeErr_there {P A : List Pt} {R : List Int} (h : GoneOk P R) (h2 : ¬ ThereOk P A R) : mergeErr P A R = 84 := by unfold mergeErr; rw [if_pos h, if_neg h2]
theorem mergeErr_many {P A : List Pt} {R : List Int} (h : GoneOk P R) (h2 : ThereOk P A R) (h3 : ¬ (keepL P R).length + A.length ≤ 1024) : mergeErr P A R = 86 := by unfold mergeErr; rw [if_pos h, if_pos h2, if_neg h3]
theorem mergeErr_ok {P A : List Pt} {R : List Int} (h : GoneOk P R) (h2 : ThereOk P A R) (h3 : (keepL P R).length + A.length ≤ 1024) : mergeErr P A R = 0 := by unfold mergeErr; rw [if_pos h, if_pos h2, if_pos h3]
theorem mergeErr_zero {P A : List Pt} {R : List Int} (h : mergeErr P A R = 0) : GoneOk P R ∧ ThereOk P A R ∧ (keepL P R).length + A.length ≤ 1024 := by
  by_cases h1 : GoneOk P R
  · by_cases h2 : ThereOk P A R
    · by_cases h3 : (keepL P R).length + A.length ≤ 1024
      · exact ⟨h1, h2, h3⟩
      · rw [mergeErr_many h1 h2 h3] at h; simp at h
    · rw [mergeErr_there h1 h2] at h; simp at h
  · rw [mergeErr_gone h1] at h; simp at h
structure MergeRes (P A : List Pt) (R : List Int) (e : Int) (L : List Pt) : Prop where
  err : e = mergeErr P A R
  none : e ≠ 0 → L = []
  perm : e = 0 → L.Perm (A ++ keepL P R)
  asc : e = 0 → L.Pairwise (fun p q => ¬ q.id < p.id)
section
variable {P A : List Pt} {R : List Int}
/-- the points behind an update are good -/
theorem merge_good (hP : goodL P = true) (hA : goodL A = true) (h : mergeErr P A R = 0) : goodL (A ++ keepL P R) = true := by
  obtain ⟨_, h2, h3⟩ := mergeErr_zero h
  obtain ⟨_, p2, p3⟩ := (goodL_iff P).1 hP
  obtain ⟨_, a2, a3⟩ := (goodL_iff A).1 hA
  rw [goodL_iff]
  refine ⟨by rw [List.length_append]; omega, fun p hp => ?_, ?_⟩
  · rcases List.mem_append.1 hp with g | g
    · exact a2 p g
    · exact p2 p (keepL_mem.1 g).1
  · rw [List.pairwise_append]
    exact ⟨a3, p3.filter _, fun a ha p hp e => h2 a ha p hp e.symm⟩
theorem MergeRes.good {e : Int} {L : List Pt} (h : MergeRes P A R e L) (hP : goodL P = true) (hA : goodL A = true) (he : e = 0) : goodL L = true :=
  goodL_perm (h.perm he).symm (merge_good hP hA (h.err ▸ he))
theorem MergeRes.same {e e' : Int} {L L' : List Pt} (h : MergeRes P A R e L) (h' : MergeRes P A R e' L') (hP : goodL P = true) (hA : goodL A = true) : e = e' ∧ L = L' := by
  obtain rfl : e = e' := h.err.trans h'.err.symm
  refine ⟨rfl, ?_⟩
  by_cases h0 : e = 0
  · have hd := ((goodL_iff _).1 (merge_good (R := R) hP hA (h.err ▸ h0))).2.2
    exact asc_same (asc_strict (h.perm h0) hd (h.asc h0)) (asc_strict (h'.perm h0) hd (h'.asc h0)) (fun p => by rw [(h.perm h0).mem_iff, (h'.perm h0).mem_iff])
  · rw [h.none h0, h'.none h0]
theorem MergeRes.bad {e : Int} (h : mergeErr P A R = e) (he : e ≠ 0) : MergeRes P A R e [] := ⟨h.symm, fun _ => rfl, fun h0 => absurd h0 he, fun h0 => absurd h0 he⟩
theorem MergeRes.ok {L : List Pt} (h : mergeErr P A R = 0) (hp : L.Perm (A ++ keepL P R)) (ha : L.Pairwise (fun p q => ¬ q.id < p.id)) : MergeRes P A R 0 L := ⟨h.symm, fun h0 => absurd rfl h0, fun _ => hp, fun _ => ha⟩
/-- the removed Ids up to the i-th -/
theorem GoneOk.nil : GoneOk P [] := ⟨fun z h => by simp at h, List.Pairwise.nil⟩
theorem GoneOk.next {i : Nat} {z : Int} (h : GoneOk P (R.take i)) (hz : R[i]? = some z) (hp : ∃ p ∈ keepL P (R.take i), p.id = z) : GoneOk P (R.take (i + 1)) := by
  obtain ⟨p, hp1, rfl⟩ := hp
  obtain ⟨hp2, hp3⟩ := keepL_mem.1 hp1
  refine ⟨?_, ?_⟩
  · rw [take_next hz]
    intro u hu
    rcases List.mem_append.1 hu with g | g
    · exact h.1 u g
    · obtain rfl := List.mem_singleton.1 g; exact ⟨p, hp2, rfl⟩
  · rw [take_next hz, List.pairwise_append]
    refine ⟨h.2, List.pairwise_singleton _ _, fun a ha b hb e => ?_⟩
    obtain rfl := List.mem_singleton.1 hb
    exact hp3 (e ▸ ha)
end
end Go.Proofs.Ytpablkmdpoombaa

/- SameX -/
namespace Go.Proofs.Ytpablkmdpoombaa
open Go.RowKit Go.Maps Go.Sort

def Pt.ns (p : Pt) : List Int := [p.id, p.x, p.y, p.zl, p.zh, p.wd, p.nm, p.of, p.cl]
theorem Pt.ns_iff {p q : Pt} : p.ns = q.ns ↔ p = q := by
  constructor
  · intro h
    obtain ⟨⟩ := p
    obtain ⟨⟩ := q
    simp [Pt.ns] at h
    simp [h]
  · rintro rfl
    rfl
instance : DecidableEq Pt := fun _ _ => decidable_of_iff _ Pt.ns_iff
set_option maxRecDepth 100000 in
theorem eqPt (p q : Pt) (W : World) : (Op.equalIn 10000 78 (.agg p.row.toArray) (.agg q.row.toArray)).run Try.prog W = .ok (decide (p = q)) W := by
  obtain ⟨p0, p1, p2, p3, p4, p5, p6, p7, p8⟩ := p
  obtain ⟨q0, q1, q2, q3, q4, q5, q6, q7, q8⟩ := q
  have h := equal_struct Try.underlying78 flat36e (ints [p0, p1, p2, p3, p4, p5, p6, p7, p8]) (ints [q0, q1, q2, q3, q4, q5, q6, q7, q8]) rfl rfl W
  rw [sameL_ints (by rfl)] at h
  refine Eq.trans (show _ = _ from h) ?_
  congr 1
  rw [Bool.eq_iff_iff, decide_eq_true_eq, beq_iff_eq]
  exact Pt.ns_iff (p := ⟨p0, p1, p2, p3, p4, p5, p6, p7, p8⟩) (q := ⟨q0, q1, q2, q3, q4, q5, q6, q7, q8⟩)
theorem take_same {α : Type} {P Q : List α} {k : Nat} {p : α} (h : P.take k = Q.take k) (hp : P[k]? = some p) (hq : Q[k]? = some p) : P.take (k + 1) = Q.take (k + 1) := by
  rw [take_next hp, take_next hq, h]
theorem take_differ {α : Type} {P Q : List α} {k : Nat} {p q : α} (hp : P[k]? = some p) (hq : Q[k]? = some q) (h : p ≠ q) : P ≠ Q := fun e => h (by
  rw [e, hq] at hp
  exact (Option.some.inj hp).symm)
theorem take_whole {α : Type} {P Q : List α} {n : Nat} (h : P.take n = Q.take n) (h1 : n = P.length) (h2 : n = Q.length) : P = Q := by
  rw [h1, List.take_length, ← h1, h2, List.take_length] at h
  exact h
set_option maxRecDepth 100000 in
set_option maxHeartbeats 3200000 in
theorem same28 (va vb : Value) (P Q : List Pt) (w : World) (ha : PtsV w va P) (hb : PtsV w vb Q) (hn : P.length ≤ maxLen) :
    Calls Try.prog 13 #[va, vb] w fun e w' => e = .returned (.bool (decide (P = Q))) ∧ Below w.heap.size w w' := by
  obtain ⟨z, hz⟩ : ∃ z, z = decide (P = Q) := ⟨_, rfl⟩
  rw [← hz]
  have HYES := hid (fun h : P = Q => show z = true by rw [hz]; exact decide_eq_true h)
  have HNO := hid (fun h : P ≠ Q => show z = false by rw [hz]; exact decide_eq_false h)
  clear hz
  obtain ⟨aa, ca, rfl, ha2⟩ := ha
  obtain ⟨ab, cb, rfl, hb2⟩ := hb
  obtain ⟨n, hnl⟩ : ∃ n, n = P.length := ⟨_, rfl⟩
  obtain ⟨m, hml⟩ : ∃ m, m = Q.length := ⟨_, rfl⟩
  rw [← hnl] at hn ⊢
  rw [← hml]
  have HNL := hid hnl
  have HML := hid hml
  have HA := hid ha2
  have HB := hid hb2
  have hn63 : n ≤ 9223372036854775807 := by unfold maxLen at hn; omega
  clear hnl hml ha2 hb2 hn
  by_cases hnm : n = m
  · subst hnm
    go_enter Try.func13, Try.ntmps13
    go_wp2_with fail
    go_loopw [13] (fun iv W => ∃ k : Nat, k ≤ n ∧ iv = .int .i64 (k : Int) ∧ P.take k = Q.take k ∧ Below w.heap.size w W) (fun iv _ => n - (intOf iv).toNat)
    case atStart => exact ⟨0, by omega, rfl, rfl, Below.refl _ _⟩
    case round =>
      obtain ⟨k, hk, rfl, hsame, hB⟩ := hrel
      have HS := hid hsame
      have HBW := hid hB
      have hzw := hB.size
      clear hsame hB
      by_cases hlt : k < n
      · obtain ⟨p, hp⟩ : ∃ p, P[k]? = some p := ⟨_, List.getElem?_eq_getElem (by rw [← HNL.out]; exact hlt)⟩
        obtain ⟨q, hq⟩ : ∃ q, Q[k]? = some q := ⟨_, List.getElem?_eq_getElem (by rw [← HML.out]; exact hlt)⟩
        obtain ⟨b1, o1, rfl, hb1, hr1⟩ := HA.out.resolve_left (fun h => by rw [h] at hp; simp at hp)
        obtain ⟨b2, o2, rfl, hb2', hr2⟩ := HB.out.resolve_left (fun h => by rw [h] at hq; simp at hq)
        have hc1 : ∀ j, j < 9 → wr.cell? ⟨b1, o1 + k * 9 + j, none⟩ = some (.int .i64 (p.f j)) := fun j hj => by
          rw [HBW.out.cell hb1, hr1 k p.row (by rw [List.getElem?_map, hp]; rfl) j hj, Pt.row_at p j hj]
        have hc2 : ∀ j, j < 9 → wr.cell? ⟨b2, o2 + k * 9 + j, none⟩ = some (.int .i64 (q.f j)) := fun j hj => by
          rw [HBW.out.cell hb2', hr2 k q.row (by rw [List.getElem?_map, hq]; rfl) j hj, Pt.row_at q j hj]
        have HPX := hid hp
        have HQX := hid hq
        have heq := fun W => eqPt p q W
        have HBE := hid (fun h : decide (p = q) = true => show P.take (k + 1) = Q.take (k + 1) from take_same HS.out HPX.out ((of_decide_eq_true h) ▸ HQX.out))
        have HBN := hid (fun h : decide (p = q) = false => show z = false from HNO.out (take_differ HPX.out HQX.out (of_decide_eq_false h)))
        clear HPX HQX hp hq hr1 hr2 hb1 hb2'
        generalize decide (p = q) = bq at heq HBE HBN
        obtain ⟨p0, p1, p2, p3, p4, p5, p6, p7, p8⟩ := p
        obtain ⟨q0, q1, q2, q3, q4, q5, q6, q7, q8⟩ := q
        simp only [Pt.row] at heq
        have d3 : decide ((k : Int) < (n : Int)) = true := decide_eq_true (by omega)
        have hk0 : (0 : Int) ≤ (k : Int) := by omega
        have a0 := fun d os => cell_regrown (show wr.cell? ⟨b1, o1 + k * 9, none⟩ = some (.int .i64 p0) from hc1 0 (by decide)) d os
        have a1 := fun d os => cell_regrown (show wr.cell? ⟨b1, o1 + k * 9 + 1, none⟩ = some (.int .i64 p1) from hc1 1 (by decide)) d os
        have a2 := fun d os => cell_regrown (show wr.cell? ⟨b1, o1 + k * 9 + 2, none⟩ = some (.int .i64 p2) from hc1 2 (by decide)) d os
        have a3 := fun d os => cell_regrown (show wr.cell? ⟨b1, o1 + k * 9 + 3, none⟩ = some (.int .i64 p3) from hc1 3 (by decide)) d os
        have a4 := fun d os => cell_regrown (show wr.cell? ⟨b1, o1 + k * 9 + 4, none⟩ = some (.int .i64 p4) from hc1 4 (by decide)) d os
        have a5 := fun d os => cell_regrown (show wr.cell? ⟨b1, o1 + k * 9 + 5, none⟩ = some (.int .i64 p5) from hc1 5 (by decide)) d os
        have a6 := fun d os => cell_regrown (show wr.cell? ⟨b1, o1 + k * 9 + 6, none⟩ = some (.int .i64 p6) from hc1 6 (by decide)) d os
        have a7 := fun d os => cell_regrown (show wr.cell? ⟨b1, o1 + k * 9 + 7, none⟩ = some (.int .i64 p7) from hc1 7 (by decide)) d os
        have a8 := fun d os => cell_regrown (show wr.cell? ⟨b1, o1 + k * 9 + 8, none⟩ = some (.int .i64 p8) from hc1 8 (by decide)) d os
        have b0 := fun d os => cell_regrown (show wr.cell? ⟨b2, o2 + k * 9, none⟩ = some (.int .i64 q0) from hc2 0 (by decide)) d os
        have b1' := fun d os => cell_regrown (show wr.cell? ⟨b2, o2 + k * 9 + 1, none⟩ = some (.int .i64 q1) from hc2 1 (by decide)) d os
        have b2' := fun d os => cell_regrown (show wr.cell? ⟨b2, o2 + k * 9 + 2, none⟩ = some (.int .i64 q2) from hc2 2 (by decide)) d os
        have b3 := fun d os => cell_regrown (show wr.cell? ⟨b2, o2 + k * 9 + 3, none⟩ = some (.int .i64 q3) from hc2 3 (by decide)) d os
        have b4 := fun d os => cell_regrown (show wr.cell? ⟨b2, o2 + k * 9 + 4, none⟩ = some (.int .i64 q4) from hc2 4 (by decide)) d os
        have b5 := fun d os => cell_regrown (show wr.cell? ⟨b2, o2 + k * 9 + 5, none⟩ = some (.int .i64 q5) from hc2 5 (by decide)) d os
        have b6 := fun d os => cell_regrown (show wr.cell? ⟨b2, o2 + k * 9 + 6, none⟩ = some (.int .i64 q6) from hc2 6 (by decide)) d os
        have b7 := fun d os => cell_regrown (show wr.cell? ⟨b2, o2 + k * 9 + 7, none⟩ = some (.int .i64 q7) from hc2 7 (by decide)) d os
        have b8 := fun d os => cell_regrown (show wr.cell? ⟨b2, o2 + k * 9 + 8, none⟩ = some (.int .i64 q8) from hc2 8 (by decide)) d os
        clear hc1 hc2
        cases bq
        · have HF := hid (HBN.out rfl)
          clear HBN HBE
          go_wp2_with fail
          refine wp_region_quiet_below (by kernel_rfl) (by kernel_rfl) ?_
          repeat (first | go_big_quiet_step (fail) | quiet_step (fail))
          refine wpQuiet_nil ?_
          intro _ hw'
          obtain ⟨⟨dqV, osV⟩, hw2⟩ := hw'
          subst hw2
          have HQV := hid (below_regrown wr dqV osV)
          generalize Sort.grow (redrawn wr dqV) osV = V at HQV ⊢
          have hsV := HQV.out.size
          have HB3 := hid (HBW.out.trans (HQV.out.mono hzw))
          clear a0 a1 a2 a3 a4 a5 a6 a7 a8 b0 b1' b2' b3 b4 b5 b6 b7 b8
          go_wp2_with fail
          go_ret
          exact ⟨by rw [HF.out]; rfl, HB3.out⟩
        · have HF := hid (HBE.out rfl)
          clear HBN HBE
          go_wp2_with fail
          refine wp_region_quiet_below (by kernel_rfl) (by kernel_rfl) ?_
          repeat (first | go_big_quiet_step (fail) | quiet_step (fail))
          refine wpQuiet_nil ?_
          intro _ hw'
          obtain ⟨⟨dqV, osV⟩, hw2⟩ := hw'
          subst hw2
          have HQV := hid (below_regrown wr dqV osV)
          generalize Sort.grow (redrawn wr dqV) osV = V at HQV ⊢
          have hsV := HQV.out.size
          have HB3 := hid (HBW.out.trans (HQV.out.mono hzw))
          clear a0 a1 a2 a3 a4 a5 a6 a7 a8 b0 b1' b2' b3 b4 b5 b6 b7 b8
          go_wp2_with fail
          exact ⟨⟨k + 1, by omega, by go_num, HF.out, HB3.out⟩, by simp [intOf]; omega⟩
      · obtain rfl : k = n := by omega
        have d3 : decide ((k : Int) < (k : Int)) = false := by simp
        have HF := hid (HYES.out (take_whole HS.out HNL.out HML.out))
        go_wp2_with fail
        go_ret
        exact ⟨by rw [HF.out]; rfl, HBW.out⟩
  · have d1 : ((n : Int) == (m : Int)) = false := by simp; omega
    have HF := hid (HNO.out (fun h => hnm (by rw [HNL.out, HML.out, h])))
    go_enter Try.func13, Try.ntmps13
    go_wp2_with fail
    go_ret
    exact ⟨by rw [HF.out]; rfl, by (repeat' (first | (with_reducible exact Below.refl _ _) | (with_reducible assumption) | (with_reducible refine Below.alloc ?_ ?_ _) | (with_reducible refine Below.drew ?_) | (with_reducible refine below_drewN ?_ _) | (with_reducible refine Below.setCell ?_ ?_ _) | (with_reducible refine below_setRow ?_ ?_ _) | go_size))⟩
end Go.Proofs.Ytpablkmdpoombaa

/- MapX -/
namespace Go.Proofs.Ytpablkmdpoombaa
open Go.RowKit Go.Maps

/-- block b is a map of s entries (s at most n) -/
def MapZ (P : Program) (W : World) (k : TypeId) (b n s : Nat) (get : Lit → Option Value) : Prop :=
  ∃ D : DataW Value, W.ownsMap P k heldR b n D ∧ (∀ kl z, D.atKey kl (.held z) = .held ((get kl).getD z)) ∧ (∀ kl, Maps.has D kl = (get kl).isSome) ∧ Maps.size D = s
section
variable {P : Program} {W W' : World} {k t e : TypeId} {b n s : Nat} {get : Lit → Option Value}
theorem MapZ.made (W : World) : MapZ P (W.alloc (.map #[] 0)) k W.heap.size 0 0 (fun _ => none) :=
  ⟨.map [], World.ownsMap_made W P k heldR, fun _ _ => rfl, fun _ => rfl, rfl⟩
theorem MapZ.kept {row : Option Nat} (h : MapZ P W k b n s get) (hg : W.grownBy W' row) (hne : some b ≠ row) : MapZ P W' k b n s get := by
  obtain ⟨D, h1, h2⟩ := h
  exact ⟨D, h1.kept hg hne, h2⟩
theorem MapZ.grow (h : MapZ P W k b n s get) (hb : Below W.heap.size W W') : MapZ P W' k b n s get := h.kept (below_grownBy hb) (by simp)
theorem MapZ.mono (h : MapZ P W k b n s get) {n' : Nat} (hn : n ≤ n') : MapZ P W k b n' s get := by
  obtain ⟨D, h1, h2⟩ := h
  exact ⟨D, h1.mono hn, h2⟩
theorem MapZ.look_ok (h : MapZ P W k b n s get) (K : Keyed P k) (ht : P.underlying t = some (.map k e)) {z : Value} (hz : (zeroValue e).run P W = .ok z W) {key : Value} {kl : Lit} (hkey : keyOf P k key = some kl) :
    (Instr.lookup t (.map (some b)) key true).run P W = .ok (.tuple #[(get kl).getD z, .bool (get kl).isSome]) W := by
  obtain ⟨D, h1, h2, h3, _⟩ := h
  obtain ⟨v, ps, hrun, hv⟩ := h1.look_ok K ht hz (zd := .held z) (zp := []) rfl hkey
  rw [h2] at hv
  simp only [heldR, Option.some.injEq, Prod.mk.injEq] at hv
  have := hv.1
  injection this with this
  rw [← this, ← h3]
  exact hrun
theorem MapZ.put (h : MapZ P W k b n s get) (K : Keyed P k) (ht : P.underlying t = some (.map k e)) (hn : n < maxLen) {key val : Value} {kl : Lit} (hkey : keyOf P k key = some kl) (hnew : get kl = none) :
    ∃ w', (Instr.mapUpdate t (.map (some b)) key val).run P W = .ok () w' ∧ MapZ P w' k b (n + 1) (s + 1) (putG get kl val) ∧ W.grownBy w' (some b) := by
  obtain ⟨D, h1, h2, h3, h4⟩ := h
  obtain ⟨w', hrun, hown, hg⟩ := h1.update K ht hn (d := .held val) (ps := []) hkey rfl
  refine ⟨w', hrun, ⟨_, hown, fun x z => ?_, fun x => ?_, ?_⟩, hg⟩
  · unfold putG
    by_cases hx : x = kl
    · subst hx
      rw [if_pos (WideAt.sameKey_self (K.key hkey)), atKey_put_same h1.isMap (K.key hkey)]
      rfl
    · rw [if_neg (by rw [sameKey_ne hx]; simp), atKey_put_other hx]
      exact h2 x z
  · unfold putG
    by_cases hx : x = kl
    · subst hx
      rw [if_pos (WideAt.sameKey_self (K.key hkey)), has_put_same h1.isMap (K.key hkey)]
      rfl
    · rw [if_neg (by rw [sameKey_ne hx]; simp), has_put_other hx]
      exact h3 x
  · rw [size_put (h1.tidy K), h3, hnew, h4]
    rfl
/-- 'm[k] = v' of a new key, at the operation -/
theorem wpList_putZ {ops : Array Oper} {rest : List Oper} {o : Oper} {a : Act} {Q : Exit → Act → World → Prop} (hg : o.guard = none) (m x v : Operand) (t : TypeId) (hop : o.op = Op.mapUpdate t m x v)
    (K : Keyed P k) (ht : P.underlying t = some (.map k e)) (hm : a.eval m = .map (some b)) (h : MapZ P W k b n s get) (hn : n < maxLen) (key val : Value) (kl : Lit) (hx : a.eval x = key) (hv : a.eval v = val) (hkey : keyOf P k key = some kl) (hnew : get kl = none)
    (hK : ∀ w', MapZ P w' k b (n + 1) (s + 1) (putG get kl val) → W.grownBy w' (some b) → wpList P ops Q rest (a.put o.dst undef) w') : wpList P ops Q (o :: rest) a W := by
  refine wpList_plain hg fun K' hK' => ?_
  obtain ⟨w', hrun, r1, r2⟩ := h.put K ht hn (val := val) hkey hnew
  unfold Oper.wp
  simp [execOp, hop, hm, hx, hv, hrun, Result.andThen]
  exact hK' _ _ (hK w' r1 r2)
end
/-- the map of points by their Ids -/
def ptG (L : List Pt) : Lit → Option Value := fun l => (L.find? (fun p => (Lit.int .i64 p.id).sameKey l)).map (fun p => .agg p.row.toArray)
theorem ptG_nil : ptG [] = fun _ => none := rfl
theorem ptG_int (L : List Pt) (z : Int) : ptG L (.int .i64 z) = (L.find? (fun p => p.id == z)).map (fun p => .agg p.row.toArray) := by
  unfold ptG
  congr 2
  funext p
  exact same_int _ _
theorem ptG_none {L : List Pt} {z : Int} (h : ∀ p ∈ L, p.id ≠ z) : ptG L (.int .i64 z) = none := by
  rw [ptG_int, Option.map_eq_none_iff, List.find?_eq_none]
  intro p hp
  simp [h p hp]
theorem ptG_some {L : List Pt} {z : Int} : (ptG L (.int .i64 z)).isSome = decide (∃ p ∈ L, p.id = z) := by
  rw [ptG_int, Option.isSome_map, Bool.eq_iff_iff, decide_eq_true_eq, List.find?_isSome]
  simp
theorem ptG_put (L : List Pt) (p : Pt) : putG (ptG L) (.int .i64 p.id) (.agg p.row.toArray) = ptG (p :: L) := by
  funext l
  by_cases h : l = .int .i64 p.id
  · subst h
    rw [putG_same (show WideAt.IsKeyLit (Lit.int .i64 p.id) from trivial), ptG_int]
    simp
  · rw [putG_other h]
    unfold ptG
    rw [List.find?_cons, sameKey_ne (Ne.symm h)]
end Go.Proofs.Ytpablkmdpoombaa

