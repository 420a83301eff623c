/- Texts of the seat Ytpablkmdpoombaa, turned to this one by wip/port.py: AidB AidC AidD AidE. -/
import Derived.Test.YtpfighhhemnhaaaGreatA
import Derived.Test.YtpfighhhemnhaaaGreatB
import Derived.Test.YtpfighhhemnhaaaGreatC
import Derived.Test.YtpfighhhemnhaaaGreatD
import Derived.WalkKit
import Derived.ProofKit
import Derived.Handy
import Derived.WalkSpells
import Derived.Deep.QuietTactic
import Derived.BigQuiet
import Derived.BigRegion
import Derived.Laws.CopyOwn
import Derived.Lib.SmallJoins
import Derived.Orders
import Derived.Laws.Tables
import Derived.Deep.MidRow
import Derived.OpenShut
import Derived.Deep.Slices
import GoSem.Claim
import GoSem.ClaimJoined
import Derived.SizedLaws
import Derived.Carry
/- AidB -/
namespace Go.Proofs.YtpfighhhemnhaaaGreat
open Go.RowKit

theorem wpList_store_at {P : Program} {ops : Array Oper} {rest : List Oper} {o : Oper} {a : Act} {w : World} {Q : Exit → Act → World → Prop} (hgd : o.guard = none) (ty : TypeId) (x y : Operand) (ho : o.op = .store ty x y)
    {g : Nat} {cells old : Array Value} {t : TypeId} (hx : a.eval x = .pointer (some ⟨g, 0, none⟩)) (hy : a.eval y = .agg cells)
    (hg : w.heap[g]? = some (.cells old t (0, 0))) {n : Nat} (hi : (P.info? ty).map (·.size) = some n) (hs : cells.size = n)
    (hold : old.size = n) (h1 : cells.toList.all (·.oneCell') = true)
    (h : wpList P ops Q rest (a.put o.dst undef) (w.setRow g cells)) : wpList P ops Q (o :: rest) a w :=
  wpList_store_row hgd ty x y ho g cells hx hy t old hg (by rw [hs]; exact hi) (by rw [hs]; exact hold) (by rw [← Array.all_toList]; exact h1) h
section
variable {P : Program} {fn : Func} {p u v : Tmp} {ty : TypeId} {tmps : Array Value} {w : World} {g : Nat} {t : TypeId} {cs : Array Value} {fr : Nat × Nat} {d : TypeDesc} {n : Nat}
end
end Go.Proofs.YtpfighhhemnhaaaGreat
namespace Go.Proofs.YtpfighhhemnhaaaGreat
open Go.RowKit

section
variable {P : Program} {Q : Exit → Act → World → Prop} {J : (Nat → Bool) → Act → World → Prop}

end
end Go.Proofs.YtpfighhhemnhaaaGreat
namespace Go.Proofs.YtpfighhhemnhaaaGreat
open Go.RowKit

section
variable {P : Program} {Q : Exit → Act → World → Prop}
end
end Go.Proofs.YtpfighhhemnhaaaGreat
namespace Go.Proofs.YtpfighhhemnhaaaGreat
open Go.RowKit

section
variable {P : Program} {Q : Exit → Act → World → Prop}
end
end Go.Proofs.YtpfighhhemnhaaaGreat
namespace Go.Proofs.YtpfighhhemnhaaaGreat
open Go.RowKit

section
variable {P : Program} {Q : Exit → Act → World → Prop}
end
end Go.Proofs.YtpfighhhemnhaaaGreat
namespace Go.Proofs.YtpfighhhemnhaaaGreat
open Go.RowKit
section
variable {P : Program} {Q : Exit → Act → World → Prop}
end
end Go.Proofs.YtpfighhhemnhaaaGreat
namespace Go.Proofs.YtpfighhhemnhaaaGreat
open Go.RowKit

section
variable {P : Program} {Q : Exit → Act → World → Prop}
end
end Go.Proofs.YtpfighhhemnhaaaGreat
namespace Go.Proofs.YtpfighhhemnhaaaGreat
open Go.RowKit

section
variable {P : Program} {Q : Exit → Act → World → Prop}
end
end Go.Proofs.YtpfighhhemnhaaaGreat
namespace Go.Proofs.YtpfighhhemnhaaaGreat
open Go.RowKit

section
variable {W0 W W' : World} {c m : Nat} {V : Nat → Value} {Z C : Nat → Array Value} {T : Nat → TypeId} {L : Nat → Bool} {us : Nat → Value}
end
end Go.Proofs.YtpfighhhemnhaaaGreat
namespace Go.Proofs.YtpfighhhemnhaaaGreat
open Go.RowKit Go.Deep

end Go.Proofs.YtpfighhhemnhaaaGreat

namespace Go.Proofs.YtpfighhhemnhaaaGreat
open Go.RowKit Go.Maps

def kLit (k : Ky) : Lit := .string (keyBytes [.int .i64 k.L, .int .i64 k.x, .int .i64 k.y, .int .i64 k.z])
end Go.Proofs.YtpfighhhemnhaaaGreat
namespace Go.Proofs.YtpfighhhemnhaaaGreat
open Go.RowKit Go.Maps

section
variable {W W' : World} {base t sz : Nat} {v : Value} {l : List (List Value)}
end
end Go.Proofs.YtpfighhhemnhaaaGreat
namespace Go.Proofs.YtpfighhhemnhaaaGreat
open Go.RowKit Go.Maps

end Go.Proofs.YtpfighhhemnhaaaGreat
namespace Go.Proofs.YtpfighhhemnhaaaGreat
open Go.RowKit Go.Maps

/-- what has been laid above a level, and of the level all but what is still to come -/
def aboveL (S : List Pt) (c : Nat) (l : Nat) (left : Lit → Bool) : Pt → Ky → Prop := fun p k => p ∈ S ∧ isAt S c p k ∧ (k.L < l ∨ (k.L = l ∧ left (kLit k) = false))
structure RngAt (W : World) (base bl mb r n : Nat) (get : Lit → Option Value) (left : Lit → Bool) (cnt : Nat) (S : List Pt) (c l : Nat) (Lf : List Pt) (E : List Te) (ov rv : Value) : Prop where
  rng : RangeAt Tryz.prog W 357 mb r n get left cnt
  has : ∀ kl, left kl = true → (get kl).isSome = true
  own : ∀ k : Ky, k.small → ∀ v, get (kLit k) = some v → left (kLit k) = true → OwnP W bl v (grp S c l Lf Lf.length k)
  tin : TilesIn W base ov E
  til : Tiles (aboveL S c l left) (E.map Te.tl)
  old : ∀ e ∈ E, ∀ g, e.v.ownBlock = some g → g < bl ∨ ∃ k : Ky, k.small ∧ get (kLit k) = some e.v ∧ left (kLit k) = false
  rest : OwnP W bl rv (rst S c l Lf Lf.length)
  keys : ∀ e ∈ E, e.ok
theorem RngAt.done {W : World} {base bl mb r n cnt c l : Nat} {get : Lit → Option Value} {left : Lit → Bool} {S Lf : List Pt} {E : List Te} {ov rv : Value} (h : RngAt W base bl mb r n get left cnt S c l Lf E ov rv) (hd : ∀ kl, left kl = false) : Tiles (above S c (l + 1)) (E.map Te.tl) :=
  h.til.congr (fun p k => by
    constructor
    · rintro ⟨h1, h2, h3⟩
      refine ⟨h1, h2, ?_⟩
      rcases h3 with h3 | ⟨h3, _⟩
      · omega
      · omega
    · rintro ⟨h1, h2, h3⟩
      refine ⟨h1, h2, ?_⟩
      obtain ⟨m, _, hm⟩ := isAt_bd h2
      by_cases he : k.L = l
      · exact Or.inr ⟨he, hd _⟩
      · left; omega)
end Go.Proofs.YtpfighhhemnhaaaGreat
namespace Go.Proofs.YtpfighhhemnhaaaGreat
open Go.RowKit Go.Maps

/-- the clone of a slice of points -/
theorem clone_pts (b off c : Nat) (l : List Pt) (w : World) (hn : l.length ≤ 4096) (hbw : b < w.heap.size) (hr : RowsAt w b off 9 (l.map Pt.row)) :
    Calls Tryz.prog 69 #[.slice (some ⟨b, off, none⟩) l.length c] w fun r w' => (∃ v, r = .returned v ∧ OwnP w' w.heap.size v l) ∧ Below w.heap.size w w' := by
  have h9 : recs9 w b off l.length (fun i j => (l[i]!).f j) := fun i hi j hj => by
    have := hr i (l[i]!).row (by rw [List.getElem?_map, List.getElem?_eq_getElem hi, getElem!_pos l i hi]; rfl) j hj
    rw [Pt.row_at _ j hj] at this
    exact this
  have e : ptRows (ptList (fun i j => (l[i]!).f j) l.length) = l.map Pt.row := by
    refine List.ext_getElem? fun i => ?_
    by_cases hi : i < l.length
    · simp [ptRows, ptList, hi]
      rfl
    · simp [ptRows, ptList, hi]
  refine (clone_any b off l.length c _ w (by omega) hbw h9).mono ?_
  rintro r w' ⟨⟨v, rfl, hv⟩, hb⟩
  rw [e] at hv
  exact ⟨⟨v, rfl, hv⟩, hb⟩
set_option maxRecDepth 100000 in
theorem clone_empty (a : Option Addr) (c : Nat) (w : World) :
    Calls Tryz.prog 69 #[.slice a 0 c] w fun r w' => (∃ v, r = .returned v ∧ OwnP w' w.heap.size v []) ∧ Below w.heap.size w w' := by
  obtain ⟨i0, hi, hz0, hz1, hz2⟩ := info_parts info36
  have HI := hid hi
  have HZ0 := hid hz0
  have HZ1 := hid hz1
  have HZ2 := hid hz2
  clear hi hz0 hz1 hz2
  cases a with
  | none =>
    have heq := fun w => Lib.run_eql_slice_nil (P := Tryz.prog) w 73 109 none 0 c 0 0 Tryz.underlying73
    go_enter Tryz.func69, Tryz.ntmps69
    go_wp2_with fail
    go_ret
    exact ⟨⟨_, rfl, OwnR.nil _ _ _ _⟩, Below.refl _ _⟩
  | some ad =>
    have heq := fun w => Lib.run_eql_slice_nil (P := Tryz.prog) w 73 109 (some ad) 0 c 0 0 Tryz.underlying73
    have hown0 : OwnR (w.alloc (.cells #[] 109)) w.heap.size 109 9 (.slice (some ⟨w.heap.size, 0, none⟩) 0 0) [] := ⟨Wide.nil 9, rfl, Or.inr ⟨_, 0, #[], rfl, Nat.le_refl _, (by repeat' (first | (refine heap_alloc_at _ _ _ ?_; (first | rfl | (simp; done) | (simp; omega))) | (refine heap_alloc_past _ _ _ _ ?_))), Nat.le_refl _, by unfold maxLen; omega, rfl, rfl⟩⟩
    have HOWN := hid hown0
    clear hown0
    go_enter Tryz.func69, Tryz.ntmps69
    go_wp2_with (first
      | (at_builtin
         refine wpList_append_own_at _ rfl (.tmp 5) (.tmp 6) 73 rfl w.heap.size 109 i0 _ 9 72 Tryz.underlying73 HI.out HZ0.out HZ1.out HZ2.out rfl (by decide) _ 0 [] rfl HOWN.out.2 ad 0 c [] rfl rfl (fun j u h => by simp at h) (fun u h => by simp at h) (by unfold maxLen; omega) (by omega) (by simp) ?_
         intro v' w1 hown hgrow _ halt
         have HO := hid (show OwnR w1 w.heap.size 109 9 v' [] from ⟨Wide.nil 9, by simpa using hown⟩)
         have HB := hid (show Below w.heap.size w w1 from ((Below.refl _ _).alloc (Nat.le_refl _) _).grown hgrow (by simp) (fun k hk => by have e : some w.heap.size = some k := hk; injection e with e; omega))
         clear hown hgrow halt))
    go_ret
    exact ⟨⟨v', rfl, HO.out⟩, HB.out⟩
end Go.Proofs.YtpfighhhemnhaaaGreat
namespace Go.Proofs.YtpfighhhemnhaaaGreat
open Go.RowKit Go.Maps Go.Sort

end Go.Proofs.YtpfighhhemnhaaaGreat
namespace Go.Proofs.YtpfighhhemnhaaaGreat
open Go.RowKit Go.Maps

end Go.Proofs.YtpfighhhemnhaaaGreat

namespace Go.Proofs.YtpfighhhemnhaaaGreat
open Go.RowKit

theorem Only.below {rb B : Nat} {w w' : World} (h : Only rb w.heap.size w w') (hB : B ≤ rb) (hs : B ≤ w.heap.size) : Below B w w' :=
  ⟨h.os, h.tape, h.output, h.size, fun k hk => h.block k (by omega) (by omega)⟩
end Go.Proofs.YtpfighhhemnhaaaGreat


/- AidC -/
namespace Go.Proofs.YtpfighhhemnhaaaGreat
open Go.RowKit Go.Maps

end Go.Proofs.YtpfighhhemnhaaaGreat
namespace Go.Proofs.YtpfighhhemnhaaaGreat
open Go.RowKit Go.Maps

section
variable {W W' : World} {base t sz : Nat} {v : Value} {l : List (List Value)}
end
end Go.Proofs.YtpfighhhemnhaaaGreat
namespace Go.Proofs.YtpfighhhemnhaaaGreat
open Go.RowKit Go.Maps

end Go.Proofs.YtpfighhhemnhaaaGreat
namespace Go.Proofs.YtpfighhhemnhaaaGreat
open Go.RowKit Go.Maps

end Go.Proofs.YtpfighhhemnhaaaGreat
namespace Go.Proofs.YtpfighhhemnhaaaGreat
open Go.RowKit Go.Maps

end Go.Proofs.YtpfighhhemnhaaaGreat
namespace Go.Proofs.YtpfighhhemnhaaaGreat
open Go.RowKit Go.Maps Go.Sort

theorem OwnP.ptsV {W : World} {base : Nat} {v : Value} {l : List Pt} (h : OwnP W base v l) : PtsV W v l := by
  by_cases hl : l = []
  · obtain ⟨a, cap, hv⟩ := h.slice
    exact ⟨a, cap, hv, Or.inl hl⟩
  · have hp : 0 < l.length := List.length_pos_iff.2 hl
    obtain ⟨g, cap, cur, h1, hb, h2, h3, _⟩ := OwnR.rows h (by simpa using hp)
    rw [List.length_map] at h1
    exact ⟨_, cap, h1, Or.inr ⟨g, 0, rfl, (Array.getElem?_eq_some_iff.1 h2).1, h3⟩⟩
end Go.Proofs.YtpfighhhemnhaaaGreat
namespace Go.Proofs.YtpfighhhemnhaaaGreat
open Go.RowKit Go.Maps

end Go.Proofs.YtpfighhhemnhaaaGreat


/- AidE -/
namespace Go.Proofs.YtpfighhhemnhaaaGreat
open Go.RowKit

section
variable {P : Program}

end
end Go.Proofs.YtpfighhhemnhaaaGreat
namespace Go.Proofs.YtpfighhhemnhaaaGreat
open Go.ChangeShapes Go.WideShapes Go.ChangeAt Go.RowKit

section
variable {H : Type} {enc : TypeId × Value → H} {P : Program} {w : World} {base : Nat} {spare : Nat → Bool} {held : Bool}

/-- A flat struct or array, by value, as an argument: its cells. -/
theorem open_flat {r : Reach} {b0 f : Nat} {t : TypeId} {ks : List (Option IntKind)} {v : Value} {d : DataW H} {p : List MemPlace} (hf : flatOf P f t = some ks) (hs : (P.info? t).map (·.size) = some ks.length)
    (hagg : (match P.underlying t with | some (.struct _) => true | some (.array _ _) => true | _ => false) = true) (hv : Value.okWide P w r b0 t v) (h : DataW.Trod enc P w base spare held t v d p) :
    ∃ cs : List Value, v = .agg cs.toArray ∧ fitsW ks cs := by
  obtain ⟨cs, rfl, hsz⟩ : ∃ cs, v = .agg cs ∧ cs.size = P.cellsOf t := by
    unfold Value.okWide at hv
    split at hv
    · obtain ⟨cs, rfl, h, _⟩ := hv; exact ⟨cs, rfl, h⟩
    · obtain ⟨cs, rfl, h, _⟩ := hv; exact ⟨cs, rfl, h⟩
    · rename_i h1 h2
      split at hagg
      · rename_i fs he; exact absurd he (h1 fs)
      · rename_i n e he; exact absurd he (h2 n e)
      · simp at hagg
  obtain ⟨fuel, hx⟩ := h
  rw [cellsOf_of hs] at hsz
  exact ⟨cs.toList, by simp, trod_flat f t ks fuel _ _ hf (by simpa using hsz) (by simpa [Value.cells] using hx)⟩
end
end Go.Proofs.YtpfighhhemnhaaaGreat
namespace Go.Proofs.YtpfighhhemnhaaaGreat
open Go.ChangeShapes Go.WideShapes Go.ChangeAt Go.RowKit Go.Deep
section
variable {H : Type} {enc : TypeId × Value → H} {P : Program} {w : World} {base : Nat} {spare : Nat → Bool} {held : Bool}

end
end Go.Proofs.YtpfighhhemnhaaaGreat


