/- Texts of the seat Yteanlcefdoigcaa, turned to this one by wip/port.py: LayX RSort. -/
import Derived.Test.YtaglidlabfgjmaaGreatFun
import Derived.Test.YtaglidlabfgjmaaGreatAw
/- LayX -/
namespace Go.Proofs.YtaglidlabfgjmaaGreat
open Go.RowKit Go.Maps

end Go.Proofs.YtaglidlabfgjmaaGreat
namespace Go.Proofs.YtaglidlabfgjmaaGreat
open Go.RowKit Go.Maps

section
variable {W W' : World} {base t sz : Nat} {v : Value} {l : List (List Value)}
end
/-- a slice of points of the call's own, from a block on -/
def OwnP (W : World) (base : Nat) (v : Value) (l : List Pt) : Prop := OwnR W base 78 9 v (l.map Pt.row)
theorem OwnP.slice {W : World} {base : Nat} {v : Value} {l : List Pt} (h : OwnP W base v l) : ∃ a cap, v = .slice a l.length cap := by
  have := OwnR.slice h
  rwa [List.length_map] at this
end Go.Proofs.YtaglidlabfgjmaaGreat
namespace Go.Proofs.YtaglidlabfgjmaaGreat
open Go.RowKit Go.Maps

end Go.Proofs.YtaglidlabfgjmaaGreat
namespace Go.Proofs.YtaglidlabfgjmaaGreat
open Go.RowKit Go.Maps

end Go.Proofs.YtaglidlabfgjmaaGreat
namespace Go.Proofs.YtaglidlabfgjmaaGreat
open Go.RowKit Go.Maps

end Go.Proofs.YtaglidlabfgjmaaGreat
namespace Go.Proofs.YtaglidlabfgjmaaGreat
open Go.RowKit Go.Maps Go.Sort

end Go.Proofs.YtaglidlabfgjmaaGreat
namespace Go.Proofs.YtaglidlabfgjmaaGreat
open Go.RowKit Go.Maps

end Go.Proofs.YtaglidlabfgjmaaGreat

/- RSort -/
namespace Go.Proofs.YtaglidlabfgjmaaGreat
open Go.RowKit

section
variable {W0 W1 W2 W : World} {s1 s2 : Nat} {ps : List Nat} {vs : List Value} {L : Nat → Bool} {us : Nat → Value} {v : Value}
end

end Go.Proofs.YtaglidlabfgjmaaGreat
namespace Go.Proofs.YtaglidlabfgjmaaGreat
open Go.RowKit

section
variable {α : Type}
end
end Go.Proofs.YtaglidlabfgjmaaGreat
namespace Go.Proofs.YtaglidlabfgjmaaGreat
open Go.ChangeShapes Go.WideShapes Go.ChangeAt Go.RowKit Go.Deep

section
variable {H : Type} {enc : TypeId × Value → H} {P : Program} {w : World} {base : Nat} {spare : Nat → Bool} {held : Bool}

/-- A slice of flat structs, arrays or integers, in a cell. -/
theorem open_cell_rows {f fuel : Nat} {t e : TypeId} {ks : List (Option IntKind)} {v : Value} {x : DataW H × List MemPlace} (ht : P.underlying t = some (.slice e)) (hf : flatOf P f e = some ks) (hs : (P.info? e).map (·.size) = some ks.length) (hz : 0 < ks.length)
    (hx : DataW.trod enc P w base spare held fuel t [v] = some x) :
    ∃ a len cap, v = .slice a len cap ∧ len ≤ maxLen ∧ (a = none → len = 0 ∧ cap = 0) ∧ (0 < len → ∃ (b off : Nat), a = some ⟨b, off, none⟩ ∧ b < w.heap.size ∧ rows w b off ks.length len ks) := by
  rcases open_slice ht hx with ⟨h0, _⟩ | ⟨a, len, cap, m, n, D, Pl, h1, hb, hl, hm, hmm, _, hall⟩
  · exact ⟨none, 0, 0, by simpa using h0, by omega, fun _ => ⟨rfl, rfl⟩, fun h => by omega⟩
  · refine ⟨some a, len, cap, by simpa using h1, by omega, (fun h => by cases h), fun hpos => ?_⟩
    have hle : len ≤ m := by rw [hmm]; split <;> omega
    rw [cellsOf_of hs] at hall
    have key : ∀ i, i < len → ∃ cs : List Value, fitsW ks cs ∧ cs.length = ks.length ∧ ∀ j, j < ks.length → w.cell? ((a.add (i * ks.length)).add j) = cs[j]? := by
      intro i hi
      obtain ⟨cs, hc, ht⟩ := hall i (by omega)
      obtain ⟨_, hlen, hcell⟩ := World.cells?_some hc
      exact ⟨cs, trod_flat f e ks n cs _ hf hlen ht, hlen, hcell⟩
    obtain ⟨b, off, spot⟩ := a
    have hspot : spot = none := by
      obtain ⟨cs, _, hlen, hcell⟩ := key 0 (by omega)
      have h0 := hcell 0 (by omega)
      rw [List.getElem?_eq_getElem (by omega)] at h0
      simpa [Addr.add] using World.cell?_spot h0
    subst hspot
    have hr : rows w b off ks.length len ks := by
      intro i hi
      obtain ⟨cs, hfit, hlen, hcell⟩ := key i hi
      refine ⟨cs, hfit, fun j v hj => ?_⟩
      have hj' : j < ks.length := by rw [← hlen]; exact (List.getElem?_eq_some_iff.1 hj).1
      rw [← hj, ← hcell j hj', ← Go.WideShapes.add_plain, ← Go.WideShapes.add_plain]
    refine ⟨b, off, rfl, ?_, hr⟩
    obtain ⟨cs, _, hlen, hcell⟩ := key 0 hpos
    have h0 := hcell 0 hz
    rw [List.getElem?_eq_getElem (by omega), Go.WideShapes.add_plain, Go.WideShapes.add_plain] at h0
    exact cell_lt h0
end
end Go.Proofs.YtaglidlabfgjmaaGreat
namespace Go.Proofs.YtaglidlabfgjmaaGreat
open Go.RowKit Go.Sort

end Go.Proofs.YtaglidlabfgjmaaGreat

