/- The bytes of a tile, in plain Lean. -/
import Derived.Test.YteanlcefdoigcaaTileM
import Derived.Test.YteanlcefdoigcaaWriter
import Derived.Test.YteanlcefdoigcaaCrcX
namespace Go.Proofs.Yteanlcefdoigcaa
open Go.RowKit

/-- the bytes of a point behind one with the Id l -/
def encP (l : Int) (p : Pt) : List Nat := encs encU [p.id - l] ++ encs encS [p.x, p.y, p.zl] ++ encs encU [p.zh - p.zl, p.wd, p.nm, p.of, p.cl]
def encPs : Int → List Pt → List Nat
  | _, [] => []
  | l, p :: P => encP l p ++ encPs p.id P
def endL : Int → List Pt → Int
  | l, [] => l
  | _, p :: P => endL p.id P
theorem endL_snoc (l : Int) (p : Pt) : ∀ A, endL l (A ++ [p]) = p.id
  | [] => rfl
  | a :: A => endL_snoc a.id p A
theorem encPs_snoc (p : Pt) : ∀ (l : Int) A, encPs l (A ++ [p]) = encPs l A ++ encP (endL l A) p
  | l, [] => by simp [encPs, endL]
  | l, a :: A => by show encP l a ++ encPs a.id (A ++ [p]) = _; rw [encPs_snoc p a.id A]; simp [encPs, endL]
/-- the numbers of a point can be written -/
structure NumP (l : Int) (p : Pt) : Prop where
  id : 0 ≤ p.id - l ∧ p.id - l ≤ 4611686018427387903
  i : 0 ≤ p.id ∧ p.id ≤ 1152921504606846976
  l : 0 ≤ l ∧ l ≤ 1152921504606846976
  x : -268435456 ≤ p.x ∧ p.x ≤ 268435456
  y : -268435456 ≤ p.y ∧ p.y ≤ 268435456
  z : -268435456 ≤ p.zl ∧ p.zl ≤ 268435456
  h : p.zl ≤ p.zh ∧ p.zh ≤ 268435456
  wd : 0 ≤ p.wd ∧ p.wd ≤ 268435456
  nm : 0 ≤ p.nm ∧ p.nm ≤ 15
  of : 0 ≤ p.of ∧ p.of ≤ 15
  cl : 0 ≤ p.cl ∧ p.cl ≤ 255
def NumsOk (P : List Pt) : Prop := ∀ k p, P[k]? = some p → NumP (endL 0 (P.take k)) p
theorem okP_nums {p : Pt} (h : okP p = true) : (0 ≤ p.id ∧ p.id ≤ 1152921504606846976) ∧ (-268435456 ≤ p.x ∧ p.x ≤ 268435456) ∧ (-268435456 ≤ p.y ∧ p.y ≤ 268435456) ∧ (-268435456 ≤ p.zl ∧ p.zl ≤ 268435456) ∧ (p.zl ≤ p.zh ∧ p.zh ≤ 268435456) ∧ (0 ≤ p.wd ∧ p.wd ≤ 268435456) ∧ (0 ≤ p.nm ∧ p.nm ≤ 15) ∧ (0 ≤ p.of ∧ p.of ≤ 15) ∧ (0 ≤ p.cl ∧ p.cl ≤ 255) := by
  simp [okP, pointB, placeB, inB] at h
  omega
theorem pw_ltE {α : Type} {r : α → α → Prop} {E : List α} {i j : Nat} {a b : α} (hij : i < j) (hi : E[i]? = some a) (hj : E[j]? = some b) (h : E.Pairwise r) : r a b := by
  obtain ⟨h1, rfl⟩ := List.getElem?_eq_some_iff.1 hi
  obtain ⟨h2, rfl⟩ := List.getElem?_eq_some_iff.1 hj
  exact List.pairwise_iff_getElem.1 h i j h1 h2 hij
theorem nums_ok {P : List Pt} (hg : goodL P = true) (ha : P.Pairwise (fun p q => p.id < q.id)) : NumsOk P := fun k p hp => by
  have hall := (goodL_iff P).1 hg |>.2.1
  obtain ⟨h1, h2, h3, h4, h5, h6, h7, h8, h9⟩ := okP_nums (hall p (List.mem_of_getElem? hp))
  have hl : (0 ≤ endL 0 (P.take k) ∧ endL 0 (P.take k) ≤ 1152921504606846976) ∧ endL 0 (P.take k) ≤ p.id := by
    cases k with
    | zero => exact ⟨⟨Int.le_refl _, show (0 : Int) ≤ _ by decide⟩, h1.1⟩
    | succ j =>
      have hlen := (List.getElem?_eq_some_iff.1 hp).1
      have hj : P[j]? = some P[j] := List.getElem?_eq_getElem (by omega)
      rw [take_next hj, endL_snoc]
      have hq := okP_nums (hall P[j] (List.mem_of_getElem? hj))
      have := pw_ltE (show j < j + 1 by omega) hj hp ha
      exact ⟨hq.1, by omega⟩
  exact ⟨by omega, h1, hl.1, h2, h3, h4, h5, h6, h7, h8, h9⟩
/-- the bytes of a tile ahead of its checksum -/
def encB (t : Tl) : List Nat := encs encU [t.key.L, t.key.x, t.key.y, t.key.z] ++ encs encU [(t.pts.length : Int)] ++ encPs 0 t.pts
def bytes4 (n : Nat) : List Nat := [n / 16777216 % 256, n / 65536 % 256, n / 256 % 256, n % 256]
def crcL (xs : List Nat) : Nat := crcV (fun i => xs.getD i 0) xs.length
def encT (t : Tl) : List Nat := encB t ++ bytes4 (crcL (encB t))
theorem encP_len {l : Int} {p : Pt} (h : NumP l p) : (encP l p).length ≤ 81 := by
  have h1 := encs_len (f := encU) (m := 9) [p.id - l] (fun z hz => nat_len (by simp at hz; subst hz; exact h.id))
  have h2 := encs_len (f := encS) (m := 9) [p.x, p.y, p.zl] (fun z hz => zig_len (by
    have := h.x; have := h.y; have := h.z
    simp at hz; omega))
  have h3 := encs_len (f := encU) (m := 9) [p.zh - p.zl, p.wd, p.nm, p.of, p.cl] (fun z hz => nat_len (by
    have := h.z; have := h.h; have := h.wd; have := h.nm; have := h.of; have := h.cl
    simp at hz; omega))
  simp at h1 h2 h3
  unfold encP
  simp
  omega
theorem encPs_len {P : List Pt} (h : NumsOk P) : ∀ k, k ≤ P.length → (encPs 0 (P.take k)).length ≤ 81 * k
  | 0, _ => by simp [encPs]
  | k + 1, hk => by
    have hp : P[k]? = some P[k] := List.getElem?_eq_getElem (by omega)
    have h1 := encPs_len h k (by omega)
    have h2 := encP_len (h k _ hp)
    rw [take_next hp, encPs_snoc, List.length_append]
    omega
end Go.Proofs.Yteanlcefdoigcaa
