/- Maps whose elements are kept as they are: what a look-up, a store and a deletion do, in terms of a function from keys to elements. For whatever program. -/
import Derived.Maps.Own
import Derived.Maps.OwnSet
import Derived.Maps.Views
import Derived.Test.YteanlcefdoigcaaPt
namespace Go.Proofs.Yteanlcefdoigcaa
open Go.RowKit Go.Maps

def heldR (v : Value) : Option (DataW Value × List MemPlace) := some (.held v, [])
/-- block b is a map of at most n entries, whose element at a key is what 'get' says -/
def MapAt (P : Program) (W : World) (k : TypeId) (b n : Nat) (get : Lit → Option Value) : Prop :=
  ∃ D : DataW Value, W.ownsMap P k heldR b n D ∧ (∀ kl z, D.atKey kl (.held z) = .held ((get kl).getD z)) ∧ ∀ kl, Maps.has D kl = (get kl).isSome
def putG (get : Lit → Option Value) (k : Lit) (v : Value) : Lit → Option Value := fun x => if x.sameKey k = true then some v else get x
def delG (get : Lit → Option Value) (k : Lit) : Lit → Option Value := fun x => if x.sameKey k = true then none else get x
section
variable {P : Program} {W W' : World} {k t e : TypeId} {b n : Nat} {get : Lit → Option Value}
theorem MapAt.made (W : World) : MapAt P (W.alloc (.map #[] 0)) k W.heap.size 0 (fun _ => none) :=
  ⟨.map [], World.ownsMap_made W P k heldR, fun _ _ => rfl, fun _ => rfl⟩
theorem MapAt.kept {row : Option Nat} (h : MapAt P W k b n get) (hg : W.grownBy W' row) (hne : some b ≠ row) : MapAt P W' k b n get := by
  obtain ⟨D, h1, h2⟩ := h
  exact ⟨D, h1.kept hg hne, h2⟩
theorem below_grownBy (h : Below W.heap.size W W') : W.grownBy W' none := ⟨h.os, h.tape, h.output, h.size, fun k hk _ => h.block k hk⟩
theorem MapAt.grow (h : MapAt P W k b n get) (hb : Below W.heap.size W W') : MapAt P W' k b n get := h.kept (below_grownBy hb) (by simp)
theorem MapAt.lt (h : MapAt P W k b n get) : b < W.heap.size := by
  obtain ⟨D, h1, _⟩ := h
  exact h1.lt
theorem MapAt.mono (h : MapAt P W k b n get) {n' : Nat} (hn : n ≤ n') : MapAt P W k b n' get := by
  obtain ⟨D, h1, h2⟩ := h
  exact ⟨D, h1.mono hn, h2⟩
theorem MapAt.look (h : MapAt P W k b n get) (K : Keyed P k) (ht : P.underlying t = some (.map k e)) {z : Value} (hz : (zeroValue e).run P W = .ok z W) {key : Value} {kl : Lit} (hkey : keyOf P k key = some kl) :
    (Instr.lookup t (.map (some b)) key false).run P W = .ok ((get kl).getD z) W := by
  obtain ⟨D, h1, h2, _⟩ := h
  obtain ⟨v, ps, hrun, hv⟩ := h1.lookup K ht hz (zd := .held z) (zp := []) rfl hkey
  rw [h2] at hv
  simp only [heldR, Option.some.injEq, Prod.mk.injEq] at hv
  have := hv.1
  injection this with this
  rw [← this]
  exact hrun
theorem MapAt.put (h : MapAt P W k b n get) (K : Keyed P k) (ht : P.underlying t = some (.map k e)) (hn : n < maxLen) {key val : Value} {kl : Lit} (hkey : keyOf P k key = some kl) :
    ∃ w', (Instr.mapUpdate t (.map (some b)) key val).run P W = .ok () w' ∧ MapAt P w' k b (n + 1) (putG get kl val) ∧ W.grownBy w' (some b) := by
  obtain ⟨D, h1, h2, h3⟩ := h
  obtain ⟨w', hrun, hown, hg⟩ := h1.update K ht hn (d := .held val) (ps := []) hkey rfl
  refine ⟨w', hrun, ⟨_, hown, fun x z => ?_, fun x => ?_⟩, hg⟩
  · unfold putG
    by_cases hx : x = kl
    · subst hx
      rw [if_pos (WideAt.sameKey_self (K.key hkey)), atKey_put_same h1.isMap (K.key hkey)]
      rfl
    · rw [if_neg (by rw [sameKey_ne hx]; simp), atKey_put_other hx]
      exact h2 x z
  · unfold putG
    by_cases hx : x = kl
    · subst hx
      rw [if_pos (WideAt.sameKey_self (K.key hkey)), has_put_same h1.isMap (K.key hkey)]
      rfl
    · rw [if_neg (by rw [sameKey_ne hx]; simp), has_put_other hx]
      exact h3 x
theorem putG_same {k : Lit} {v : Value} (hk : WideAt.IsKeyLit k) : putG get k v k = some v := by
  unfold putG
  rw [if_pos (WideAt.sameKey_self hk)]
theorem putG_other {x k : Lit} {v : Value} (hne : x ≠ k) : putG get k v x = get x := by
  unfold putG
  rw [if_neg (by rw [sameKey_ne hne]; simp)]
/-- 'm[k] = v' at the operation -/
theorem wpList_put {ops : Array Oper} {rest : List Oper} {o : Oper} {a : Act} {Q : Exit → Act → World → Prop} (hg : o.guard = none) (m x v : Operand) (t : TypeId) (hop : o.op = Op.mapUpdate t m x v)
    (K : Keyed P k) (ht : P.underlying t = some (.map k e)) (hm : a.eval m = .map (some b)) (h : MapAt P W k b n get) (hn : n < maxLen) (key val : Value) (kl : Lit) (hx : a.eval x = key) (hv : a.eval v = val) (hkey : keyOf P k key = some kl)
    (hK : ∀ w', MapAt P w' k b (n + 1) (putG get kl val) → W.grownBy w' (some b) → wpList P ops Q rest (a.put o.dst undef) w') : wpList P ops Q (o :: rest) a W := by
  refine wpList_plain hg fun K' hK' => ?_
  obtain ⟨w', hrun, r1, r2⟩ := h.put K ht hn (val := val) hkey
  unfold Oper.wp
  simp [execOp, hop, hm, hx, hv, hrun, Result.andThen]
  exact hK' _ _ (hK w' r1 r2)
end
end Go.Proofs.Yteanlcefdoigcaa
