/- A range over a map that is kept as a function from keys to elements. For whatever program. -/
import Derived.Test.YteanlcefdoigcaaMapV
import Derived.Maps.RangeWalk
namespace Go.Proofs.Yteanlcefdoigcaa
open Go.RowKit Go.Maps

/-- the range at block r over the map in block b ('left': the keys still to come; 'cnt': how many) -/
def RangeAt (P : Program) (W : World) (k : TypeId) (b r n : Nat) (get : Lit → Option Value) (left : Lit → Bool) (cnt : Nat) : Prop :=
  ∃ D : DataW Value, W.ranges P k heldR b r n D left cnt ∧ ∀ kl z, D.atKey kl (.held z) = .held ((get kl).getD z)
section
variable {P : Program} {W W' : World} {k t e : TypeId} {b r n cnt : Nat} {get : Lit → Option Value} {left : Lit → Bool}
theorem RangeAt.kept {row : Option Nat} (h : RangeAt P W k b r n get left cnt) (hg : W.grownBy W' row) (hb : some b ≠ row) (hr : some r ≠ row) : RangeAt P W' k b r n get left cnt := by
  obtain ⟨D, h1, h2⟩ := h
  exact ⟨D, h1.kept hg hb hr, h2⟩
theorem RangeAt.grow (h : RangeAt P W k b r n get left cnt) (hb : Below W.heap.size W W') : RangeAt P W' k b r n get left cnt := h.kept (below_grownBy hb) (by simp) (by simp)
theorem RangeAt.left_get (h : RangeAt P W k b r n get left cnt) : r < W.heap.size := by
  obtain ⟨D, h1, _⟩ := h
  exact h1.lt
/-- the range begins, at the operation -/
theorem wpList_rangeV {ops : Array Oper} {rest : List Oper} {o : Oper} {a : Act} {Q : Exit → Act → World → Prop} (hg : o.guard = none) (m : Operand) (t : TypeId) (hop : o.op = Op.range t m)
    (K : Keyed P k) (ht : P.underlying t = some (.map k e)) (hm : a.eval m = .map (some b)) (h : MapAt P W k b n get)
    (hK : ∀ w' cnt, RangeAt P w' k b W.heap.size n get (fun kl => (get kl).isSome) cnt → W.grownBy w' none → w'.heap.size = W.heap.size + 1 → wpList P ops Q rest (a.put o.dst (.pointer (some ⟨W.heap.size, 0, none⟩))) w') : wpList P ops Q (o :: rest) a W := by
  obtain ⟨D, h1, h2, h3⟩ := h
  refine wpList_range_own W hg m t hop k e K ht heldR b n D hm h1 ?_
  intro w' hr hg' hs
  have e1 : Maps.has D = fun kl => (get kl).isSome := funext h3
  rw [e1] at hr
  exact hK w' _ ⟨D, hr, h2⟩ hg' hs
/-- the next element, at the operation -/
theorem wpList_nextV {ops : Array Oper} {rest : List Oper} {o : Oper} {a : Act} {Q : Exit → Act → World → Prop} (hg : o.guard = none) (it : Operand) (hop : o.op = Op.next it false) (K : Keyed P k)
    (hit : a.eval it = .pointer (some ⟨r, 0, none⟩)) (h : RangeAt P W k b r n get left cnt) (hl : ∀ kl, left kl = true → (get kl).isSome = true)
    (hDone : (∀ kl, left kl = false) → wpList P ops Q rest (a.put o.dst (.tuple #[.bool false])) W)
    (hMore : ∀ (key v : Value) (kl : Lit) (w' : World) (cnt' : Nat), keyOf P k key = some kl → left kl = true → get kl = some v → RangeAt P w' k b r n get (fun z => left z && !z.sameKey kl) cnt' → cnt' < cnt →
      W.grownBy w' (some r) → w'.heap.size = W.heap.size → (Instr.entry (.pointer (some ⟨r, 0, none⟩))).run P w' = .ok (.tuple #[key, v]) w' → wpList P ops Q rest (a.put o.dst (.tuple #[.bool true, key, v])) w') : wpList P ops Q (o :: rest) a W := by
  obtain ⟨D, h1, h2⟩ := h
  refine wpList_next_ranges (α := Value) (β := Value) W hg it hop k K heldR id id (fun key kl _ => ⟨key, rfl⟩) (fun v y _ => ⟨v, rfl⟩) b r n D left cnt hit h1 (fun _ h => hDone h) ?_
  intro x c kl y w' cnt' hkey hlk hv hat hr hlt hgr hsz hen
  refine hMore x c kl w' cnt' hkey hlk ?_ ⟨D, hr, h2⟩ hlt hgr hsz hen
  have hs := hl kl hlk
  obtain ⟨u, hu⟩ := Option.isSome_iff_exists.1 hs
  have h4 := hat (.held undef)
  rw [h2, hu] at h4
  simp only [heldR, Option.some.injEq] at hv
  rw [← hv] at h4
  simp at h4
  rw [hu, h4]
end
end Go.Proofs.Yteanlcefdoigcaa
