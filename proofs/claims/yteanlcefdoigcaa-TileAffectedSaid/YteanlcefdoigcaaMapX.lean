/- A map kept as a function, together with its size: look-up with 'ok', store, deletion, length (whatever program); a map from Ids to points. -/
import Derived.Test.YteanlcefdoigcaaUpdM
namespace Go.Proofs.Yteanlcefdoigcaa
open Go.RowKit Go.Maps

/-- block b is a map of s entries (s at most n) -/
def MapZ (P : Program) (W : World) (k : TypeId) (b n s : Nat) (get : Lit → Option Value) : Prop :=
  ∃ D : DataW Value, W.ownsMap P k heldR b n D ∧ (∀ kl z, D.atKey kl (.held z) = .held ((get kl).getD z)) ∧ (∀ kl, Maps.has D kl = (get kl).isSome) ∧ Maps.size D = s
section
variable {P : Program} {W W' : World} {k t e : TypeId} {b n s : Nat} {get : Lit → Option Value}
theorem MapZ.at (h : MapZ P W k b n s get) : MapAt P W k b n get := by
  obtain ⟨D, h1, h2, h3, _⟩ := h
  exact ⟨D, h1, h2, h3⟩
theorem MapZ.made (W : World) : MapZ P (W.alloc (.map #[] 0)) k W.heap.size 0 0 (fun _ => none) :=
  ⟨.map [], World.ownsMap_made W P k heldR, fun _ _ => rfl, fun _ => rfl, rfl⟩
theorem MapZ.kept {row : Option Nat} (h : MapZ P W k b n s get) (hg : W.grownBy W' row) (hne : some b ≠ row) : MapZ P W' k b n s get := by
  obtain ⟨D, h1, h2⟩ := h
  exact ⟨D, h1.kept hg hne, h2⟩
theorem MapZ.grow (h : MapZ P W k b n s get) (hb : Below W.heap.size W W') : MapZ P W' k b n s get := h.kept (below_grownBy hb) (by simp)
theorem MapZ.lt (h : MapZ P W k b n s get) : b < W.heap.size := h.at.lt
theorem MapZ.mono (h : MapZ P W k b n s get) {n' : Nat} (hn : n ≤ n') : MapZ P W k b n' s get := by
  obtain ⟨D, h1, h2⟩ := h
  exact ⟨D, h1.mono hn, h2⟩
theorem MapZ.look_ok (h : MapZ P W k b n s get) (K : Keyed P k) (ht : P.underlying t = some (.map k e)) {z : Value} (hz : (zeroValue e).run P W = .ok z W) {key : Value} {kl : Lit} (hkey : keyOf P k key = some kl) :
    (Instr.lookup t (.map (some b)) key true).run P W = .ok (.tuple #[(get kl).getD z, .bool (get kl).isSome]) W := by
  obtain ⟨D, h1, h2, h3, _⟩ := h
  obtain ⟨v, ps, hrun, hv⟩ := h1.look_ok K ht hz (zd := .held z) (zp := []) rfl hkey
  rw [h2] at hv
  simp only [heldR, Option.some.injEq, Prod.mk.injEq] at hv
  have := hv.1
  injection this with this
  rw [← this, ← h3]
  exact hrun
theorem MapZ.put (h : MapZ P W k b n s get) (K : Keyed P k) (ht : P.underlying t = some (.map k e)) (hn : n < maxLen) {key val : Value} {kl : Lit} (hkey : keyOf P k key = some kl) (hnew : get kl = none) :
    ∃ w', (Instr.mapUpdate t (.map (some b)) key val).run P W = .ok () w' ∧ MapZ P w' k b (n + 1) (s + 1) (putG get kl val) ∧ W.grownBy w' (some b) := by
  obtain ⟨D, h1, h2, h3, h4⟩ := h
  obtain ⟨w', hrun, hown, hg⟩ := h1.update K ht hn (d := .held val) (ps := []) hkey rfl
  refine ⟨w', hrun, ⟨_, hown, fun x z => ?_, fun x => ?_, ?_⟩, hg⟩
  · unfold putG
    by_cases hx : x = kl
    · subst hx
      rw [if_pos (WideAt.sameKey_self (K.key hkey)), atKey_put_same h1.isMap (K.key hkey)]
      rfl
    · rw [if_neg (by rw [sameKey_ne hx]; simp), atKey_put_other hx]
      exact h2 x z
  · unfold putG
    by_cases hx : x = kl
    · subst hx
      rw [if_pos (WideAt.sameKey_self (K.key hkey)), has_put_same h1.isMap (K.key hkey)]
      rfl
    · rw [if_neg (by rw [sameKey_ne hx]; simp), has_put_other hx]
      exact h3 x
  · rw [size_put (h1.tidy K), h3, hnew, h4]
    rfl
theorem MapZ.drop (h : MapZ P W k b n (s + 1) get) (K : Keyed P k) (ht : P.underlying t = some (.map k e)) {key : Value} {kl : Lit} (hkey : keyOf P k key = some kl) (hold : (get kl).isSome = true) (ty : TypeId) :
    ∃ w', (Builtin.delete_ #[t, k] ty #[.map (some b), key]).run P W = .ok (.tuple #[]) w' ∧ MapZ P w' k b n s (delG get kl) ∧ W.grownBy w' (some b) := by
  obtain ⟨D, h1, h2, h3, h4⟩ := h
  obtain ⟨w', hrun, hown, hg⟩ := h1.drop K ht hkey ty
  refine ⟨w', hrun, ⟨_, hown, fun x z => ?_, fun x => ?_, ?_⟩, hg.grown⟩
  · unfold delG
    by_cases hx : x = kl
    · subst hx
      rw [if_pos (WideAt.sameKey_self (K.key hkey)), atKey_del_same]
      rfl
    · rw [if_neg (by rw [sameKey_ne hx]; simp), atKey_del_other hx]
      exact h2 x z
  · unfold delG
    by_cases hx : x = kl
    · subst hx
      rw [if_pos (WideAt.sameKey_self (K.key hkey)), has_del_same]
      rfl
    · rw [if_neg (by rw [sameKey_ne hx]; simp), has_del_other hx]
      exact h3 x
  · have := size_del (k := kl) (h1.tidy K)
    rw [h3, hold, h4, if_pos rfl] at this
    omega
/-- 'm[k] = v' of a new key, at the operation -/
theorem wpList_putZ {ops : Array Oper} {rest : List Oper} {o : Oper} {a : Act} {Q : Exit → Act → World → Prop} (hg : o.guard = none) (m x v : Operand) (t : TypeId) (hop : o.op = Op.mapUpdate t m x v)
    (K : Keyed P k) (ht : P.underlying t = some (.map k e)) (hm : a.eval m = .map (some b)) (h : MapZ P W k b n s get) (hn : n < maxLen) (key val : Value) (kl : Lit) (hx : a.eval x = key) (hv : a.eval v = val) (hkey : keyOf P k key = some kl) (hnew : get kl = none)
    (hK : ∀ w', MapZ P w' k b (n + 1) (s + 1) (putG get kl val) → W.grownBy w' (some b) → wpList P ops Q rest (a.put o.dst undef) w') : wpList P ops Q (o :: rest) a W := by
  refine wpList_plain hg fun K' hK' => ?_
  obtain ⟨w', hrun, r1, r2⟩ := h.put K ht hn (val := val) hkey hnew
  unfold Oper.wp
  simp [execOp, hop, hm, hx, hv, hrun, Result.andThen]
  exact hK' _ _ (hK w' r1 r2)
/-- 'delete(m, k)' of a key that is there, at the operation -/
theorem wpList_dropZ {ops : Array Oper} {rest : List Oper} {o : Oper} {a : Act} {Q : Exit → Act → World → Prop} (hg : o.guard = none) (m x : Operand) (t : TypeId) (hop : o.op = Op.call { callee := Callee.builtin Builtin.delete, args := #[m, x], argTypes := #[t, k] })
    (K : Keyed P k) (ht : P.underlying t = some (.map k e)) (hm : a.eval m = .map (some b)) (h : MapZ P W k b n (s + 1) get) (key : Value) (kl : Lit) (hx : a.eval x = key) (hkey : keyOf P k key = some kl) (hold : (get kl).isSome = true)
    (hK : ∀ w', MapZ P w' k b n s (delG get kl) → W.grownBy w' (some b) → wpList P ops Q rest (a.put o.dst (.tuple #[])) w') : wpList P ops Q (o :: rest) a W := by
  refine wpList_plain hg fun K' hK' => ?_
  obtain ⟨w', hrun, r1, r2⟩ := h.drop K ht hkey hold o.type
  unfold Oper.wp
  simp [execOp, hop, resolve, invoke, builtin, hm, hx, hrun, Result.andThen]
  exact hK' _ _ (hK w' r1 r2)
/-- 'len(m)', at the operation -/
theorem wpList_lenZ {ops : Array Oper} {rest : List Oper} {o : Oper} {a : Act} {Q : Exit → Act → World → Prop} (hg : o.guard = none) (m : Operand) (t : TypeId) (hop : o.op = Op.call { callee := Callee.builtin Builtin.len, args := #[m], argTypes := #[t] })
    (ht : P.underlying t = some (.map k e)) (hm : a.eval m = .map (some b)) (h : MapZ P W k b n s get)
    (hK : wpList P ops Q rest (a.put o.dst (.int .i64 s)) W) : wpList P ops Q (o :: rest) a W := by
  obtain ⟨D, h1, _, _, h4⟩ := h
  refine wpList_len_own W hg m t hop k e ht heldR b n D hm h1 ?_
  rw [h4]
  exact hK
end
/-- the map of points by their Ids -/
def ptG (L : List Pt) : Lit → Option Value := fun l => (L.find? (fun p => (Lit.int .i64 p.id).sameKey l)).map (fun p => .agg p.row.toArray)
theorem ptG_nil : ptG [] = fun _ => none := rfl
theorem ptG_int (L : List Pt) (z : Int) : ptG L (.int .i64 z) = (L.find? (fun p => p.id == z)).map (fun p => .agg p.row.toArray) := by
  unfold ptG
  congr 2
  funext p
  exact same_int _ _
theorem ptG_none {L : List Pt} {z : Int} (h : ∀ p ∈ L, p.id ≠ z) : ptG L (.int .i64 z) = none := by
  rw [ptG_int, Option.map_eq_none_iff, List.find?_eq_none]
  intro p hp
  simp [h p hp]
theorem ptG_some {L : List Pt} {z : Int} : (ptG L (.int .i64 z)).isSome = decide (∃ p ∈ L, p.id = z) := by
  rw [ptG_int, Option.isSome_map, Bool.eq_iff_iff, decide_eq_true_eq, List.find?_isSome]
  simp
theorem ptG_put (L : List Pt) (p : Pt) : putG (ptG L) (.int .i64 p.id) (.agg p.row.toArray) = ptG (p :: L) := by
  funext l
  by_cases h : l = .int .i64 p.id
  · subst h
    rw [putG_same (show WideAt.IsKeyLit (Lit.int .i64 p.id) from trivial), ptG_int]
    simp
  · rw [putG_other h]
    unfold ptG
    rw [List.find?_cons, sameKey_ne (Ne.symm h)]
theorem ptG_del (L : List Pt) (z : Int) : delG (ptG L) (.int .i64 z) = ptG (L.filter (fun p => !(z == p.id))) := by
  funext l
  unfold delG
  by_cases h : l = .int .i64 z
  · subst h
    rw [if_pos (WideAt.sameKey_self (show WideAt.IsKeyLit (Lit.int .i64 z) from trivial)), ptG_none]
    intro p hp e
    have := (List.mem_filter.1 hp).2
    simp [e] at this
  · rw [if_neg (by rw [sameKey_ne h]; simp)]
    unfold ptG
    rw [find_filter_keep]
    intro p hp
    by_cases e : z = p.id
    · subst e
      rw [sameKey_ne (Ne.symm h)] at hp
      exact absurd hp (by simp)
    · simp [e]
/-- an entry of the map is a point -/
theorem ptG_entry {L : List Pt} {l : Lit} {v : Value} (h : ptG L l = some v) : ∃ p ∈ L, v = .agg p.row.toArray ∧ l = .int .i64 p.id := by
  unfold ptG at h
  obtain ⟨p, h1, h2⟩ := Option.map_eq_some_iff.1 h
  refine ⟨p, List.mem_of_find?_eq_some h1, h2.symm, ?_⟩
  have h3 := List.find?_some h1
  by_cases e : l = .int .i64 p.id
  · exact e
  · rw [sameKey_ne (Ne.symm e)] at h3
    exact absurd h3 (by simp)
end Go.Proofs.Yteanlcefdoigcaa
