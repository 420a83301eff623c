/- Rows of so many cells an element that a call owns: read, appended to. For whatever program and type. -/
import Derived.Test.YteanlcefdoigcaaPt
import Derived.Maps.AppendAt
namespace Go.Proofs.Yteanlcefdoigcaa
open Go.RowKit

/-- every row has sz cells, each a plain one -/
def Wide (sz : Nat) (l : List (List Value)) : Prop := ∀ r ∈ l, r.length = sz ∧ ∀ u ∈ r, u.oneCell' = true
theorem Wide.nil (sz : Nat) : Wide sz [] := fun _ h => by simp at h
theorem Wide.append {sz : Nat} {l m : List (List Value)} (h1 : Wide sz l) (h2 : Wide sz m) : Wide sz (l ++ m) := fun r hr => by
  rcases List.mem_append.1 hr with h | h
  · exact h1 r h
  · exact h2 r h
theorem Wide.one {sz : Nat} {r : List Value} (h : r.length = sz) (h1 : ∀ u ∈ r, u.oneCell' = true) : Wide sz [r] := fun x hx => by
  obtain rfl := List.mem_singleton.1 hx
  exact ⟨h, h1⟩
theorem Wide.length {sz : Nat} : ∀ {l : List (List Value)}, Wide sz l → l.flatten.length = l.length * sz
  | [], _ => by simp
  | r :: l, h => by
    rw [List.flatten_cons, List.length_append, Wide.length (fun x hx => h x (List.mem_cons_of_mem _ hx)), (h r (List.mem_cons_self ..)).1, List.length_cons, Nat.add_mul]
    omega
theorem Wide.at {sz : Nat} : ∀ {l : List (List Value)} {i : Nat} {r : List Value}, Wide sz l → l[i]? = some r → ∀ j, j < sz → l.flatten[i * sz + j]? = r[j]?
  | y :: l, 0, r, hw, h, j, hj => by
    simp at h
    subst h
    rw [List.flatten_cons, Nat.zero_mul, Nat.zero_add, List.getElem?_append_left (by rw [(hw y (List.mem_cons_self ..)).1]; exact hj)]
  | y :: l, i + 1, r, hw, h, j, hj => by
    simp at h
    have hy := (hw y (List.mem_cons_self ..)).1
    have e : (i + 1) * sz + j = sz + (i * sz + j) := by rw [Nat.add_mul]; omega
    rw [List.flatten_cons, e, List.getElem?_append_right (by omega), hy, Nat.add_sub_cancel_left]
    exact Wide.at (fun x hx => hw x (List.mem_cons_of_mem _ hx)) h j hj
theorem Wide.plain {sz : Nat} {l : List (List Value)} (h : Wide sz l) : ∀ u ∈ l.flatten, u.oneCell' = true := fun u hu => by
  obtain ⟨r, hr, hx⟩ := List.mem_flatten.1 hu
  exact (h r hr).2 u hx
/-- the rows l lie behind an address -/
def RowsAt (W : World) (b off sz : Nat) (l : List (List Value)) : Prop := ∀ (i : Nat) (r : List Value), l[i]? = some r → ∀ j, j < sz → W.cell? ⟨b, off + i * sz + j, none⟩ = r[j]?
theorem RowsAt.still {W W' : World} {b off sz B : Nat} {l : List (List Value)} (h : RowsAt W b off sz l) (hb : Below B W W') (hB : b < B) : RowsAt W' b off sz l := fun i r hi j hj => by
  rw [hb.cell hB]
  exact h i r hi j hj
theorem RowsAt.news {W : World} {b off sz : Nat} {l : List (List Value)} (h : RowsAt W b off sz l) (hw : Wide sz l) (hz : 0 < sz) (j : Nat) (u : Value) (hu : l.flatten[j]? = some u) : W.cell? ((⟨b, off, none⟩ : Addr).add j) = some u := by
  have hj : j < l.length * sz := by rw [← hw.length]; exact (List.getElem?_eq_some_iff.1 hu).1
  have hd : j / sz < l.length := Nat.div_lt_of_lt_mul (by rw [Nat.mul_comm]; exact hj)
  have hm : j % sz < sz := Nat.mod_lt _ hz
  have e : j / sz * sz + j % sz = j := by rw [Nat.mul_comm]; exact Nat.div_add_mod j sz
  have h1 := hw.at (List.getElem?_eq_getElem hd) (j % sz) hm
  rw [e, hu] at h1
  have h2 := h (j / sz) _ (List.getElem?_eq_getElem hd) (j % sz) hm
  rw [← h1] at h2
  rw [Go.WideShapes.add_plain, ← h2]
  congr 2
  omega
/-- v is a slice of the call's own (from block base on) that holds the rows l -/
def OwnR (W : World) (base t sz : Nat) (v : Value) (l : List (List Value)) : Prop := Wide sz l ∧ W.ownsRow base t sz v l.length l.flatten
section
variable {W W' : World} {base base' t sz : Nat} {v : Value} {l : List (List Value)}
theorem OwnR.nil (W : World) (base t sz : Nat) : OwnR W base t sz (.slice none 0 0) [] := ⟨Wide.nil sz, by simp, Or.inl ⟨rfl, rfl⟩⟩
theorem OwnR.rows (h : OwnR W base t sz v l) (hn : 0 < l.length) :
    ∃ g cap cur, v = .slice (some ⟨g, 0, none⟩) l.length cap ∧ base ≤ g ∧ W.heap[g]? = some (.cells cur t) ∧ RowsAt W g 0 sz l ∧ l.length ≤ cap ∧ cap ≤ maxLen ∧ cur.size = cap * sz := by
  rcases h.2.2 with ⟨_, h2⟩ | ⟨g, cap, cur, h1, hB, h2, h3, h4, h5, h6⟩
  · omega
  · refine ⟨g, cap, cur, h1, hB, h2, fun i r hi j hj => ?_, h3, h4, h5⟩
    have hil : i < l.length := (List.getElem?_eq_some_iff.1 hi).1
    have hk : i * sz + j < l.length * sz := by
      have : (i + 1) * sz ≤ l.length * sz := Nat.mul_le_mul_right sz hil
      rw [Nat.add_mul] at this
      omega
    rw [cell_row h2, Nat.zero_add, ← h.1.at hi j hj, ← h6, List.getElem?_take_of_lt hk, Array.getElem?_toList]
theorem OwnR.slice (h : OwnR W base t sz v l) : ∃ a cap, v = .slice a l.length cap := by
  rcases h.2.2 with ⟨h1, h2⟩ | ⟨g, cap, cur, h1, _⟩
  · exact ⟨none, 0, by rw [h1, h2]⟩
  · exact ⟨_, cap, h1⟩
theorem OwnR.heap (h : OwnR W base t sz v l) (hB : ∀ g x, W.heap[g]? = some x → base ≤ g → W'.heap[g]? = some x) : OwnR W' base t sz v l := by
  refine ⟨h.1, h.2.1, ?_⟩
  rcases h.2.2 with h1 | ⟨g, cap, cur, h1, hb, h2, h3⟩
  · exact Or.inl h1
  · exact Or.inr ⟨g, cap, cur, h1, hb, hB _ _ h2 hb, h3⟩
theorem OwnR.grow (h : OwnR W base t sz v l) (hB : Below W.heap.size W W') : OwnR W' base t sz v l := h.heap fun _ _ hx _ => heap_still hB hx
theorem OwnR.mono (h : OwnR W base t sz v l) (hb : base' ≤ base) : OwnR W base' t sz v l := by
  refine ⟨h.1, h.2.1, ?_⟩
  rcases h.2.2 with h1 | ⟨g, cap, cur, h1, hbb, h3⟩
  · exact Or.inl h1
  · exact Or.inr ⟨g, cap, cur, h1, Nat.le_trans hb hbb, h3⟩
theorem OwnR.ownBlock (h : OwnR W base t sz v l) (k : Nat) (hk : v.ownBlock = some k) : base ≤ k := by
  rcases h.2.2 with ⟨h1, _⟩ | ⟨g, cap, cur, h1, hB, _⟩
  · subst h1; cases hk
  · subst h1; injection hk with hk; subst hk; exact hB
theorem OwnR.joined {n : Nat} {m : List (List Value)} (hn : n = l.length) (hm : Wide sz m) (hl : Wide sz l) (h : W.ownsRow base t sz v (n + m.length) (l.flatten ++ m.flatten)) : OwnR W base t sz v (l ++ m) := by
  subst hn
  refine ⟨hl.append hm, ?_⟩
  rw [List.length_append, List.flatten_append]
  exact h
/-- append of rows to rows of the call's own, at the operation -/
theorem wpList_append_rows {P : Program} {ops : Array Oper} {rest : List Oper} {o : Oper} {a : Act} {Q : Exit → Act → World → Prop} (hgd : o.guard = none) (s x : Operand) (ty : TypeId)
    (ho : o.op = .call { callee := .builtin .append, args := #[s, x], argTypes := #[ty, ty] }) (base e : TypeId) (i : TypeInfo) (z : Value) (size bytes : Nat) (ht : P.underlying ty = some (.slice e)) (hi : P.info? e = some i) (hz : i.zero = some z)
    (hsize : i.size = size) (hby : i.bytes = bytes) (hzs : z.cells.size = size) (hsz : 0 < size) (v : Value) (l m : List (List Value)) (hs : a.eval s = v) (hown : OwnR W base e size v l)
    (b off n c : Nat) (hn : n = m.length) (hx : a.eval x = .slice (some ⟨b, off, none⟩) n c) (hm : RowsAt W b off size m) (hw : Wide size m)
    (h63 : l.length + m.length ≤ maxLen) (hbytes : (l.length + m.length) * bytes ≤ 140737488355328) (hbase : base ≤ W.heap.size)
    (h : ∀ v' w', OwnR w' base e size v' (l ++ m) → W.grownBy w' v.ownBlock → (v'.ownBlock = v.ownBlock ∨ v'.ownBlock = some W.heap.size) → wpList P ops Q rest (a.put o.dst v') w') : wpList P ops Q (o :: rest) a W := by
  subst hn
  refine wpList_append_own_at W hgd s x ty ho base e i z size bytes ht hi hz hsize hby hzs hsz v l.length l.flatten hs hown.2 ⟨b, off, none⟩ m.length c m.flatten hx hw.length (hm.news hw hsz) hw.plain h63 hbytes hbase ?_
  intro v' w' h1 h2 _ h4
  exact h v' w' (OwnR.joined rfl hw hown.1 h1) h2 h4
end
end Go.Proofs.Yteanlcefdoigcaa
