/- Rows of so many cells an element that a call owns: read, appended to, sorted (out of seat 2's Maps and SortF). For whatever program and type. The library's sort lies at this program's instance for fixes. -/
import Derived.Test.YteoikaedpgianaaRAid
import Derived.Test.YteoikaedpgianaaRReg
import Derived.Test.YteoikaedpgianaaRTimes
import Derived.Test.YteoikaedpgianaaRows
import Derived.Laws.CopyOwn
import Derived.Maps.AppendAt
import Derived.Shelf.SlSortCmp.NoneTotal
import Derived.BigQuiet
namespace Go.Proofs.Yteoikaedpgianaa
open Go.RowKit

def Wide (sz : Nat) (l : List (List Value)) : Prop := ∀ r ∈ l, r.length = sz ∧ ∀ u ∈ r, u.oneCell' = true
theorem Wide.nil (sz : Nat) : Wide sz [] := fun _ h => by simp at h
theorem Wide.append {sz : Nat} {l m : List (List Value)} (h1 : Wide sz l) (h2 : Wide sz m) : Wide sz (l ++ m) := fun r hr => by
  rcases List.mem_append.1 hr with h | h
  · exact h1 r h
  · exact h2 r h
theorem Wide.one {sz : Nat} {r : List Value} (h : r.length = sz) (h1 : ∀ u ∈ r, u.oneCell' = true) : Wide sz [r] := fun x hx => by
  obtain rfl := List.mem_singleton.1 hx
  exact ⟨h, h1⟩
theorem Wide.length {sz : Nat} : ∀ {l : List (List Value)}, Wide sz l → l.flatten.length = l.length * sz
  | [], _ => by simp
  | r :: l, h => by
    rw [List.flatten_cons, List.length_append, Wide.length (fun x hx => h x (List.mem_cons_of_mem _ hx)), (h r (List.mem_cons_self ..)).1, List.length_cons, Nat.add_mul]
    omega
theorem Wide.at {sz : Nat} : ∀ {l : List (List Value)} {i : Nat} {r : List Value}, Wide sz l → l[i]? = some r → ∀ j, j < sz → l.flatten[i * sz + j]? = r[j]?
  | y :: l, 0, r, hw, h, j, hj => by
    simp at h
    subst h
    rw [List.flatten_cons, Nat.zero_mul, Nat.zero_add, List.getElem?_append_left (by rw [(hw y (List.mem_cons_self ..)).1]; exact hj)]
  | y :: l, i + 1, r, hw, h, j, hj => by
    simp at h
    have hy := (hw y (List.mem_cons_self ..)).1
    have e : (i + 1) * sz + j = sz + (i * sz + j) := by rw [Nat.add_mul]; omega
    rw [List.flatten_cons, e, List.getElem?_append_right (by omega), hy, Nat.add_sub_cancel_left]
    exact Wide.at (fun x hx => hw x (List.mem_cons_of_mem _ hx)) h j hj
theorem Wide.plain {sz : Nat} {l : List (List Value)} (h : Wide sz l) : ∀ u ∈ l.flatten, u.oneCell' = true := fun u hu => by
  obtain ⟨r, hr, hx⟩ := List.mem_flatten.1 hu
  exact (h r hr).2 u hx
/-- the rows l lie behind an address -/
def RowsAt (W : World) (b off sz : Nat) (l : List (List Value)) : Prop := ∀ (i : Nat) (r : List Value), l[i]? = some r → ∀ j, j < sz → W.cell? ⟨b, off + i * sz + j, none⟩ = r[j]?
theorem RowsAt.still {W W' : World} {b off sz B : Nat} {l : List (List Value)} (h : RowsAt W b off sz l) (hb : Below B W W') (hB : b < B) : RowsAt W' b off sz l := fun i r hi j hj => by
  rw [hb.cell hB]
  exact h i r hi j hj
theorem RowsAt.news {W : World} {b off sz : Nat} {l : List (List Value)} (h : RowsAt W b off sz l) (hw : Wide sz l) (hz : 0 < sz) (j : Nat) (u : Value) (hu : l.flatten[j]? = some u) : W.cell? ((⟨b, off, none⟩ : Addr).add j) = some u := by
  have hj : j < l.length * sz := by rw [← hw.length]; exact (List.getElem?_eq_some_iff.1 hu).1
  have hd : j / sz < l.length := Nat.div_lt_of_lt_mul (by rw [Nat.mul_comm]; exact hj)
  have hm : j % sz < sz := Nat.mod_lt _ hz
  have e : j / sz * sz + j % sz = j := by rw [Nat.mul_comm]; exact Nat.div_add_mod j sz
  have h1 := hw.at (List.getElem?_eq_getElem hd) (j % sz) hm
  rw [e, hu] at h1
  have h2 := h (j / sz) _ (List.getElem?_eq_getElem hd) (j % sz) hm
  rw [← h1] at h2
  rw [Go.WideShapes.add_plain, ← h2]
  congr 2
  omega
/-- v is a slice of the call's own (from block base on) that holds the rows l -/
def OwnR (W : World) (base t sz : Nat) (v : Value) (l : List (List Value)) : Prop := Wide sz l ∧ W.ownsRow base t sz v l.length l.flatten
section
variable {W W' : World} {base base' t sz : Nat} {v : Value} {l : List (List Value)}
theorem OwnR.nil (W : World) (base t sz : Nat) : OwnR W base t sz (.slice none 0 0) [] := ⟨Wide.nil sz, by simp, Or.inl ⟨rfl, rfl⟩⟩
theorem OwnR.rows (h : OwnR W base t sz v l) (hn : 0 < l.length) :
    ∃ g cap cur, v = .slice (some ⟨g, 0, none⟩) l.length cap ∧ base ≤ g ∧ W.heap[g]? = some (.cells cur t) ∧ RowsAt W g 0 sz l ∧ l.length ≤ cap ∧ cap ≤ maxLen ∧ cur.size = cap * sz := by
  rcases h.2.2 with ⟨_, h2⟩ | ⟨g, cap, cur, h1, hB, h2, h3, h4, h5, h6⟩
  · omega
  · refine ⟨g, cap, cur, h1, hB, h2, fun i r hi j hj => ?_, h3, h4, h5⟩
    have hil : i < l.length := (List.getElem?_eq_some_iff.1 hi).1
    have hk : i * sz + j < l.length * sz := by
      have : (i + 1) * sz ≤ l.length * sz := Nat.mul_le_mul_right sz hil
      rw [Nat.add_mul] at this
      omega
    rw [cell_row h2, Nat.zero_add, ← h.1.at hi j hj, ← h6, List.getElem?_take_of_lt hk, Array.getElem?_toList]
theorem OwnR.slice (h : OwnR W base t sz v l) : ∃ a cap, v = .slice a l.length cap := by
  rcases h.2.2 with ⟨h1, h2⟩ | ⟨g, cap, cur, h1, _⟩
  · exact ⟨none, 0, by rw [h1, h2]⟩
  · exact ⟨_, cap, h1⟩
theorem OwnR.heap (h : OwnR W base t sz v l) (hB : ∀ g x, W.heap[g]? = some x → base ≤ g → W'.heap[g]? = some x) : OwnR W' base t sz v l := by
  refine ⟨h.1, h.2.1, ?_⟩
  rcases h.2.2 with h1 | ⟨g, cap, cur, h1, hb, h2, h3⟩
  · exact Or.inl h1
  · exact Or.inr ⟨g, cap, cur, h1, hb, hB _ _ h2 hb, h3⟩
theorem OwnR.grow (h : OwnR W base t sz v l) (hB : Below W.heap.size W W') : OwnR W' base t sz v l := h.heap fun _ _ hx _ => heap_still hB hx
theorem OwnR.mono (h : OwnR W base t sz v l) (hb : base' ≤ base) : OwnR W base' t sz v l := by
  refine ⟨h.1, h.2.1, ?_⟩
  rcases h.2.2 with h1 | ⟨g, cap, cur, h1, hbb, h3⟩
  · exact Or.inl h1
  · exact Or.inr ⟨g, cap, cur, h1, Nat.le_trans hb hbb, h3⟩
theorem OwnR.ownBlock (h : OwnR W base t sz v l) (k : Nat) (hk : v.ownBlock = some k) : base ≤ k := by
  rcases h.2.2 with ⟨h1, _⟩ | ⟨g, cap, cur, h1, hB, _⟩
  · subst h1; cases hk
  · subst h1; injection hk with hk; subst hk; exact hB
theorem OwnR.joined {n : Nat} {m : List (List Value)} (hn : n = l.length) (hm : Wide sz m) (hl : Wide sz l) (h : W.ownsRow base t sz v (n + m.length) (l.flatten ++ m.flatten)) : OwnR W base t sz v (l ++ m) := by
  subst hn
  refine ⟨hl.append hm, ?_⟩
  rw [List.length_append, List.flatten_append]
  exact h
/-- append of rows to rows of the call's own, at the operation -/
theorem wpList_append_rowsR {P : Program} {ops : Array Oper} {rest : List Oper} {o : Oper} {a : Act} {Q : Exit → Act → World → Prop} (hgd : o.guard = none) (s x : Operand) (ty : TypeId)
    (ho : o.op = .call { callee := .builtin .append, args := #[s, x], argTypes := #[ty, ty] }) (base e : TypeId) (i : TypeInfo) (z : Value) (size bytes : Nat) (ht : P.underlying ty = some (.slice e)) (hi : P.info? e = some i) (hz : i.zero = some z)
    (hsize : i.size = size) (hby : i.bytes = bytes) (hzs : z.cells.size = size) (hsz : 0 < size) (v : Value) (l m : List (List Value)) (hs : a.eval s = v) (hown : OwnR W base e size v l)
    (b off n c : Nat) (hn : n = m.length) (hx : a.eval x = .slice (some ⟨b, off, none⟩) n c) (hm : RowsAt W b off size m) (hw : Wide size m)
    (h63 : l.length + m.length ≤ maxLen) (hbytes : (l.length + m.length) * bytes ≤ 140737488355328) (hbase : base ≤ W.heap.size)
    (h : ∀ v' w', OwnR w' base e size v' (l ++ m) → W.grownBy w' v.ownBlock → (v'.ownBlock = v.ownBlock ∨ v'.ownBlock = some W.heap.size) → wpList P ops Q rest (a.put o.dst v') w') : wpList P ops Q (o :: rest) a W := by
  subst hn
  refine wpList_append_own_at W hgd s x ty ho base e i z size bytes ht hi hz hsize hby hzs hsz v l.length l.flatten hs hown.2 ⟨b, off, none⟩ m.length c m.flatten hx hw.length (hm.news hw hsz) hw.plain h63 hbytes hbase ?_
  intro v' w' h1 h2 _ h4
  exact h v' w' (OwnR.joined rfl hw hown.1 h1) h2 h4
end
end Go.Proofs.Yteoikaedpgianaa
namespace Go.Proofs.Yteoikaedpgianaa
open Go.RowKit Go.Sort Go.Lib Go.Shelf Go.Proofs

/-- a world that has grown by draws and new blocks alone -/
def Grew (W X : World) : Prop := ∃ q os, X = grow (W.drewN q) os
theorem Grew.refl (W : World) : Grew W W := ⟨0, #[], by rw [grow_empty]; rfl⟩
theorem Grew.alloc {W X : World} (h : Grew W X) (o : Obj) : Grew W (X.alloc o) := by
  obtain ⟨q, os, rfl⟩ := h
  exact ⟨q, _, by rw [alloc_eq_grow, grow_grow]⟩
theorem pmap_val {α : Type} {p : α → Prop} : ∀ (l : List α) (h : ∀ a ∈ l, p a), (l.pmap (fun a ha => (⟨a, ha⟩ : { a : α // p a })) h).map (·.1) = l
  | [], _ => rfl
  | a :: l, h => by
    rw [List.pmap_cons, List.map_cons, pmap_val l]
theorem wide_map {α : Type} {enc : α → List Value} {k : Nat} (hk : ∀ x, (enc x).length = k) (h1 : ∀ x, ∀ v ∈ enc x, v.oneCell' = true) (l : List α) : Wide k (l.map enc) := fun r hr => by
  obtain ⟨x, _, rfl⟩ := List.mem_map.1 hr
  exact ⟨hk x, h1 x⟩
theorem wide_len {α : Type} {enc : α → List Value} {k : Nat} (hk : ∀ x, (enc x).length = k) (l : List α) : ((l.map enc).flatten).length = l.length * k := by
  induction l with
  | nil => simp
  | cons a l ih => rw [List.map_cons, List.flatten_cons, List.length_append, ih, hk, List.length_cons, Nat.add_mul, Nat.one_mul, Nat.add_comm]
section
variable {α : Type} [Inhabited α] {enc : α → List Value} {k : Nat}
theorem flat_at (hk : ∀ x, (enc x).length = k) : ∀ (l : List α) (i j : Nat), i < l.length → j < k → (l.map enc).flatten[i * k + j]? = (enc l[i]!)[j]?
  | [], i, _, h, _ => by simp at h
  | a :: l, 0, j, _, hj => by
    rw [List.map_cons, List.flatten_cons, Nat.zero_mul, Nat.zero_add, List.getElem?_append_left (by rw [hk]; exact hj)]
    rfl
  | a :: l, i + 1, j, h, hj => by
    have e : (i + 1) * k + j = k + (i * k + j) := by rw [Nat.add_mul]; omega
    rw [List.map_cons, List.flatten_cons, e, List.getElem?_append_right (by rw [hk]; omega), hk, Nat.add_sub_cancel_left, flat_at hk l i j (by simpa using h) hj]
    rfl
theorem flatK_list (hk : ∀ x, (enc x).length = k) (d : Array α) : (flatK enc k d).toList = (d.toList.map enc).flatten := by
  refine List.ext_getElem? fun t => ?_
  by_cases ht : t < d.size * k
  · have k0 : 0 < k := by
      rcases Nat.eq_zero_or_pos k with h | h
      · subst h; simp at ht
      · exact h
    have hd : t / k < d.size := Nat.div_lt_of_lt_mul (by rw [Nat.mul_comm]; exact ht)
    have hm : t % k < k := Nat.mod_lt _ k0
    have e : t / k * k + t % k = t := by rw [Nat.mul_comm]; exact Nat.div_add_mod t k
    have h1 := flat_at hk d.toList (t / k) (t % k) (by simpa using hd) hm
    rw [e] at h1
    rw [h1, Array.getElem?_toList, Array.getElem?_eq_getElem (by simpa using ht)]
    have h2 := get_flatK enc k d t ht
    rw [getElem!_pos _ t (by simpa using ht)] at h2
    rw [h2]
    have h3 : d.toList[t / k]! = d[t / k]! := by
      rw [getElem!_pos d _ hd, getElem!_pos d.toList _ (by simpa using hd)]
      simp
    rw [h3, List.getElem?_eq_getElem (by rw [hk]; exact hm), getElem!_pos (enc d[t / k]!) _ (by rw [hk]; exact hm)]
  · rw [List.getElem?_eq_none (by simp; omega), List.getElem?_eq_none (by rw [wide_len hk]; simp; omega)]
theorem own_holds (hk : ∀ x, (enc x).length = k) {W : World} {base t g cap : Nat} {l : List α} (h : OwnR W base t k (.slice (some ⟨g, 0, none⟩) l.length cap) (l.map enc)) : HoldsK enc k W g 0 l.toArray := by
  intro j hj
  rw [size_flatK] at hj
  simp only [List.size_toArray] at hj
  have k0 : 0 < k := by
    rcases Nat.eq_zero_or_pos k with h | h
    · subst h; simp at hj
    · exact h
  have hl : 0 < l.length := by
    rcases Nat.eq_zero_or_pos l.length with h | h
    · rw [h] at hj; simp at hj
    · exact h
  obtain ⟨g', cap', cur, he, _, hc, hr, _⟩ := h.rows (by simpa using hl)
  injection he with he _ _
  injection he with he
  injection he with he _
  subst he
  have hd : j / k < l.length := Nat.div_lt_of_lt_mul (by rw [Nat.mul_comm]; exact hj)
  have hm : j % k < k := Nat.mod_lt _ k0
  have e : 0 + j / k * k + j % k = 0 + j := by rw [Nat.add_assoc]; congr 1; rw [Nat.mul_comm]; exact Nat.div_add_mod j k
  have h1 := hr (j / k) (enc l[j / k]) (by rw [List.getElem?_map, List.getElem?_eq_getElem hd]; rfl) (j % k) hm
  rw [e] at h1
  refine ⟨?_, ?_⟩
  · rw [h1]
    have h2 := get_flatK enc k l.toArray j (by simpa using hj)
    have h3 : l.toArray[j / k]! = l[j / k] := by rw [getElem!_pos _ _ (by simpa using hd)]; simp
    rw [h3] at h2
    show _ = some (id ((flatK enc k l.toArray)[j]!))
    rw [h2, List.getElem?_eq_getElem (by rw [hk]; exact hm), getElem!_pos _ _ (by rw [hk]; exact hm)]
    rfl
  · simp [World.frozen?, hc]
theorem put_take (F c : Array Value) (h : F.size ≤ c.size) : (putCells id 0 F c).toList.take F.size = F.toList := by
  refine List.ext_getElem? fun t => ?_
  by_cases ht : t < F.size
  · rw [List.getElem?_take_of_lt ht, Array.getElem?_toList, Array.getElem?_toList]
    unfold putCells
    rw [Array.getElem?_mapIdx, Array.getElem?_eq_getElem (by omega : t < c.size), Array.getElem?_eq_getElem ht]
    simp [ht]
  · rw [List.getElem?_eq_none (by simp; omega), List.getElem?_eq_none (by simp; omega)]
theorem sortWorldK_grownBy (W : World) (g n : Nat) (d : Array α) (os : Array Obj) : W.grownBy (sortWorldK enc k W g 0 n d os) (some g) := by
  refine ⟨rfl, rfl, rfl, ?_, fun j hj hne => ?_⟩
  · unfold sortWorldK
    rw [size_grow, size_putRowK]
    exact Nat.le_add_right _ _
  · unfold sortWorldK grow
    show ((putRowK enc k (Sort.ahead W n) g 0 d).heap ++ os)[j]? = _
    have hs : j < (putRowK enc k (Sort.ahead W n) g 0 d).heap.size := by rw [size_putRowK]; exact hj
    rw [Array.getElem?_append_left hs]
    show ((Sort.ahead W n).heap.modify g _)[j]? = _
    rw [Array.getElem?_modify, if_neg (fun e => hne (by rw [e]))]
    rfl
theorem sortWorldK_block {W : World} {g n t : Nat} {cur : Array Value} {d : Array α} {os : Array Obj} (h : W.heap[g]? = some (.cells cur t)) :
    (sortWorldK enc k W g 0 n d os).heap[g]? = some (.cells (putCells id 0 (flatK enc k d) cur) t) := by
  have hg : g < W.heap.size := (Array.getElem?_eq_some_iff.1 h).1
  unfold sortWorldK grow
  show ((putRowK enc k (Sort.ahead W n) g 0 d).heap ++ os)[g]? = _
  rw [Array.getElem?_append_left (by rw [size_putRowK]; exact hg)]
  show ((Sort.ahead W n).heap.modify g _)[g]? = _
  rw [Array.getElem?_modify, if_pos rfl, show (Sort.ahead W n).heap[g]? = some (.cells cur t) from h]
  rfl
theorem own_put (hk : ∀ x, (enc x).length = k) (h1 : ∀ x, ∀ v ∈ enc x, v.oneCell' = true) {W : World} {base t g cap n : Nat} {l : List α} {d : Array α} {os : Array Obj}
    (h : OwnR W base t k (.slice (some ⟨g, 0, none⟩) l.length cap) (l.map enc)) (hd : d.size = l.length) : OwnR (sortWorldK enc k W g 0 n d os) base t k (.slice (some ⟨g, 0, none⟩) l.length cap) (d.toList.map enc) := by
  refine ⟨wide_map hk h1 _, by rw [wide_len hk]; simp, ?_⟩
  rcases h.2.2 with ⟨h2, _⟩ | ⟨g', cap', cur, he, hB, hc, hle, hm, hcs, htk⟩
  · cases h2
  · simp only [List.length_map] at he hle htk
    injection he with he _ hcap
    injection he with he
    injection he with he _
    subst he hcap
    refine Or.inr ⟨g, cap, _, ?_, hB, sortWorldK_block hc, ?_, hm, ?_, ?_⟩
    · simp [hd]
    · simp; omega
    · unfold putCells
      simpa using hcs
    · have hf : (flatK enc k d).size = (d.toList.map enc).length * k := by simp
      rw [← hf, put_take _ _ (by rw [size_flatK, hcs, hd]; exact Nat.mul_le_mul_right k hle), flatK_list hk]
theorem perm_list {l : List α} {d : Array α} (h : PermIn 0 l.toArray.size l.toArray d) : d.toList.Perm l := by
  obtain ⟨h1, _, h3⟩ := h
  have e1 : d.extract 0 l.toArray.size = d := by rw [← h1]; exact Array.extract_size
  have e2 : l.toArray.extract 0 l.toArray.size = l.toArray := Array.extract_size
  rw [e1, e2] at h3
  simpa using h3
theorem sorted_list {lt : α → α → Bool} {d : Array α} {n : Nat} (hn : d.size = n) (h : SortedIn lt 0 n d) : d.toList.Pairwise (fun x y => lt y x = false) := by
  subst hn
  rw [List.pairwise_iff_getElem]
  intro i j hi hj hij
  have := h i j (Nat.zero_le _) hij (by simpa using hj)
  rw [getElem!_pos d j (by simpa using hj), getElem!_pos d i (by simpa using hi)] at this
  simpa using this
end
/-- SortFunc over rows of the call's own -/
theorem sort_own {P : Program} {ρ : Ren} {α : Type} [Inhabited α] (L : SlLaysF0.n6 P ρ) (k : Nat) (aE : ∀ w, (isAgg (ρ.t 24)).run P w = .ok true w) (zE : ∀ w, (Go.sizeOf (ρ.t 24)).run P w = .ok k w) (enc : α → List Value) (hk : ∀ x, (enc x).length = k)
    (h1 : ∀ x, ∀ v ∈ enc x, v.oneCell' = true) (cf : α → α → Int) (hO : SWO (ltOf cf)) (f : Nat) (cb : Array Value) (eg : ∀ args w, (callFunc f args).run P w = .ok (.enter f args) w)
    (hcmp : ∀ g size W, CmpLays P f cb enc k cf g 0 size W) (W : World) (base t : Nat) (v : Value) (l : List α) (h : OwnR W base t k v (l.map enc)) (hsz : l.length < 4611686018427387904) :
    Calls P (ρ.f 6) #[v, .func (.func f) #[] cb] W fun e w' => e = .returned (.tuple #[]) ∧ ∃ l' : List α, l'.Perm l ∧ l'.Pairwise (fun x y => ltOf cf y x = false) ∧ OwnR w' base t k v (l'.map enc) ∧ W.grownBy w' v.ownBlock := by
  by_cases hl : l.length = 0
  · obtain rfl := List.eq_nil_of_length_eq_zero hl
    obtain ⟨a, cap, rfl⟩ := h.slice
    refine (AnyF.slices_SortFunc_none L a cap _ W).mono ?_
    rintro e w' ⟨rfl, rfl⟩
    exact ⟨rfl, [], List.Perm.refl _, List.Pairwise.nil, h, ⟨rfl, rfl, rfl, Nat.le_refl _, fun _ _ _ => rfl⟩⟩
  · obtain ⟨g, cap, cur, rfl, _, hc, _⟩ := h.rows (by simp; omega)
    rw [List.length_map] at h ⊢
    have hcon := AnyQ.slices_SortFunc L k aE zE enc hk h1 cf hO f cb g 0 cap l.toArray W eg (hcmp g _ W) (own_holds hk h) (Array.getElem?_eq_some_iff.1 hc).1 (by simpa using hsz)
    rw [List.size_toArray] at hcon
    refine hcon.mono ?_
    rintro e w' ⟨rfl, d', n, os, hp, hs, rfl⟩
    have hd : d'.size = l.length := by have := hp.1; simpa using this
    refine ⟨rfl, d'.toList, perm_list (by simpa using hp), sorted_list hd hs, own_put hk h1 h hd, sortWorldK_grownBy W g n d' os⟩
end Go.Proofs.Yteoikaedpgianaa
namespace Go.Proofs.Yteoikaedpgianaa
open Go.Shelf
def sortFxL_ren : Go.Shelf.Ren := ⟨fun | 6 => 117 | 15 => 155 | 14 => 154 | 28 => 174 | 29 => 175 | 20 => 166 | 21 => 167 | 22 => 168 | 23 => 169 | 24 => 170 | 25 => 171 | 26 => 172 | 27 => 173 | 46 => 179 | 47 => 180 | 48 => 181 | 49 => 182 | 50 => 183 | 57 => 186 | n => n, fun | 22 => 106 | 24 => 55 | 25 => 170 | 3 => 3 | 39 => 41 | 0 => 0 | 53 => 222 | 55 => 182 | 4 => 4 | 46 => 216 | 45 => 215 | 50 => 91 | 5 => 5 | 9 => 9 | 66 => 226 | 70 => 230 | 76 => 232 | 77 => 233 | n => n, fun | n => n⟩
theorem sortFxL : Go.Proofs.SlLaysF0.n6 Try.prog sortFxL_ren := {
  mixed := by kernel_rfl
  f6 := ⟨Try.f117.name, by decide, Try.func117.trans (congrArg some (by kernel_rfl))⟩
  f14 := ⟨Try.f154.name, by decide, Try.func154.trans (congrArg some (by kernel_rfl))⟩
  f15 := Try.func155.trans (congrArg some (by kernel_rfl))
  f20 := ⟨Try.f166.name, by decide, Try.func166.trans (congrArg some (by kernel_rfl))⟩
  f21 := ⟨Try.f167.name, by decide, Try.func167.trans (congrArg some (by kernel_rfl))⟩
  f22 := ⟨Try.f168.name, by decide, Try.func168.trans (congrArg some (by kernel_rfl))⟩
  f23 := ⟨Try.f169.name, by decide, Try.func169.trans (congrArg some (by kernel_rfl))⟩
  f24 := ⟨Try.f170.name, by decide, Try.func170.trans (congrArg some (by kernel_rfl))⟩
  f25 := ⟨Try.f171.name, by decide, Try.func171.trans (congrArg some (by kernel_rfl))⟩
  f26 := ⟨Try.f172.name, by decide, Try.func172.trans (congrArg some (by kernel_rfl))⟩
  f27 := ⟨Try.f173.name, by decide, Try.func173.trans (congrArg some (by kernel_rfl))⟩
  f28 := Try.func174.trans (congrArg some (by kernel_rfl))
  f29 := Try.func175.trans (congrArg some (by kernel_rfl))
  f46 := ⟨Try.f179.name, by decide, Try.func179.trans (congrArg some (by kernel_rfl))⟩
  f47 := Try.func180.trans (congrArg some (by kernel_rfl))
  f48 := Try.func181.trans (congrArg some (by kernel_rfl))
  f49 := ⟨Try.f182.name, by decide, Try.func182.trans (congrArg some (by kernel_rfl))⟩
  f50 := ⟨Try.f183.name, by decide, Try.func183.trans (congrArg some (by kernel_rfl))⟩
  f57 := ⟨Try.f186.name, by decide, Try.func186.trans (congrArg some (by kernel_rfl))⟩
  t0 := Try.underlying0
  a0 := Try.isAgg0
  z0 := Try.sizeOf0
  v0 := Try.zeroValue0
  t3 := Try.underlying3
  a3 := Try.isAgg3
  z3 := Try.sizeOf3
  v3 := Try.zeroValue3
  t4 := Try.underlying4
  a4 := Try.isAgg4
  z4 := Try.sizeOf4
  v4 := Try.zeroValue4
  t5 := Try.underlying5
  a5 := Try.isAgg5
  z5 := Try.sizeOf5
  v5 := Try.zeroValue5
  t9 := Try.underlying9
  a9 := Try.isAgg9
  z9 := Try.sizeOf9
  v9 := Try.zeroValue9
  t22 := Try.underlying106
  a22 := Try.isAgg106
  z22 := Try.sizeOf106
  v22 := Try.zeroValue106
  t25 := Try.underlying170
  a25 := Try.isAgg170
  z25 := Try.sizeOf170
  v25 := Try.zeroValue170
  t39 := Try.underlying41
  a39 := Try.isAgg41
  z39 := Try.sizeOf41
  v39 := Try.zeroValue41
  t45 := Try.underlying215
  a45 := Try.isAgg215
  z45 := Try.sizeOf215
  v45 := Try.zeroValue215
  t46 := Try.underlying216
  a46 := Try.isAgg216
  z46 := Try.sizeOf216
  v46 := Try.zeroValue216
  t50 := Try.underlying91
  a50 := Try.isAgg91
  z50 := Try.sizeOf91
  v50 := Try.zeroValue91
  t53 := Try.underlying222
  a53 := Try.isAgg222
  z53 := Try.sizeOf222
  v53 := Try.zeroValue222
  t55 := Try.underlying182
  a55 := Try.isAgg182
  z55 := Try.sizeOf182
  v55 := Try.zeroValue182
  t66 := Try.underlying226
  a66 := Try.isAgg226
  z66 := Try.sizeOf226
  v66 := Try.zeroValue226
  t70 := Try.underlying230
  a70 := Try.isAgg230
  z70 := Try.sizeOf230
  v70 := Try.zeroValue230
  t76 := Try.underlying232
  a76 := Try.isAgg232
  z76 := Try.sizeOf232
  v76 := Try.zeroValue232
  t77 := Try.underlying233
  a77 := Try.isAgg233
  z77 := Try.sizeOf233
  v77 := Try.zeroValue233 }
end Go.Proofs.Yteoikaedpgianaa
