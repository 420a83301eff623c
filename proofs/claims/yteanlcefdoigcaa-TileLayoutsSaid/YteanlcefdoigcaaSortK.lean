/- Sorting rows of the call's own: what slices.SortFunc leaves, in terms of owned rows. For whatever program. -/
import Derived.Test.YteanlcefdoigcaaOwnR
import Derived.Shelf.SlSortCmp.NoneTotal
namespace Go.Proofs.Yteanlcefdoigcaa
open Go.RowKit Go.Sort Go.Lib Go.Shelf Go.Proofs

theorem wide_map {α : Type} {enc : α → List Value} {k : Nat} (hk : ∀ x, (enc x).length = k) (h1 : ∀ x, ∀ v ∈ enc x, v.oneCell' = true) (l : List α) : Wide k (l.map enc) := fun r hr => by
  obtain ⟨x, _, rfl⟩ := List.mem_map.1 hr
  exact ⟨hk x, h1 x⟩
theorem wide_len {α : Type} {enc : α → List Value} {k : Nat} (hk : ∀ x, (enc x).length = k) (l : List α) : ((l.map enc).flatten).length = l.length * k := by
  induction l with
  | nil => simp
  | cons a l ih => rw [List.map_cons, List.flatten_cons, List.length_append, ih, hk, List.length_cons, Nat.add_mul, Nat.one_mul, Nat.add_comm]
section
variable {α : Type} [Inhabited α] {enc : α → List Value} {k : Nat}
theorem flat_at (hk : ∀ x, (enc x).length = k) : ∀ (l : List α) (i j : Nat), i < l.length → j < k → (l.map enc).flatten[i * k + j]? = (enc l[i]!)[j]?
  | [], i, _, h, _ => by simp at h
  | a :: l, 0, j, _, hj => by
    rw [List.map_cons, List.flatten_cons, Nat.zero_mul, Nat.zero_add, List.getElem?_append_left (by rw [hk]; exact hj)]
    rfl
  | a :: l, i + 1, j, h, hj => by
    have e : (i + 1) * k + j = k + (i * k + j) := by rw [Nat.add_mul]; omega
    rw [List.map_cons, List.flatten_cons, e, List.getElem?_append_right (by rw [hk]; omega), hk, Nat.add_sub_cancel_left, flat_at hk l i j (by simpa using h) hj]
    rfl
theorem flatK_list (hk : ∀ x, (enc x).length = k) (d : Array α) : (flatK enc k d).toList = (d.toList.map enc).flatten := by
  refine List.ext_getElem? fun t => ?_
  by_cases ht : t < d.size * k
  · have k0 : 0 < k := by
      rcases Nat.eq_zero_or_pos k with h | h
      · subst h; simp at ht
      · exact h
    have hd : t / k < d.size := Nat.div_lt_of_lt_mul (by rw [Nat.mul_comm]; exact ht)
    have hm : t % k < k := Nat.mod_lt _ k0
    have e : t / k * k + t % k = t := by rw [Nat.mul_comm]; exact Nat.div_add_mod t k
    have h1 := flat_at hk d.toList (t / k) (t % k) (by simpa using hd) hm
    rw [e] at h1
    rw [h1, Array.getElem?_toList, Array.getElem?_eq_getElem (by simpa using ht)]
    have h2 := get_flatK enc k d t ht
    rw [getElem!_pos _ t (by simpa using ht)] at h2
    rw [h2]
    have h3 : d.toList[t / k]! = d[t / k]! := by
      rw [getElem!_pos d _ hd, getElem!_pos d.toList _ (by simpa using hd)]
      simp
    rw [h3, List.getElem?_eq_getElem (by rw [hk]; exact hm), getElem!_pos (enc d[t / k]!) _ (by rw [hk]; exact hm)]
  · rw [List.getElem?_eq_none (by simp; omega), List.getElem?_eq_none (by rw [wide_len hk]; simp; omega)]
theorem own_holds (hk : ∀ x, (enc x).length = k) {W : World} {base t g cap : Nat} {l : List α} (h : OwnR W base t k (.slice (some ⟨g, 0, none⟩) l.length cap) (l.map enc)) : HoldsK enc k W g 0 l.toArray := by
  intro j hj
  rw [size_flatK] at hj
  simp only [List.size_toArray] at hj
  have k0 : 0 < k := by
    rcases Nat.eq_zero_or_pos k with h | h
    · subst h; simp at hj
    · exact h
  have hl : 0 < l.length := by
    rcases Nat.eq_zero_or_pos l.length with h | h
    · rw [h] at hj; simp at hj
    · exact h
  obtain ⟨g', cap', cur, he, _, hc, hr, _⟩ := h.rows (by simpa using hl)
  injection he with he _ _
  injection he with he
  injection he with he _
  subst he
  have hd : j / k < l.length := Nat.div_lt_of_lt_mul (by rw [Nat.mul_comm]; exact hj)
  have hm : j % k < k := Nat.mod_lt _ k0
  have e : 0 + j / k * k + j % k = 0 + j := by rw [Nat.add_assoc]; congr 1; rw [Nat.mul_comm]; exact Nat.div_add_mod j k
  have h1 := hr (j / k) (enc l[j / k]) (by rw [List.getElem?_map, List.getElem?_eq_getElem hd]; rfl) (j % k) hm
  rw [e] at h1
  refine ⟨?_, ?_⟩
  · rw [h1]
    have h2 := get_flatK enc k l.toArray j (by simpa using hj)
    have h3 : l.toArray[j / k]! = l[j / k] := by rw [getElem!_pos _ _ (by simpa using hd)]; simp
    rw [h3] at h2
    show _ = some (id ((flatK enc k l.toArray)[j]!))
    rw [h2, List.getElem?_eq_getElem (by rw [hk]; exact hm), getElem!_pos _ _ (by rw [hk]; exact hm)]
    rfl
  · simp [World.frozen?, hc]
theorem put_take (F c : Array Value) (h : F.size ≤ c.size) : (putCells id 0 F c).toList.take F.size = F.toList := by
  refine List.ext_getElem? fun t => ?_
  by_cases ht : t < F.size
  · rw [List.getElem?_take_of_lt ht, Array.getElem?_toList, Array.getElem?_toList]
    unfold putCells
    rw [Array.getElem?_mapIdx, Array.getElem?_eq_getElem (by omega : t < c.size), Array.getElem?_eq_getElem ht]
    simp [ht]
  · rw [List.getElem?_eq_none (by simp; omega), List.getElem?_eq_none (by simp; omega)]
theorem sortWorldK_grownBy (W : World) (g n : Nat) (d : Array α) (os : Array Obj) : W.grownBy (sortWorldK enc k W g 0 n d os) (some g) := by
  refine ⟨rfl, rfl, rfl, ?_, fun j hj hne => ?_⟩
  · unfold sortWorldK
    rw [size_grow, size_putRowK]
    exact Nat.le_add_right _ _
  · unfold sortWorldK grow
    show ((putRowK enc k (Sort.ahead W n) g 0 d).heap ++ os)[j]? = _
    have hs : j < (putRowK enc k (Sort.ahead W n) g 0 d).heap.size := by rw [size_putRowK]; exact hj
    rw [Array.getElem?_append_left hs]
    show ((Sort.ahead W n).heap.modify g _)[j]? = _
    rw [Array.getElem?_modify, if_neg (fun e => hne (by rw [e]))]
    rfl
theorem sortWorldK_block {W : World} {g n t : Nat} {cur : Array Value} {d : Array α} {os : Array Obj} (h : W.heap[g]? = some (.cells cur t)) :
    (sortWorldK enc k W g 0 n d os).heap[g]? = some (.cells (putCells id 0 (flatK enc k d) cur) t) := by
  have hg : g < W.heap.size := (Array.getElem?_eq_some_iff.1 h).1
  unfold sortWorldK grow
  show ((putRowK enc k (Sort.ahead W n) g 0 d).heap ++ os)[g]? = _
  rw [Array.getElem?_append_left (by rw [size_putRowK]; exact hg)]
  show ((Sort.ahead W n).heap.modify g _)[g]? = _
  rw [Array.getElem?_modify, if_pos rfl, show (Sort.ahead W n).heap[g]? = some (.cells cur t) from h]
  rfl
theorem own_put (hk : ∀ x, (enc x).length = k) (h1 : ∀ x, ∀ v ∈ enc x, v.oneCell' = true) {W : World} {base t g cap n : Nat} {l : List α} {d : Array α} {os : Array Obj}
    (h : OwnR W base t k (.slice (some ⟨g, 0, none⟩) l.length cap) (l.map enc)) (hd : d.size = l.length) : OwnR (sortWorldK enc k W g 0 n d os) base t k (.slice (some ⟨g, 0, none⟩) l.length cap) (d.toList.map enc) := by
  refine ⟨wide_map hk h1 _, by rw [wide_len hk]; simp, ?_⟩
  rcases h.2.2 with ⟨h2, _⟩ | ⟨g', cap', cur, he, hB, hc, hle, hm, hcs, htk⟩
  · cases h2
  · simp only [List.length_map] at he hle htk
    injection he with he _ hcap
    injection he with he
    injection he with he _
    subst he hcap
    refine Or.inr ⟨g, cap, _, ?_, hB, sortWorldK_block hc, ?_, hm, ?_, ?_⟩
    · simp [hd]
    · simp; omega
    · unfold putCells
      simpa using hcs
    · have hf : (flatK enc k d).size = (d.toList.map enc).length * k := by simp
      rw [← hf, put_take _ _ (by rw [size_flatK, hcs, hd]; exact Nat.mul_le_mul_right k hle), flatK_list hk]
theorem perm_list {l : List α} {d : Array α} (h : PermIn 0 l.toArray.size l.toArray d) : d.toList.Perm l := by
  obtain ⟨h1, _, h3⟩ := h
  have e1 : d.extract 0 l.toArray.size = d := by rw [← h1]; exact Array.extract_size
  have e2 : l.toArray.extract 0 l.toArray.size = l.toArray := Array.extract_size
  rw [e1, e2] at h3
  simpa using h3
theorem sorted_list {lt : α → α → Bool} {d : Array α} {n : Nat} (hn : d.size = n) (h : SortedIn lt 0 n d) : d.toList.Pairwise (fun x y => lt y x = false) := by
  subst hn
  rw [List.pairwise_iff_getElem]
  intro i j hi hj hij
  have := h i j (Nat.zero_le _) hij (by simpa using hj)
  rw [getElem!_pos d j (by simpa using hj), getElem!_pos d i (by simpa using hi)] at this
  simpa using this
end
/-- SortFunc over rows of the call's own -/
theorem sort_own {P : Program} {ρ : Ren} {α : Type} [Inhabited α] (L : SlLaysF0.n6 P ρ) (k : Nat) (aE : ∀ w, (isAgg (ρ.t 24)).run P w = .ok true w) (zE : ∀ w, (Go.sizeOf (ρ.t 24)).run P w = .ok k w) (enc : α → List Value) (hk : ∀ x, (enc x).length = k)
    (h1 : ∀ x, ∀ v ∈ enc x, v.oneCell' = true) (cf : α → α → Int) (hO : SWO (ltOf cf)) (f : Nat) (cb : Array Value) (eg : ∀ args w, (callFunc f args).run P w = .ok (.enter f args) w)
    (hcmp : ∀ g size W, CmpLays P f cb enc k cf g 0 size W) (W : World) (base t : Nat) (v : Value) (l : List α) (h : OwnR W base t k v (l.map enc)) (hsz : l.length < 4611686018427387904) :
    Calls P (ρ.f 6) #[v, .func (.func f) #[] cb] W fun e w' => e = .returned (.tuple #[]) ∧ ∃ l' : List α, l'.Perm l ∧ l'.Pairwise (fun x y => ltOf cf y x = false) ∧ OwnR w' base t k v (l'.map enc) ∧ W.grownBy w' v.ownBlock := by
  by_cases hl : l.length = 0
  · obtain rfl := List.eq_nil_of_length_eq_zero hl
    obtain ⟨a, cap, rfl⟩ := h.slice
    refine (AnyF.slices_SortFunc_none L a cap _ W).mono ?_
    rintro e w' ⟨rfl, rfl⟩
    exact ⟨rfl, [], List.Perm.refl _, List.Pairwise.nil, h, ⟨rfl, rfl, rfl, Nat.le_refl _, fun _ _ _ => rfl⟩⟩
  · obtain ⟨g, cap, cur, rfl, _, hc, _⟩ := h.rows (by simp; omega)
    rw [List.length_map] at h ⊢
    have hcon := AnyQ.slices_SortFunc L k aE zE enc hk h1 cf hO f cb g 0 cap l.toArray W eg (hcmp g _ W) (own_holds hk h) (Array.getElem?_eq_some_iff.1 hc).1 (by simpa using hsz)
    rw [List.size_toArray] at hcon
    refine hcon.mono ?_
    rintro e w' ⟨rfl, d', n, os, hp, hs, rfl⟩
    have hd : d'.size = l.length := by have := hp.1; simpa using this
    refine ⟨rfl, d'.toList, perm_list (by simpa using hp), sorted_list hd hs, own_put hk h1 h hd, sortWorldK_grownBy W g n d' os⟩
end Go.Proofs.Yteanlcefdoigcaa
