/- Sorting rows of the call's own: what slices.SortFunc leaves, in terms of owned rows. For whatever program. The library's sort lies at this program's two instances (points, tiles): the layings, in plain words, as the kit's tool writes them. The three comparisons with which the layout sorts, and what the sort leaves with each of them. -/
import Derived.Test.YteanlcefdoigcaaMaps
import Derived.Shelf.SlSortCmp.NoneTotal
import Derived.Test.YteanlcefdoigcaaRows
import Derived.Test.YteanlcefdoigcaaLayM
import Derived.BigQuiet
namespace Go.Proofs.Yteanlcefdoigcaa
open Go.RowKit Go.Sort Go.Lib Go.Shelf Go.Proofs

theorem wide_map {α : Type} {enc : α → List Value} {k : Nat} (hk : ∀ x, (enc x).length = k) (h1 : ∀ x, ∀ v ∈ enc x, v.oneCell' = true) (l : List α) : Wide k (l.map enc) := fun r hr => by
  obtain ⟨x, _, rfl⟩ := List.mem_map.1 hr
  exact ⟨hk x, h1 x⟩
theorem wide_len {α : Type} {enc : α → List Value} {k : Nat} (hk : ∀ x, (enc x).length = k) (l : List α) : ((l.map enc).flatten).length = l.length * k := by
  induction l with
  | nil => simp
  | cons a l ih => rw [List.map_cons, List.flatten_cons, List.length_append, ih, hk, List.length_cons, Nat.add_mul, Nat.one_mul, Nat.add_comm]
section
variable {α : Type} [Inhabited α] {enc : α → List Value} {k : Nat}
theorem flat_at (hk : ∀ x, (enc x).length = k) : ∀ (l : List α) (i j : Nat), i < l.length → j < k → (l.map enc).flatten[i * k + j]? = (enc l[i]!)[j]?
  | [], i, _, h, _ => by simp at h
  | a :: l, 0, j, _, hj => by
    rw [List.map_cons, List.flatten_cons, Nat.zero_mul, Nat.zero_add, List.getElem?_append_left (by rw [hk]; exact hj)]
    rfl
  | a :: l, i + 1, j, h, hj => by
    have e : (i + 1) * k + j = k + (i * k + j) := by rw [Nat.add_mul]; omega
    rw [List.map_cons, List.flatten_cons, e, List.getElem?_append_right (by rw [hk]; omega), hk, Nat.add_sub_cancel_left, flat_at hk l i j (by simpa using h) hj]
    rfl
theorem flatK_list (hk : ∀ x, (enc x).length = k) (d : Array α) : (flatK enc k d).toList = (d.toList.map enc).flatten := by
  refine List.ext_getElem? fun t => ?_
  by_cases ht : t < d.size * k
  · have k0 : 0 < k := by
      rcases Nat.eq_zero_or_pos k with h | h
      · subst h; simp at ht
      · exact h
    have hd : t / k < d.size := Nat.div_lt_of_lt_mul (by rw [Nat.mul_comm]; exact ht)
    have hm : t % k < k := Nat.mod_lt _ k0
    have e : t / k * k + t % k = t := by rw [Nat.mul_comm]; exact Nat.div_add_mod t k
    have h1 := flat_at hk d.toList (t / k) (t % k) (by simpa using hd) hm
    rw [e] at h1
    rw [h1, Array.getElem?_toList, Array.getElem?_eq_getElem (by simpa using ht)]
    have h2 := get_flatK enc k d t ht
    rw [getElem!_pos _ t (by simpa using ht)] at h2
    rw [h2]
    have h3 : d.toList[t / k]! = d[t / k]! := by
      rw [getElem!_pos d _ hd, getElem!_pos d.toList _ (by simpa using hd)]
      simp
    rw [h3, List.getElem?_eq_getElem (by rw [hk]; exact hm), getElem!_pos (enc d[t / k]!) _ (by rw [hk]; exact hm)]
  · rw [List.getElem?_eq_none (by simp; omega), List.getElem?_eq_none (by rw [wide_len hk]; simp; omega)]
theorem own_holds (hk : ∀ x, (enc x).length = k) {W : World} {base t g cap : Nat} {l : List α} (h : OwnR W base t k (.slice (some ⟨g, 0, none⟩) l.length cap) (l.map enc)) : HoldsK enc k W g 0 l.toArray := by
  intro j hj
  rw [size_flatK] at hj
  simp only [List.size_toArray] at hj
  have k0 : 0 < k := by
    rcases Nat.eq_zero_or_pos k with h | h
    · subst h; simp at hj
    · exact h
  have hl : 0 < l.length := by
    rcases Nat.eq_zero_or_pos l.length with h | h
    · rw [h] at hj; simp at hj
    · exact h
  obtain ⟨g', cap', cur, he, _, hc, hr, _⟩ := h.rows (by simpa using hl)
  injection he with he _ _
  injection he with he
  injection he with he _
  subst he
  have hd : j / k < l.length := Nat.div_lt_of_lt_mul (by rw [Nat.mul_comm]; exact hj)
  have hm : j % k < k := Nat.mod_lt _ k0
  have e : 0 + j / k * k + j % k = 0 + j := by rw [Nat.add_assoc]; congr 1; rw [Nat.mul_comm]; exact Nat.div_add_mod j k
  have h1 := hr (j / k) (enc l[j / k]) (by rw [List.getElem?_map, List.getElem?_eq_getElem hd]; rfl) (j % k) hm
  rw [e] at h1
  refine ⟨?_, ?_⟩
  · rw [h1]
    have h2 := get_flatK enc k l.toArray j (by simpa using hj)
    have h3 : l.toArray[j / k]! = l[j / k] := by rw [getElem!_pos _ _ (by simpa using hd)]; simp
    rw [h3] at h2
    show _ = some (id ((flatK enc k l.toArray)[j]!))
    rw [h2, List.getElem?_eq_getElem (by rw [hk]; exact hm), getElem!_pos _ _ (by rw [hk]; exact hm)]
    rfl
  · simp [World.frozen?, hc]
theorem put_take (F c : Array Value) (h : F.size ≤ c.size) : (putCells id 0 F c).toList.take F.size = F.toList := by
  refine List.ext_getElem? fun t => ?_
  by_cases ht : t < F.size
  · rw [List.getElem?_take_of_lt ht, Array.getElem?_toList, Array.getElem?_toList]
    unfold putCells
    rw [Array.getElem?_mapIdx, Array.getElem?_eq_getElem (by omega : t < c.size), Array.getElem?_eq_getElem ht]
    simp [ht]
  · rw [List.getElem?_eq_none (by simp; omega), List.getElem?_eq_none (by simp; omega)]
theorem sortWorldK_grownBy (W : World) (g n : Nat) (d : Array α) (os : Array Obj) : W.grownBy (sortWorldK enc k W g 0 n d os) (some g) := by
  refine ⟨rfl, rfl, rfl, ?_, fun j hj hne => ?_⟩
  · unfold sortWorldK
    rw [size_grow, size_putRowK]
    exact Nat.le_add_right _ _
  · unfold sortWorldK grow
    show ((putRowK enc k (Sort.ahead W n) g 0 d).heap ++ os)[j]? = _
    have hs : j < (putRowK enc k (Sort.ahead W n) g 0 d).heap.size := by rw [size_putRowK]; exact hj
    rw [Array.getElem?_append_left hs]
    show ((Sort.ahead W n).heap.modify g _)[j]? = _
    rw [Array.getElem?_modify, if_neg (fun e => hne (by rw [e]))]
    rfl
theorem sortWorldK_block {W : World} {g n t : Nat} {cur : Array Value} {d : Array α} {os : Array Obj} (h : W.heap[g]? = some (.cells cur t)) :
    (sortWorldK enc k W g 0 n d os).heap[g]? = some (.cells (putCells id 0 (flatK enc k d) cur) t) := by
  have hg : g < W.heap.size := (Array.getElem?_eq_some_iff.1 h).1
  unfold sortWorldK grow
  show ((putRowK enc k (Sort.ahead W n) g 0 d).heap ++ os)[g]? = _
  rw [Array.getElem?_append_left (by rw [size_putRowK]; exact hg)]
  show ((Sort.ahead W n).heap.modify g _)[g]? = _
  rw [Array.getElem?_modify, if_pos rfl, show (Sort.ahead W n).heap[g]? = some (.cells cur t) from h]
  rfl
theorem own_put (hk : ∀ x, (enc x).length = k) (h1 : ∀ x, ∀ v ∈ enc x, v.oneCell' = true) {W : World} {base t g cap n : Nat} {l : List α} {d : Array α} {os : Array Obj}
    (h : OwnR W base t k (.slice (some ⟨g, 0, none⟩) l.length cap) (l.map enc)) (hd : d.size = l.length) : OwnR (sortWorldK enc k W g 0 n d os) base t k (.slice (some ⟨g, 0, none⟩) l.length cap) (d.toList.map enc) := by
  refine ⟨wide_map hk h1 _, by rw [wide_len hk]; simp, ?_⟩
  rcases h.2.2 with ⟨h2, _⟩ | ⟨g', cap', cur, he, hB, hc, hle, hm, hcs, htk⟩
  · cases h2
  · simp only [List.length_map] at he hle htk
    injection he with he _ hcap
    injection he with he
    injection he with he _
    subst he hcap
    refine Or.inr ⟨g, cap, _, ?_, hB, sortWorldK_block hc, ?_, hm, ?_, ?_⟩
    · simp [hd]
    · simp; omega
    · unfold putCells
      simpa using hcs
    · have hf : (flatK enc k d).size = (d.toList.map enc).length * k := by simp
      rw [← hf, put_take _ _ (by rw [size_flatK, hcs, hd]; exact Nat.mul_le_mul_right k hle), flatK_list hk]
theorem perm_list {l : List α} {d : Array α} (h : PermIn 0 l.toArray.size l.toArray d) : d.toList.Perm l := by
  obtain ⟨h1, _, h3⟩ := h
  have e1 : d.extract 0 l.toArray.size = d := by rw [← h1]; exact Array.extract_size
  have e2 : l.toArray.extract 0 l.toArray.size = l.toArray := Array.extract_size
  rw [e1, e2] at h3
  simpa using h3
theorem sorted_list {lt : α → α → Bool} {d : Array α} {n : Nat} (hn : d.size = n) (h : SortedIn lt 0 n d) : d.toList.Pairwise (fun x y => lt y x = false) := by
  subst hn
  rw [List.pairwise_iff_getElem]
  intro i j hi hj hij
  have := h i j (Nat.zero_le _) hij (by simpa using hj)
  rw [getElem!_pos d j (by simpa using hj), getElem!_pos d i (by simpa using hi)] at this
  simpa using this
end
/-- SortFunc over rows of the call's own -/
theorem sort_own {P : Program} {ρ : Ren} {α : Type} [Inhabited α] (L : SlLaysF0.n6 P ρ) (k : Nat) (aE : ∀ w, (isAgg (ρ.t 24)).run P w = .ok true w) (zE : ∀ w, (Go.sizeOf (ρ.t 24)).run P w = .ok k w) (enc : α → List Value) (hk : ∀ x, (enc x).length = k)
    (h1 : ∀ x, ∀ v ∈ enc x, v.oneCell' = true) (cf : α → α → Int) (hO : SWO (ltOf cf)) (f : Nat) (cb : Array Value) (eg : ∀ args w, (callFunc f args).run P w = .ok (.enter f args) w)
    (hcmp : ∀ g size W, CmpLays P f cb enc k cf g 0 size W) (W : World) (base t : Nat) (v : Value) (l : List α) (h : OwnR W base t k v (l.map enc)) (hsz : l.length < 4611686018427387904) :
    Calls P (ρ.f 6) #[v, .func (.func f) #[] cb] W fun e w' => e = .returned (.tuple #[]) ∧ ∃ l' : List α, l'.Perm l ∧ l'.Pairwise (fun x y => ltOf cf y x = false) ∧ OwnR w' base t k v (l'.map enc) ∧ W.grownBy w' v.ownBlock := by
  by_cases hl : l.length = 0
  · obtain rfl := List.eq_nil_of_length_eq_zero hl
    obtain ⟨a, cap, rfl⟩ := h.slice
    refine (AnyF.slices_SortFunc_none L a cap _ W).mono ?_
    rintro e w' ⟨rfl, rfl⟩
    exact ⟨rfl, [], List.Perm.refl _, List.Pairwise.nil, h, ⟨rfl, rfl, rfl, Nat.le_refl _, fun _ _ _ => rfl⟩⟩
  · obtain ⟨g, cap, cur, rfl, _, hc, _⟩ := h.rows (by simp; omega)
    rw [List.length_map] at h ⊢
    have hcon := AnyQ.slices_SortFunc L k aE zE enc hk h1 cf hO f cb g 0 cap l.toArray W eg (hcmp g _ W) (own_holds hk h) (Array.getElem?_eq_some_iff.1 hc).1 (by simpa using hsz)
    rw [List.size_toArray] at hcon
    refine hcon.mono ?_
    rintro e w' ⟨rfl, d', n, os, hp, hs, rfl⟩
    have hd : d'.size = l.length := by have := hp.1; simpa using this
    refine ⟨rfl, d'.toList, perm_list (by simpa using hp), sorted_list hd hs, own_put hk h1 h hd, sortWorldK_grownBy W g n d' os⟩
end Go.Proofs.Yteanlcefdoigcaa
namespace Go.Proofs.Yteanlcefdoigcaa
open Go.Shelf
def sortPtL_ren : Go.Shelf.Ren := ⟨fun | 6 => 60 | 15 => 103 | 14 => 102 | 28 => 133 | 29 => 134 | 20 => 125 | 21 => 126 | 22 => 127 | 23 => 128 | 24 => 129 | 25 => 130 | 26 => 131 | 27 => 132 | 46 => 151 | 47 => 152 | 48 => 153 | 49 => 154 | 50 => 155 | 57 => 160 | n => n, fun | 22 => 22 | 24 => 36 | 25 => 98 | 3 => 3 | 39 => 32 | 0 => 0 | 53 => 147 | 55 => 43 | 4 => 4 | 46 => 163 | 45 => 162 | 50 => 167 | 5 => 5 | 9 => 9 | 66 => 181 | 70 => 185 | 76 => 191 | 77 => 192 | n => n, fun | n => n⟩
theorem sortPtL : Go.Proofs.SlLaysF0.n6 Try.prog sortPtL_ren := {
  mixed := by kernel_rfl
  f6 := ⟨Try.f60.name, by decide, Try.func60.trans (congrArg some (by kernel_rfl))⟩
  f14 := ⟨Try.f102.name, by decide, Try.func102.trans (congrArg some (by kernel_rfl))⟩
  f15 := Try.func103.trans (congrArg some (by kernel_rfl))
  f20 := ⟨Try.f125.name, by decide, Try.func125.trans (congrArg some (by kernel_rfl))⟩
  f21 := ⟨Try.f126.name, by decide, Try.func126.trans (congrArg some (by kernel_rfl))⟩
  f22 := ⟨Try.f127.name, by decide, Try.func127.trans (congrArg some (by kernel_rfl))⟩
  f23 := ⟨Try.f128.name, by decide, Try.func128.trans (congrArg some (by kernel_rfl))⟩
  f24 := ⟨Try.f129.name, by decide, Try.func129.trans (congrArg some (by kernel_rfl))⟩
  f25 := ⟨Try.f130.name, by decide, Try.func130.trans (congrArg some (by kernel_rfl))⟩
  f26 := ⟨Try.f131.name, by decide, Try.func131.trans (congrArg some (by kernel_rfl))⟩
  f27 := ⟨Try.f132.name, by decide, Try.func132.trans (congrArg some (by kernel_rfl))⟩
  f28 := Try.func133.trans (congrArg some (by kernel_rfl))
  f29 := Try.func134.trans (congrArg some (by kernel_rfl))
  f46 := ⟨Try.f151.name, by decide, Try.func151.trans (congrArg some (by kernel_rfl))⟩
  f47 := Try.func152.trans (congrArg some (by kernel_rfl))
  f48 := Try.func153.trans (congrArg some (by kernel_rfl))
  f49 := ⟨Try.f154.name, by decide, Try.func154.trans (congrArg some (by kernel_rfl))⟩
  f50 := ⟨Try.f155.name, by decide, Try.func155.trans (congrArg some (by kernel_rfl))⟩
  f57 := ⟨Try.f160.name, by decide, Try.func160.trans (congrArg some (by kernel_rfl))⟩
  t0 := Try.underlying0
  a0 := Try.isAgg0
  z0 := Try.sizeOf0
  v0 := Try.zeroValue0
  t3 := Try.underlying3
  a3 := Try.isAgg3
  z3 := Try.sizeOf3
  v3 := Try.zeroValue3
  t4 := Try.underlying4
  a4 := Try.isAgg4
  z4 := Try.sizeOf4
  v4 := Try.zeroValue4
  t5 := Try.underlying5
  a5 := Try.isAgg5
  z5 := Try.sizeOf5
  v5 := Try.zeroValue5
  t9 := Try.underlying9
  a9 := Try.isAgg9
  z9 := Try.sizeOf9
  v9 := Try.zeroValue9
  t22 := Try.underlying22
  a22 := Try.isAgg22
  z22 := Try.sizeOf22
  v22 := Try.zeroValue22
  t25 := Try.underlying98
  a25 := Try.isAgg98
  z25 := Try.sizeOf98
  v25 := Try.zeroValue98
  t39 := Try.underlying32
  a39 := Try.isAgg32
  z39 := Try.sizeOf32
  v39 := Try.zeroValue32
  t45 := Try.underlying162
  a45 := Try.isAgg162
  z45 := Try.sizeOf162
  v45 := Try.zeroValue162
  t46 := Try.underlying163
  a46 := Try.isAgg163
  z46 := Try.sizeOf163
  v46 := Try.zeroValue163
  t50 := Try.underlying167
  a50 := Try.isAgg167
  z50 := Try.sizeOf167
  v50 := Try.zeroValue167
  t53 := Try.underlying147
  a53 := Try.isAgg147
  z53 := Try.sizeOf147
  v53 := Try.zeroValue147
  t55 := Try.underlying43
  a55 := Try.isAgg43
  z55 := Try.sizeOf43
  v55 := Try.zeroValue43
  t66 := Try.underlying181
  a66 := Try.isAgg181
  z66 := Try.sizeOf181
  v66 := Try.zeroValue181
  t70 := Try.underlying185
  a70 := Try.isAgg185
  z70 := Try.sizeOf185
  v70 := Try.zeroValue185
  t76 := Try.underlying191
  a76 := Try.isAgg191
  z76 := Try.sizeOf191
  v76 := Try.zeroValue191
  t77 := Try.underlying192
  a77 := Try.isAgg192
  z77 := Try.sizeOf192
  v77 := Try.zeroValue192 }
def sortTlL_ren : Go.Shelf.Ren := ⟨fun | 6 => 96 | 15 => 103 | 14 => 124 | 28 => 133 | 29 => 134 | 20 => 143 | 21 => 144 | 22 => 145 | 23 => 146 | 24 => 147 | 25 => 148 | 26 => 149 | 27 => 150 | 46 => 157 | 47 => 152 | 48 => 153 | 49 => 158 | 50 => 159 | 57 => 161 | n => n, fun | 22 => 24 | 24 => 49 | 25 => 132 | 3 => 3 | 39 => 32 | 0 => 0 | 53 => 147 | 55 => 43 | 4 => 4 | 46 => 163 | 45 => 162 | 50 => 167 | 5 => 5 | 9 => 9 | 66 => 181 | 70 => 185 | 76 => 191 | 77 => 192 | n => n, fun | n => n⟩
theorem sortTlL : Go.Proofs.SlLaysF0.n6 Try.prog sortTlL_ren := {
  mixed := by kernel_rfl
  f6 := ⟨Try.f96.name, by decide, Try.func96.trans (congrArg some (by kernel_rfl))⟩
  f14 := ⟨Try.f124.name, by decide, Try.func124.trans (congrArg some (by kernel_rfl))⟩
  f15 := Try.func103.trans (congrArg some (by kernel_rfl))
  f20 := ⟨Try.f143.name, by decide, Try.func143.trans (congrArg some (by kernel_rfl))⟩
  f21 := ⟨Try.f144.name, by decide, Try.func144.trans (congrArg some (by kernel_rfl))⟩
  f22 := ⟨Try.f145.name, by decide, Try.func145.trans (congrArg some (by kernel_rfl))⟩
  f23 := ⟨Try.f146.name, by decide, Try.func146.trans (congrArg some (by kernel_rfl))⟩
  f24 := ⟨Try.f147.name, by decide, Try.func147.trans (congrArg some (by kernel_rfl))⟩
  f25 := ⟨Try.f148.name, by decide, Try.func148.trans (congrArg some (by kernel_rfl))⟩
  f26 := ⟨Try.f149.name, by decide, Try.func149.trans (congrArg some (by kernel_rfl))⟩
  f27 := ⟨Try.f150.name, by decide, Try.func150.trans (congrArg some (by kernel_rfl))⟩
  f28 := Try.func133.trans (congrArg some (by kernel_rfl))
  f29 := Try.func134.trans (congrArg some (by kernel_rfl))
  f46 := ⟨Try.f157.name, by decide, Try.func157.trans (congrArg some (by kernel_rfl))⟩
  f47 := Try.func152.trans (congrArg some (by kernel_rfl))
  f48 := Try.func153.trans (congrArg some (by kernel_rfl))
  f49 := ⟨Try.f158.name, by decide, Try.func158.trans (congrArg some (by kernel_rfl))⟩
  f50 := ⟨Try.f159.name, by decide, Try.func159.trans (congrArg some (by kernel_rfl))⟩
  f57 := ⟨Try.f161.name, by decide, Try.func161.trans (congrArg some (by kernel_rfl))⟩
  t0 := Try.underlying0
  a0 := Try.isAgg0
  z0 := Try.sizeOf0
  v0 := Try.zeroValue0
  t3 := Try.underlying3
  a3 := Try.isAgg3
  z3 := Try.sizeOf3
  v3 := Try.zeroValue3
  t4 := Try.underlying4
  a4 := Try.isAgg4
  z4 := Try.sizeOf4
  v4 := Try.zeroValue4
  t5 := Try.underlying5
  a5 := Try.isAgg5
  z5 := Try.sizeOf5
  v5 := Try.zeroValue5
  t9 := Try.underlying9
  a9 := Try.isAgg9
  z9 := Try.sizeOf9
  v9 := Try.zeroValue9
  t22 := Try.underlying24
  a22 := Try.isAgg24
  z22 := Try.sizeOf24
  v22 := Try.zeroValue24
  t25 := Try.underlying132
  a25 := Try.isAgg132
  z25 := Try.sizeOf132
  v25 := Try.zeroValue132
  t39 := Try.underlying32
  a39 := Try.isAgg32
  z39 := Try.sizeOf32
  v39 := Try.zeroValue32
  t45 := Try.underlying162
  a45 := Try.isAgg162
  z45 := Try.sizeOf162
  v45 := Try.zeroValue162
  t46 := Try.underlying163
  a46 := Try.isAgg163
  z46 := Try.sizeOf163
  v46 := Try.zeroValue163
  t50 := Try.underlying167
  a50 := Try.isAgg167
  z50 := Try.sizeOf167
  v50 := Try.zeroValue167
  t53 := Try.underlying147
  a53 := Try.isAgg147
  z53 := Try.sizeOf147
  v53 := Try.zeroValue147
  t55 := Try.underlying43
  a55 := Try.isAgg43
  z55 := Try.sizeOf43
  v55 := Try.zeroValue43
  t66 := Try.underlying181
  a66 := Try.isAgg181
  z66 := Try.sizeOf181
  v66 := Try.zeroValue181
  t70 := Try.underlying185
  a70 := Try.isAgg185
  z70 := Try.sizeOf185
  v70 := Try.zeroValue185
  t76 := Try.underlying191
  a76 := Try.isAgg191
  z76 := Try.sizeOf191
  v76 := Try.zeroValue191
  t77 := Try.underlying192
  a77 := Try.isAgg192
  z77 := Try.sizeOf192
  v77 := Try.zeroValue192 }
end Go.Proofs.Yteanlcefdoigcaa
namespace Go.Proofs.Yteanlcefdoigcaa
open Go.RowKit Go.Sort Go.Lib Go.Shelf Go.Proofs

def Pt.row (p : Pt) : List Value := [.int .i64 p.id, .int .i64 p.x, .int .i64 p.y, .int .i64 p.zl, .int .i64 p.zh, .int .i64 p.wd, .int .i64 p.nm, .int .i64 p.of, .int .i64 p.cl]
theorem Pt.row_one (p : Pt) : ∀ v ∈ p.row, v.oneCell' = true := fun v hv => by
  simp [Pt.row] at hv
  rcases hv with rfl | rfl | rfl | rfl | rfl | rfl | rfl | rfl | rfl <;> rfl
theorem Pt.row_at (p : Pt) (j : Nat) (hj : j < 9) : p.row[j]? = some (.int .i64 (p.f j)) := by
  match j, hj with
  | 0, _ | 1, _ | 2, _ | 3, _ | 4, _ | 5, _ | 6, _ | 7, _ | 8, _ => rfl
def Ky.row (k : Ky) : List Value := [.int .i64 k.L, .int .i64 k.x, .int .i64 k.y, .int .i64 k.z]
/-- a world that has grown by draws and new blocks alone -/
def Grew (W X : World) : Prop := ∃ q os, X = grow (W.drewN q) os
theorem Grew.refl (W : World) : Grew W W := ⟨0, #[], by rw [grow_empty]; rfl⟩
theorem Grew.alloc {W X : World} (h : Grew W X) (o : Obj) : Grew W (X.alloc o) := by
  obtain ⟨q, os, rfl⟩ := h
  exact ⟨q, _, by rw [alloc_eq_grow, grow_grow]⟩
theorem Grew.drewN {W X : World} (h : Grew W X) (n : Nat) : Grew W (X.drewN n) := by
  obtain ⟨q, os, rfl⟩ := h
  exact ⟨q + n, os, by show grow ((W.drewN q).drewN n) os = _; rw [World.drewN_drewN]⟩
theorem Grew.trans {W X Y : World} (h : Grew W X) (h2 : Grew X Y) : Grew W Y := by
  obtain ⟨q, os, rfl⟩ := h
  obtain ⟨n, os', rfl⟩ := h2
  exact ⟨q + n, os ++ os', by show grow (grow ((W.drewN q).drewN n) os) os' = _; rw [grow_grow, World.drewN_drewN]⟩
def cmpR (p q : Pt) : Int := if rankV p.id < rankV q.id then -1 else if rankV q.id < rankV p.id then 1 else 0
set_option maxRecDepth 100000 in
theorem byRank_any (p q : Pt) (W : World) : Calls Try.prog 95 #[.agg p.row.toArray, .agg q.row.toArray] W fun e w' => e = .returned (.int .i64 (cmpR p q)) ∧ Grew W w' := by
  have hr := fun id W => show Calls Try.prog 23 #[.int .i64 id] W fun e w' => e = .returned (.int .u64 (rankV id)) ∧ w' = W from (xRank_any id W).mono (by rintro r w' ⟨h, rfl⟩; exact ⟨h, rfl⟩)
  have HV := hid (show cmpR p q = if rankV p.id < rankV q.id then -1 else if rankV q.id < rankV p.id then 1 else 0 from rfl)
  unfold Pt.row
  generalize p.id = a at *
  generalize q.id = b at *
  go_enter Try.func95, Try.ntmps95
  go_wp2_with fail
  generalize hWq : (W.alloc _).alloc _ = Wq
  have HG := hid (show Grew W Wq by rw [← hWq]; exact ((Grew.refl W).alloc _).alloc _)
  have q0 : Wq.cell? ⟨W.heap.size, 0, none⟩ = some (.int .i64 a) := by rw [← hWq, cell_row (heap_alloc_past _ _ _ _ (heap_alloc_at _ _ _ rfl))]; rfl
  have q1 : Wq.cell? ⟨W.heap.size + 1, 0, none⟩ = some (.int .i64 b) := by rw [← hWq, cell_row (heap_alloc_at _ _ _ (by simp))]; rfl
  clear hWq
  by_cases h1 : rankV a < rankV b
  · have HX := hid (show cmpR p q = -1 by rw [HV.out, if_pos h1])
    have d1 : decide (rankV a < rankV b) = true := decide_eq_true h1
    go_quiet (first | (go_at_call 23; exact Calls.quiet_of_same (hr _ _)))
    go_wp2_with fail
    go_ret
    exact ⟨by rw [HX.out]; rfl, HG.out.drewN _⟩
  · have d1 : decide (rankV a < rankV b) = false := decide_eq_false h1
    by_cases h2 : rankV b < rankV a
    · have HX := hid (show cmpR p q = 1 by rw [HV.out, if_neg h1, if_pos h2])
      have d2 : decide (rankV b < rankV a) = true := decide_eq_true h2
      go_quiet (first | (go_at_call 23; exact Calls.quiet_of_same (hr _ _)))
      go_wp2_with fail
      go_ret
      exact ⟨by rw [HX.out]; rfl, HG.out.drewN _⟩
    · have HX := hid (show cmpR p q = 0 by rw [HV.out, if_neg h1, if_neg h2])
      have d2 : decide (rankV b < rankV a) = false := decide_eq_false h2
      go_quiet (first | (go_at_call 23; exact Calls.quiet_of_same (hr _ _)))
      go_wp2_with fail
      go_ret
      exact ⟨by rw [HX.out]; rfl, HG.out.drewN _⟩
def cmpI (p q : Pt) : Int := wrap64 (p.id - q.id)
set_option maxRecDepth 100000 in
theorem byId_any (p q : Pt) (W : World) : Calls Try.prog 61 #[.agg p.row.toArray, .agg q.row.toArray] W fun e w' => e = .returned (.int .i64 (cmpI p q)) ∧ Grew W w' := by
  have HV := hid (show cmpI p q = wrap64 (p.id - q.id) from rfl)
  unfold Pt.row
  generalize p.id = a at *
  generalize q.id = b at *
  go_enter Try.func61, Try.ntmps61
  go_wp2_with fail
  go_ret
  exact ⟨by rw [HV.out]; rfl, (by repeat' (first | exact Grew.refl _ | refine Grew.alloc ?_ _ | refine Grew.drewN ?_ _))⟩
/-- the comparison of keys -/
def cmpK (a b : Ky) : Int := if a.L = b.L then (if a.x = b.x then (if a.y = b.y then (if a.z = b.z then 0 else a.z - b.z) else a.y - b.y) else a.x - b.x) else a.L - b.L
def Ky.small (k : Ky) : Prop := (0 ≤ k.L ∧ k.L ≤ 12) ∧ (0 ≤ k.x ∧ k.x < 4096) ∧ (0 ≤ k.y ∧ k.y < 4096) ∧ (0 ≤ k.z ∧ k.z < 4096)
theorem idx160_0 (a b c d e f g h : Int) (w : World) : (Instr.index 160 (.agg #[.int .i64 a, .int .i64 b, .int .i64 c, .int .i64 d, .int .i64 e, .int .i64 f, .int .i64 g, .int .i64 h]) (.int .i64 0)).run Try.prog w = .ok (.agg #[.int .i64 a, .int .i64 b]) w := by kernel_rfl
theorem idx160_1 (a b c d e f g h : Int) (w : World) : (Instr.index 160 (.agg #[.int .i64 a, .int .i64 b, .int .i64 c, .int .i64 d, .int .i64 e, .int .i64 f, .int .i64 g, .int .i64 h]) (.int .i64 1)).run Try.prog w = .ok (.agg #[.int .i64 c, .int .i64 d]) w := by kernel_rfl
theorem idx160_2 (a b c d e f g h : Int) (w : World) : (Instr.index 160 (.agg #[.int .i64 a, .int .i64 b, .int .i64 c, .int .i64 d, .int .i64 e, .int .i64 f, .int .i64 g, .int .i64 h]) (.int .i64 2)).run Try.prog w = .ok (.agg #[.int .i64 e, .int .i64 f]) w := by kernel_rfl
theorem idx160_3 (a b c d e f g h : Int) (w : World) : (Instr.index 160 (.agg #[.int .i64 a, .int .i64 b, .int .i64 c, .int .i64 d, .int .i64 e, .int .i64 f, .int .i64 g, .int .i64 h]) (.int .i64 3)).run Try.prog w = .ok (.agg #[.int .i64 g, .int .i64 h]) w := by kernel_rfl
set_option maxRecDepth 100000 in
theorem order_any (a b : Ky) (ha : a.small) (hb : b.small) (W : World) : Calls Try.prog 98 #[.agg a.row.toArray, .agg b.row.toArray] W fun e w' => e = .returned (.int .i64 (cmpK a b)) ∧ Grew W w' := by
  obtain ⟨aL, ax, ay, az⟩ := a
  obtain ⟨bL, bx, b_y, bz⟩ := b
  have HV := hid (show cmpK ⟨aL, ax, ay, az⟩ ⟨bL, bx, b_y, bz⟩ = if aL = bL then (if ax = bx then (if ay = b_y then (if az = bz then 0 else az - bz) else ay - b_y) else ax - bx) else aL - bL from rfl)
  simp only [Ky.small] at ha hb
  simp only [Ky.row]
  have hi0 := idx160_0
  have hi1 := idx160_1
  have hi2 := idx160_2
  have hi3 := idx160_3
  go_enter Try.func98, Try.ntmps98
  go_wp2_with fail
  refine wp_loop_rounds 5 ?_
  rw [rounds_succ]
  by_cases h1 : aL = bL
  · subst h1
    go_wp2_with fail
    rw [rounds_succ]
    by_cases h2 : ax = bx
    · subst h2
      go_wp2_with fail
      rw [rounds_succ]
      by_cases h3 : ay = b_y
      · subst h3
        go_wp2_with fail
        rw [rounds_succ]
        by_cases h4 : az = bz
        · subst h4
          have HX := hid (show cmpK ⟨aL, ax, ay, az⟩ ⟨aL, ax, ay, az⟩ = 0 by rw [HV.out]; simp)
          go_wp2_with fail
          rw [rounds_succ]
          go_wp2_with fail
          go_ret
          exact ⟨by rw [HX.out]; rfl, (by repeat' (first | exact Grew.refl _ | refine Grew.alloc ?_ _ | refine Grew.drewN ?_ _))⟩
        · have HX := hid (show cmpK ⟨aL, ax, ay, az⟩ ⟨aL, ax, ay, bz⟩ = az - bz by rw [HV.out]; simp [h4])
          have d1 : (az == bz) = false := by simp [h4]
          go_wp2_with fail
          go_ret
          exact ⟨by rw [HX.out]; rfl, (by repeat' (first | exact Grew.refl _ | refine Grew.alloc ?_ _ | refine Grew.drewN ?_ _))⟩
      · have HX := hid (show cmpK ⟨aL, ax, ay, az⟩ ⟨aL, ax, b_y, bz⟩ = ay - b_y by rw [HV.out]; simp [h3])
        have d1 : (ay == b_y) = false := by simp [h3]
        go_wp2_with fail
        go_ret
        exact ⟨by rw [HX.out]; rfl, (by repeat' (first | exact Grew.refl _ | refine Grew.alloc ?_ _ | refine Grew.drewN ?_ _))⟩
    · have HX := hid (show cmpK ⟨aL, ax, ay, az⟩ ⟨aL, bx, b_y, bz⟩ = ax - bx by rw [HV.out]; simp [h2])
      have d1 : (ax == bx) = false := by simp [h2]
      go_wp2_with fail
      go_ret
      exact ⟨by rw [HX.out]; rfl, (by repeat' (first | exact Grew.refl _ | refine Grew.alloc ?_ _ | refine Grew.drewN ?_ _))⟩
  · have HX := hid (show cmpK ⟨aL, ax, ay, az⟩ ⟨bL, bx, b_y, bz⟩ = aL - bL by rw [HV.out, if_neg h1])
    have d1 : (aL == bL) = false := by simp [h1]
    go_wp2_with fail
    go_ret
    exact ⟨by rw [HX.out]; rfl, (by repeat' (first | exact Grew.refl _ | refine Grew.alloc ?_ _ | refine Grew.drewN ?_ _))⟩
/-- a tile in memory: its key and the slice of its points -/
structure Te where
  key : Ky
  v : Value
  pts : List Pt
instance : Inhabited Te := ⟨⟨default, .slice none 0 0, []⟩⟩
def Te.row (e : Te) : List Value := e.key.row ++ [e.v]
def Te.tl (e : Te) : Tl := ⟨e.key, e.pts⟩
def Te.ok (e : Te) : Prop := e.key.small ∧ e.v.oneCell' = true
set_option maxRecDepth 100000 in
theorem byKey_any (a b : Te) (ha : a.ok) (hb : b.ok) (W : World) : Calls Try.prog 97 #[.agg a.row.toArray, .agg b.row.toArray] W fun e w' => e = .returned (.int .i64 (cmpK a.key b.key)) ∧ Grew W w' := by
  obtain ⟨⟨aL, ax, ay, az⟩, av, ap⟩ := a
  obtain ⟨⟨bL, bx, b_y, bz⟩, bv, bp⟩ := b
  have hO := fun W => order_any ⟨aL, ax, ay, az⟩ ⟨bL, bx, b_y, bz⟩ ha.1 hb.1 W
  have h1 := ha.2
  have h2 := hb.2
  simp only [Ky.row, Te.row, List.cons_append, List.nil_append] at hO h1 h2 ⊢
  generalize cmpK ⟨aL, ax, ay, az⟩ ⟨bL, bx, b_y, bz⟩ = r at *
  clear ha hb
  go_enter Try.func97, Try.ntmps97
  go_wp2_with fail
  refine (hO _).mono ?_
  rintro e w1 ⟨rfl, hg⟩
  have HG := hid (((Grew.refl W).alloc _).alloc _ |>.trans hg)
  clear hg hO
  go_wp2_with fail
  go_ret
  exact ⟨rfl, HG.out⟩
theorem cmpR_lt (p q : Pt) : ltOf cmpR p q = decide (rankV p.id < rankV q.id) := by
  unfold ltOf cmpR
  by_cases h1 : rankV p.id < rankV q.id
  · simp [h1]
  · by_cases h2 : rankV q.id < rankV p.id <;> simp [h1, h2]
theorem cmpR_swo : SWO (ltOf cmpR) where
  irrefl x := by rw [cmpR_lt]; simp
  trans x y z h1 h2 := by rw [cmpR_lt] at *; simp at *; omega
  ntrans x y z h1 h2 := by rw [cmpR_lt] at *; simp at *; omega
theorem cmpK_lt (a b : Ky) : cmpK a b < 0 ↔ a.lt b := by
  unfold cmpK Ky.lt
  by_cases h1 : a.L = b.L
  · rw [if_pos h1]
    by_cases h2 : a.x = b.x
    · rw [if_pos h2]
      by_cases h3 : a.y = b.y
      · rw [if_pos h3]
        by_cases h4 : a.z = b.z
        · rw [if_pos h4]; omega
        · rw [if_neg h4]; omega
      · rw [if_neg h3]; omega
    · rw [if_neg h2]; omega
  · rw [if_neg h1]; omega
theorem Ky.not_lt_trans {a b c : Ky} (h : ¬ a.lt b) (h2 : ¬ b.lt c) : ¬ a.lt c := by unfold Ky.lt at *; omega
/-- points with an Id that is one; tiles with a key that is one -/
def PtG : Type := { p : Pt // 0 ≤ p.id ∧ p.id ≤ 1152921504606846976 }
def TeG : Type := { e : Te // e.ok }
instance : Inhabited PtG := ⟨⟨default, by decide⟩⟩
instance : Inhabited TeG := ⟨⟨default, ⟨by unfold Ky.small; decide, rfl⟩⟩⟩
theorem cmpI_lt (p q : PtG) : ltOf (fun x y : PtG => cmpI x.1 y.1) p q = decide (p.1.id < q.1.id) := by
  obtain ⟨p, hp⟩ := p
  obtain ⟨q, hq⟩ := q
  have e : cmpI p q = p.id - q.id := by unfold cmpI wrap64; omega
  show decide (cmpI p q < 0) = decide (p.id < q.id)
  rw [e]
  simp
  omega
theorem cmpI_swo : SWO (ltOf (fun x y : PtG => cmpI x.1 y.1)) where
  irrefl x := by rw [cmpI_lt]; simp
  trans x y z h1 h2 := by rw [cmpI_lt] at *; simp at *; omega
  ntrans x y z h1 h2 := by rw [cmpI_lt] at *; simp at *; omega
theorem cmpT_lt (a b : TeG) : ltOf (fun x y : TeG => cmpK x.1.key y.1.key) a b = true ↔ a.1.key.lt b.1.key := by
  unfold ltOf
  simp [cmpK_lt]
theorem cmpT_swo : SWO (ltOf (fun x y : TeG => cmpK x.1.key y.1.key)) where
  irrefl x := by
    rw [Bool.eq_false_iff, Ne, cmpT_lt]
    exact Ky.lt_irrefl _
  trans x y z h1 h2 := by rw [cmpT_lt] at *; exact Ky.lt_trans h1 h2
  ntrans x y z h1 h2 := by
    rw [Bool.eq_false_iff, Ne, cmpT_lt] at *
    exact Ky.not_lt_trans h1 h2
theorem pmap_val {α : Type} {p : α → Prop} : ∀ (l : List α) (h : ∀ a ∈ l, p a), (l.pmap (fun a ha => (⟨a, ha⟩ : { a : α // p a })) h).map (·.1) = l
  | [], _ => rfl
  | a :: l, h => by
    rw [List.pmap_cons, List.map_cons, pmap_val l]
theorem sortRank_any (v : Value) (l : List Pt) (base : Nat) (W : World) (h : OwnR W base 36 9 v (l.map Pt.row)) (hn : l.length < 4611686018427387904) :
    Calls Try.prog 60 #[v, .func (.func 95) #[] #[]] W fun e w' => e = .returned (.tuple #[]) ∧ ∃ l' : List Pt, l'.Perm l ∧ l'.Pairwise (fun p q => ¬ rankV q.id < rankV p.id) ∧ OwnR w' base 36 9 v (l'.map Pt.row) ∧ W.grownBy w' v.ownBlock := by
  have hc := sort_own sortPtL 9 Try.isAgg36 Try.sizeOf36 Pt.row (fun _ => rfl) Pt.row_one cmpR cmpR_swo 95 #[] (enters_of Try.func95 (by kernel_rfl) rfl) (fun _ _ _ _ _ _ _ x y => byRank_any x y _) W base 36 v l h hn
  refine Calls.mono (show Calls Try.prog 60 _ _ _ from hc) ?_
  rintro e w' ⟨rfl, l', h1, h2, h3, h4⟩
  refine ⟨rfl, l', h1, h2.imp ?_, h3, h4⟩
  intro a b hab
  rw [cmpR_lt] at hab
  simpa using hab
theorem sortId_any (v : Value) (l : List Pt) (base : Nat) (W : World) (h : OwnR W base 36 9 v (l.map Pt.row)) (hn : l.length < 4611686018427387904) (hid : ∀ p ∈ l, 0 ≤ p.id ∧ p.id ≤ 1152921504606846976) :
    Calls Try.prog 60 #[v, .func (.func 61) #[] #[]] W fun e w' => e = .returned (.tuple #[]) ∧ ∃ l' : List Pt, l'.Perm l ∧ l'.Pairwise (fun p q => ¬ q.id < p.id) ∧ OwnR w' base 36 9 v (l'.map Pt.row) ∧ W.grownBy w' v.ownBlock := by
  obtain ⟨lg, hlg⟩ : ∃ lg : List PtG, lg.map (·.1) = l := ⟨_, pmap_val l hid⟩
  subst hlg
  rw [List.length_map] at hn
  have h' : OwnR W base 36 9 v (lg.map (fun p : PtG => p.1.row)) := by rw [List.map_map] at h; exact h
  have hc := sort_own sortPtL 9 Try.isAgg36 Try.sizeOf36 (fun p : PtG => p.1.row) (fun _ => rfl) (fun p => Pt.row_one p.1) (fun x y : PtG => cmpI x.1 y.1) cmpI_swo 61 #[] (enters_of Try.func61 (by kernel_rfl) rfl) (fun _ _ _ _ _ _ _ x y => byId_any x.1 y.1 _) W base 36 v lg h' hn
  refine Calls.mono (show Calls Try.prog 60 _ _ _ from hc) ?_
  rintro e w' ⟨rfl, l', h1, h2, h3, h4⟩
  refine ⟨rfl, l'.map (·.1), h1.map _, ?_, by rw [List.map_map]; exact h3, h4⟩
  rw [List.pairwise_map]
  refine h2.imp ?_
  intro a b hab
  rw [cmpI_lt] at hab
  simpa using hab
theorem Te.row_one (e : Te) (h : e.ok) : ∀ v ∈ e.row, v.oneCell' = true := fun v hv => by
  simp [Te.row, Ky.row] at hv
  rcases hv with rfl | rfl | rfl | rfl | rfl
  · rfl
  · rfl
  · rfl
  · rfl
  · exact h.2
theorem sortKey_any (v : Value) (l : List Te) (base : Nat) (W : World) (h : OwnR W base 49 5 v (l.map Te.row)) (hn : l.length < 4611686018427387904) (hok : ∀ e ∈ l, e.ok) :
    Calls Try.prog 96 #[v, .func (.func 97) #[] #[]] W fun e w' => e = .returned (.tuple #[]) ∧ ∃ l' : List Te, l'.Perm l ∧ l'.Pairwise (fun a b => ¬ b.key.lt a.key) ∧ OwnR w' base 49 5 v (l'.map Te.row) ∧ W.grownBy w' v.ownBlock := by
  obtain ⟨lg, hlg⟩ : ∃ lg : List TeG, lg.map (·.1) = l := ⟨_, pmap_val l hok⟩
  subst hlg
  rw [List.length_map] at hn
  have h' : OwnR W base 49 5 v (lg.map (fun p : TeG => p.1.row)) := by rw [List.map_map] at h; exact h
  have hc := sort_own sortTlL 5 Try.isAgg49 Try.sizeOf49 (fun p : TeG => p.1.row) (fun _ => rfl) (fun p => Te.row_one p.1 p.2) (fun x y : TeG => cmpK x.1.key y.1.key) cmpT_swo 97 #[] (enters_of Try.func97 (by kernel_rfl) rfl) (fun _ _ _ _ _ _ _ x y => byKey_any x.1 y.1 x.2 y.2 _) W base 49 v lg h' hn
  refine Calls.mono (show Calls Try.prog 96 _ _ _ from hc) ?_
  rintro e w' ⟨rfl, l', h1, h2, h3, h4⟩
  refine ⟨rfl, l'.map (·.1), h1.map _, ?_, by rw [List.map_map]; exact h3, h4⟩
  rw [List.pairwise_map]
  refine h2.imp ?_
  intro a b hab
  rw [Bool.eq_false_iff, Ne, cmpT_lt] at hab
  exact hab
end Go.Proofs.Yteanlcefdoigcaa
