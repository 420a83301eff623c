/- Texts of the seat Ytpablkmdpoombaa, turned to this one by wip/port.py: Pts Srt. -/
import Derived.Test.YtpfighhhemnhaaaGreatA
import Derived.Test.YtpfighhhemnhaaaGreatB
import Derived.Shelf.SlSortCmp.NoneTotal
import Derived.BigQuiet
/- Pts -/
namespace Go.Proofs.YtpfighhhemnhaaaGreat
open Go.RowKit Go.Sort Go.Lib Go.Shelf Go.Proofs

theorem wide_map {α : Type} {enc : α → List Value} {k : Nat} (hk : ∀ x, (enc x).length = k) (h1 : ∀ x, ∀ v ∈ enc x, v.oneCell' = true) (l : List α) : Wide k (l.map enc) := fun r hr => by
  obtain ⟨x, _, rfl⟩ := List.mem_map.1 hr
  exact ⟨hk x, h1 x⟩
theorem wide_len {α : Type} {enc : α → List Value} {k : Nat} (hk : ∀ x, (enc x).length = k) (l : List α) : ((l.map enc).flatten).length = l.length * k := by
  induction l with
  | nil => simp
  | cons a l ih => rw [List.map_cons, List.flatten_cons, List.length_append, ih, hk, List.length_cons, Nat.add_mul, Nat.one_mul, Nat.add_comm]
section
variable {α : Type} [Inhabited α] {enc : α → List Value} {k : Nat}
theorem flat_at (hk : ∀ x, (enc x).length = k) : ∀ (l : List α) (i j : Nat), i < l.length → j < k → (l.map enc).flatten[i * k + j]? = (enc l[i]!)[j]?
  | [], i, _, h, _ => by simp at h
  | a :: l, 0, j, _, hj => by
    rw [List.map_cons, List.flatten_cons, Nat.zero_mul, Nat.zero_add, List.getElem?_append_left (by rw [hk]; exact hj)]
    rfl
  | a :: l, i + 1, j, h, hj => by
    have e : (i + 1) * k + j = k + (i * k + j) := by rw [Nat.add_mul]; omega
    rw [List.map_cons, List.flatten_cons, e, List.getElem?_append_right (by rw [hk]; omega), hk, Nat.add_sub_cancel_left, flat_at hk l i j (by simpa using h) hj]
    rfl
theorem flatK_list (hk : ∀ x, (enc x).length = k) (d : Array α) : (flatK enc k d).toList = (d.toList.map enc).flatten := by
  refine List.ext_getElem? fun t => ?_
  by_cases ht : t < d.size * k
  · have k0 : 0 < k := by
      rcases Nat.eq_zero_or_pos k with h | h
      · subst h; simp at ht
      · exact h
    have hd : t / k < d.size := Nat.div_lt_of_lt_mul (by rw [Nat.mul_comm]; exact ht)
    have hm : t % k < k := Nat.mod_lt _ k0
    have e : t / k * k + t % k = t := by rw [Nat.mul_comm]; exact Nat.div_add_mod t k
    have h1 := flat_at hk d.toList (t / k) (t % k) (by simpa using hd) hm
    rw [e] at h1
    rw [h1, Array.getElem?_toList, Array.getElem?_eq_getElem (by simpa using ht)]
    have h2 := get_flatK enc k d t ht
    rw [getElem!_pos _ t (by simpa using ht)] at h2
    rw [h2]
    have h3 : d.toList[t / k]! = d[t / k]! := by
      rw [getElem!_pos d _ hd, getElem!_pos d.toList _ (by simpa using hd)]
      simp
    rw [h3, List.getElem?_eq_getElem (by rw [hk]; exact hm), getElem!_pos (enc d[t / k]!) _ (by rw [hk]; exact hm)]
  · rw [List.getElem?_eq_none (by simp; omega), List.getElem?_eq_none (by rw [wide_len hk]; simp; omega)]
theorem own_holds (hk : ∀ x, (enc x).length = k) {W : World} {base t g cap : Nat} {l : List α} (h : OwnR W base t k (.slice (some ⟨g, 0, none⟩) l.length cap) (l.map enc)) : HoldsK enc k W g 0 l.toArray := by
  intro j hj
  rw [size_flatK] at hj
  simp only [List.size_toArray] at hj
  have k0 : 0 < k := by
    rcases Nat.eq_zero_or_pos k with h | h
    · subst h; simp at hj
    · exact h
  have hl : 0 < l.length := by
    rcases Nat.eq_zero_or_pos l.length with h | h
    · rw [h] at hj; simp at hj
    · exact h
  obtain ⟨g', cap', cur, he, _, hc, hr, _⟩ := h.rows (by simpa using hl)
  injection he with he _ _
  injection he with he
  injection he with he _
  subst he
  have hd : j / k < l.length := Nat.div_lt_of_lt_mul (by rw [Nat.mul_comm]; exact hj)
  have hm : j % k < k := Nat.mod_lt _ k0
  have e : 0 + j / k * k + j % k = 0 + j := by rw [Nat.add_assoc]; congr 1; rw [Nat.mul_comm]; exact Nat.div_add_mod j k
  have h1 := hr (j / k) (enc l[j / k]) (by rw [List.getElem?_map, List.getElem?_eq_getElem hd]; rfl) (j % k) hm
  rw [e] at h1
  refine ⟨?_, ?_⟩
  · rw [h1]
    have h2 := get_flatK enc k l.toArray j (by simpa using hj)
    have h3 : l.toArray[j / k]! = l[j / k] := by rw [getElem!_pos _ _ (by simpa using hd)]; simp
    rw [h3] at h2
    show _ = some (id ((flatK enc k l.toArray)[j]!))
    rw [h2, List.getElem?_eq_getElem (by rw [hk]; exact hm), getElem!_pos _ _ (by rw [hk]; exact hm)]
    rfl
  · simp [World.frozen?, hc]
theorem put_take (F c : Array Value) (h : F.size ≤ c.size) : (putCells id 0 F c).toList.take F.size = F.toList := by
  refine List.ext_getElem? fun t => ?_
  by_cases ht : t < F.size
  · rw [List.getElem?_take_of_lt ht, Array.getElem?_toList, Array.getElem?_toList]
    unfold putCells
    rw [Array.getElem?_mapIdx, Array.getElem?_eq_getElem (by omega : t < c.size), Array.getElem?_eq_getElem ht]
    simp [ht]
  · rw [List.getElem?_eq_none (by simp; omega), List.getElem?_eq_none (by simp; omega)]
theorem sortWorldK_grownBy (W : World) (g n : Nat) (d : Array α) (os : Array Obj) : W.grownBy (sortWorldK enc k W g 0 n d os) (some g) := by
  refine ⟨rfl, rfl, rfl, ?_, fun j hj hne => ?_⟩
  · unfold sortWorldK
    rw [size_grow, size_putRowK]
    exact Nat.le_add_right _ _
  · unfold sortWorldK grow
    show ((putRowK enc k (Sort.ahead W n) g 0 d).heap ++ os)[j]? = _
    have hs : j < (putRowK enc k (Sort.ahead W n) g 0 d).heap.size := by rw [size_putRowK]; exact hj
    rw [Array.getElem?_append_left hs]
    show ((Sort.ahead W n).heap.modify g _)[j]? = _
    rw [Array.getElem?_modify, if_neg (fun e => hne (by rw [e]))]
    rfl
theorem sortWorldK_block {W : World} {g n t : Nat} {cur : Array Value} {d : Array α} {os : Array Obj} (h : W.heap[g]? = some (.cells cur t)) :
    (sortWorldK enc k W g 0 n d os).heap[g]? = some (.cells (putCells id 0 (flatK enc k d) cur) t) := by
  have hg : g < W.heap.size := (Array.getElem?_eq_some_iff.1 h).1
  unfold sortWorldK grow
  show ((putRowK enc k (Sort.ahead W n) g 0 d).heap ++ os)[g]? = _
  rw [Array.getElem?_append_left (by rw [size_putRowK]; exact hg)]
  show ((Sort.ahead W n).heap.modify g _)[g]? = _
  rw [Array.getElem?_modify, if_pos rfl, show (Sort.ahead W n).heap[g]? = some (.cells cur t) from h]
  rfl
theorem own_put (hk : ∀ x, (enc x).length = k) (h1 : ∀ x, ∀ v ∈ enc x, v.oneCell' = true) {W : World} {base t g cap n : Nat} {l : List α} {d : Array α} {os : Array Obj}
    (h : OwnR W base t k (.slice (some ⟨g, 0, none⟩) l.length cap) (l.map enc)) (hd : d.size = l.length) : OwnR (sortWorldK enc k W g 0 n d os) base t k (.slice (some ⟨g, 0, none⟩) l.length cap) (d.toList.map enc) := by
  refine ⟨wide_map hk h1 _, by rw [wide_len hk]; simp, ?_⟩
  rcases h.2.2 with ⟨h2, _⟩ | ⟨g', cap', cur, he, hB, hc, hle, hm, hcs, htk⟩
  · cases h2
  · simp only [List.length_map] at he hle htk
    injection he with he _ hcap
    injection he with he
    injection he with he _
    subst he hcap
    refine Or.inr ⟨g, cap, _, ?_, hB, sortWorldK_block hc, ?_, hm, ?_, ?_⟩
    · simp [hd]
    · simp; omega
    · unfold putCells
      simpa using hcs
    · have hf : (flatK enc k d).size = (d.toList.map enc).length * k := by simp
      rw [← hf, put_take _ _ (by rw [size_flatK, hcs, hd]; exact Nat.mul_le_mul_right k hle), flatK_list hk]
theorem perm_list {l : List α} {d : Array α} (h : PermIn 0 l.toArray.size l.toArray d) : d.toList.Perm l := by
  obtain ⟨h1, _, h3⟩ := h
  have e1 : d.extract 0 l.toArray.size = d := by rw [← h1]; exact Array.extract_size
  have e2 : l.toArray.extract 0 l.toArray.size = l.toArray := Array.extract_size
  rw [e1, e2] at h3
  simpa using h3
theorem sorted_list {lt : α → α → Bool} {d : Array α} {n : Nat} (hn : d.size = n) (h : SortedIn lt 0 n d) : d.toList.Pairwise (fun x y => lt y x = false) := by
  subst hn
  rw [List.pairwise_iff_getElem]
  intro i j hi hj hij
  have := h i j (Nat.zero_le _) hij (by simpa using hj)
  rw [getElem!_pos d j (by simpa using hj), getElem!_pos d i (by simpa using hi)] at this
  simpa using this
end
/-- SortFunc over rows of the call's own -/
theorem sort_own {P : Program} {ρ : Ren} {α : Type} [Inhabited α] (L : SlLaysF0.n6 P ρ) (k : Nat) (aE : ∀ w, (isAgg (ρ.t 24)).run P w = .ok true w) (zE : ∀ w, (Go.sizeOf (ρ.t 24)).run P w = .ok k w) (enc : α → List Value) (hk : ∀ x, (enc x).length = k)
    (h1 : ∀ x, ∀ v ∈ enc x, v.oneCell' = true) (cf : α → α → Int) (hO : SWO (ltOf cf)) (f : Nat) (cb : Array Value) (eg : ∀ args w, (callFunc f args).run P w = .ok (.enter f args) w)
    (hcmp : ∀ g size W, CmpLays P f cb enc k cf g 0 size W) (W : World) (base t : Nat) (v : Value) (l : List α) (h : OwnR W base t k v (l.map enc)) (hsz : l.length < 4611686018427387904) :
    Calls P (ρ.f 6) #[v, .func (.func f) #[] cb] W fun e w' => e = .returned (.tuple #[]) ∧ ∃ l' : List α, l'.Perm l ∧ l'.Pairwise (fun x y => ltOf cf y x = false) ∧ OwnR w' base t k v (l'.map enc) ∧ W.grownBy w' v.ownBlock := by
  by_cases hl : l.length = 0
  · obtain rfl := List.eq_nil_of_length_eq_zero hl
    obtain ⟨a, cap, rfl⟩ := h.slice
    refine (AnyF.slices_SortFunc_none L a cap _ W).mono ?_
    rintro e w' ⟨rfl, rfl⟩
    exact ⟨rfl, [], List.Perm.refl _, List.Pairwise.nil, h, ⟨rfl, rfl, rfl, Nat.le_refl _, fun _ _ _ => rfl⟩⟩
  · obtain ⟨g, cap, cur, rfl, _, hc, _⟩ := h.rows (by simp; omega)
    rw [List.length_map] at h ⊢
    have hcon := AnyQ.slices_SortFunc L k aE zE enc hk h1 cf hO f cb g 0 cap l.toArray W eg (hcmp g _ W) (own_holds hk h) (Array.getElem?_eq_some_iff.1 hc).1 (by simpa using hsz)
    rw [List.size_toArray] at hcon
    refine hcon.mono ?_
    rintro e w' ⟨rfl, d', n, os, hp, hs, rfl⟩
    have hd : d'.size = l.length := by have := hp.1; simpa using this
    refine ⟨rfl, d'.toList, perm_list (by simpa using hp), sorted_list hd hs, own_put hk h1 h hd, sortWorldK_grownBy W g n d' os⟩
end Go.Proofs.YtpfighhhemnhaaaGreat
namespace Go.Proofs.YtpfighhhemnhaaaGreat
open Go.Shelf
def sortPtL_ren : Go.Shelf.Ren := ⟨fun | 6 => 70 | 15 => 135 | 14 => 134 | 28 => 222 | 29 => 223 | 20 => 214 | 21 => 215 | 22 => 216 | 23 => 217 | 24 => 218 | 25 => 219 | 26 => 220 | 27 => 221 | 46 => 316 | 47 => 317 | 48 => 318 | 49 => 319 | 50 => 320 | 57 => 432 | n => n, fun | 22 => 73 | 24 => 109 | 25 => 193 | 3 => 3 | 39 => 294 | 0 => 0 | 53 => 295 | 55 => 366 | 4 => 4 | 46 => 409 | 45 => 408 | 50 => 371 | 5 => 5 | 9 => 9 | 66 => 530 | 70 => 534 | 76 => 626 | 77 => 343 | n => n, fun | n => n⟩
theorem sortPtL : Go.Proofs.SlLaysF0.n6 Tryz.prog sortPtL_ren := {
  mixed := by kernel_rfl
  f6 := ⟨Tryz.f70.name, by decide, Tryz.func70.trans (congrArg some (by kernel_rfl))⟩
  f14 := ⟨Tryz.f134.name, by decide, Tryz.func134.trans (congrArg some (by kernel_rfl))⟩
  f15 := Tryz.func135.trans (congrArg some (by kernel_rfl))
  f20 := ⟨Tryz.f214.name, by decide, Tryz.func214.trans (congrArg some (by kernel_rfl))⟩
  f21 := ⟨Tryz.f215.name, by decide, Tryz.func215.trans (congrArg some (by kernel_rfl))⟩
  f22 := ⟨Tryz.f216.name, by decide, Tryz.func216.trans (congrArg some (by kernel_rfl))⟩
  f23 := ⟨Tryz.f217.name, by decide, Tryz.func217.trans (congrArg some (by kernel_rfl))⟩
  f24 := ⟨Tryz.f218.name, by decide, Tryz.func218.trans (congrArg some (by kernel_rfl))⟩
  f25 := ⟨Tryz.f219.name, by decide, Tryz.func219.trans (congrArg some (by kernel_rfl))⟩
  f26 := ⟨Tryz.f220.name, by decide, Tryz.func220.trans (congrArg some (by kernel_rfl))⟩
  f27 := ⟨Tryz.f221.name, by decide, Tryz.func221.trans (congrArg some (by kernel_rfl))⟩
  f28 := Tryz.func222.trans (congrArg some (by kernel_rfl))
  f29 := Tryz.func223.trans (congrArg some (by kernel_rfl))
  f46 := ⟨Tryz.f316.name, by decide, Tryz.func316.trans (congrArg some (by kernel_rfl))⟩
  f47 := Tryz.func317.trans (congrArg some (by kernel_rfl))
  f48 := Tryz.func318.trans (congrArg some (by kernel_rfl))
  f49 := ⟨Tryz.f319.name, by decide, Tryz.func319.trans (congrArg some (by kernel_rfl))⟩
  f50 := ⟨Tryz.f320.name, by decide, Tryz.func320.trans (congrArg some (by kernel_rfl))⟩
  f57 := ⟨Tryz.f432.name, by decide, Tryz.func432.trans (congrArg some (by kernel_rfl))⟩
  t0 := Tryz.underlying0
  a0 := Tryz.isAgg0
  z0 := Tryz.sizeOf0
  v0 := Tryz.zeroValue0
  t3 := Tryz.underlying3
  a3 := Tryz.isAgg3
  z3 := Tryz.sizeOf3
  v3 := Tryz.zeroValue3
  t4 := Tryz.underlying4
  a4 := Tryz.isAgg4
  z4 := Tryz.sizeOf4
  v4 := Tryz.zeroValue4
  t5 := Tryz.underlying5
  a5 := Tryz.isAgg5
  z5 := Tryz.sizeOf5
  v5 := Tryz.zeroValue5
  t9 := Tryz.underlying9
  a9 := Tryz.isAgg9
  z9 := Tryz.sizeOf9
  v9 := Tryz.zeroValue9
  t22 := Tryz.underlying73
  a22 := Tryz.isAgg73
  z22 := Tryz.sizeOf73
  v22 := Tryz.zeroValue73
  t25 := Tryz.underlying193
  a25 := Tryz.isAgg193
  z25 := Tryz.sizeOf193
  v25 := Tryz.zeroValue193
  t39 := Tryz.underlying294
  a39 := Tryz.isAgg294
  z39 := Tryz.sizeOf294
  v39 := Tryz.zeroValue294
  t45 := Tryz.underlying408
  a45 := Tryz.isAgg408
  z45 := Tryz.sizeOf408
  v45 := Tryz.zeroValue408
  t46 := Tryz.underlying409
  a46 := Tryz.isAgg409
  z46 := Tryz.sizeOf409
  v46 := Tryz.zeroValue409
  t50 := Tryz.underlying371
  a50 := Tryz.isAgg371
  z50 := Tryz.sizeOf371
  v50 := Tryz.zeroValue371
  t53 := Tryz.underlying295
  a53 := Tryz.isAgg295
  z53 := Tryz.sizeOf295
  v53 := Tryz.zeroValue295
  t55 := Tryz.underlying366
  a55 := Tryz.isAgg366
  z55 := Tryz.sizeOf366
  v55 := Tryz.zeroValue366
  t66 := Tryz.underlying530
  a66 := Tryz.isAgg530
  z66 := Tryz.sizeOf530
  v66 := Tryz.zeroValue530
  t70 := Tryz.underlying534
  a70 := Tryz.isAgg534
  z70 := Tryz.sizeOf534
  v70 := Tryz.zeroValue534
  t76 := Tryz.underlying626
  a76 := Tryz.isAgg626
  z76 := Tryz.sizeOf626
  v76 := Tryz.zeroValue626
  t77 := Tryz.underlying343
  a77 := Tryz.isAgg343
  z77 := Tryz.sizeOf343
  v77 := Tryz.zeroValue343 }
end Go.Proofs.YtpfighhhemnhaaaGreat
namespace Go.Proofs.YtpfighhhemnhaaaGreat
open Go.RowKit Go.Sort Go.Lib Go.Shelf Go.Proofs

def Pt.row (p : Pt) : List Value := [.int .i64 p.id, .int .i64 p.x, .int .i64 p.y, .int .i64 p.zl, .int .i64 p.zh, .int .i64 p.wd, .int .i64 p.nm, .int .i64 p.of, .int .i64 p.cl]
theorem Pt.row_one (p : Pt) : ∀ v ∈ p.row, v.oneCell' = true := fun v hv => by
  simp [Pt.row] at hv
  rcases hv with rfl | rfl | rfl | rfl | rfl | rfl | rfl | rfl | rfl <;> rfl
theorem Pt.row_at (p : Pt) (j : Nat) (hj : j < 9) : p.row[j]? = some (.int .i64 (p.f j)) := by
  match j, hj with
  | 0, _ | 1, _ | 2, _ | 3, _ | 4, _ | 5, _ | 6, _ | 7, _ | 8, _ => rfl
def Ky.row (k : Ky) : List Value := [.int .i64 k.L, .int .i64 k.x, .int .i64 k.y, .int .i64 k.z]
/-- a world that has grown by draws and new blocks alone -/
def Grew (W X : World) : Prop := ∃ q os, X = grow (W.drewN q) os
theorem Grew.refl (W : World) : Grew W W := ⟨0, #[], by rw [grow_empty]; rfl⟩
theorem Grew.alloc {W X : World} (h : Grew W X) (o : Obj) : Grew W (X.alloc o) := by
  obtain ⟨q, os, rfl⟩ := h
  exact ⟨q, _, by rw [alloc_eq_grow, grow_grow]⟩
theorem Grew.drewN {W X : World} (h : Grew W X) (n : Nat) : Grew W (X.drewN n) := by
  obtain ⟨q, os, rfl⟩ := h
  exact ⟨q + n, os, by show grow ((W.drewN q).drewN n) os = _; rw [World.drewN_drewN]⟩
theorem Grew.trans {W X Y : World} (h : Grew W X) (h2 : Grew X Y) : Grew W Y := by
  obtain ⟨q, os, rfl⟩ := h
  obtain ⟨n, os', rfl⟩ := h2
  exact ⟨q + n, os ++ os', by show grow (grow ((W.drewN q).drewN n) os) os' = _; rw [grow_grow, World.drewN_drewN]⟩
def cmpI (p q : Pt) : Int := wrap64 (p.id - q.id)
def Ky.small (k : Ky) : Prop := (0 ≤ k.L ∧ k.L ≤ 12) ∧ (0 ≤ k.x ∧ k.x < 4096) ∧ (0 ≤ k.y ∧ k.y < 4096) ∧ (0 ≤ k.z ∧ k.z < 4096)
/-- a tile in memory: its key and the slice of its points -/
structure Te where
  key : Ky
  v : Value
  pts : List Pt
instance : Inhabited Te := ⟨⟨default, .slice none 0 0, []⟩⟩
def Te.row (e : Te) : List Value := e.key.row ++ [e.v]
def Te.tl (e : Te) : Tl := ⟨e.key, e.pts⟩
def Te.ok (e : Te) : Prop := e.key.small ∧ e.v.oneCell' = true
/-- points with an Id that is one; tiles with a key that is one -/
def PtG : Type := { p : Pt // 0 ≤ p.id ∧ p.id ≤ 1152921504606846976 }
def TeG : Type := { e : Te // e.ok }
instance : Inhabited PtG := ⟨⟨default, by decide⟩⟩
instance : Inhabited TeG := ⟨⟨default, ⟨by unfold Ky.small; decide, rfl⟩⟩⟩
theorem cmpI_lt (p q : PtG) : ltOf (fun x y : PtG => cmpI x.1 y.1) p q = decide (p.1.id < q.1.id) := by
  obtain ⟨p, hp⟩ := p
  obtain ⟨q, hq⟩ := q
  have e : cmpI p q = p.id - q.id := by unfold cmpI wrap64; omega
  show decide (cmpI p q < 0) = decide (p.id < q.id)
  rw [e]
  simp
  omega
theorem cmpI_swo : SWO (ltOf (fun x y : PtG => cmpI x.1 y.1)) where
  irrefl x := by rw [cmpI_lt]; simp
  trans x y z h1 h2 := by rw [cmpI_lt] at *; simp at *; omega
  ntrans x y z h1 h2 := by rw [cmpI_lt] at *; simp at *; omega
theorem pmap_val {α : Type} {p : α → Prop} : ∀ (l : List α) (h : ∀ a ∈ l, p a), (l.pmap (fun a ha => (⟨a, ha⟩ : { a : α // p a })) h).map (·.1) = l
  | [], _ => rfl
  | a :: l, h => by
    rw [List.pmap_cons, List.map_cons, pmap_val l]
theorem Te.row_one (e : Te) (h : e.ok) : ∀ v ∈ e.row, v.oneCell' = true := fun v hv => by
  simp [Te.row, Ky.row] at hv
  rcases hv with rfl | rfl | rfl | rfl | rfl
  · rfl
  · rfl
  · rfl
  · rfl
  · exact h.2
end Go.Proofs.YtpfighhhemnhaaaGreat

namespace Go.Proofs.YtpfighhhemnhaaaGreat
open Go.RowKit Go.Maps

theorem RowsAt.one {W : World} {g sz : Nat} {C : Array Value} {t : TypeId} {fr : Nat × Nat} (h : W.heap[g]? = some (.cells C t fr)) : RowsAt W g 0 sz [C.toList] := fun i r hi j hj => by
  cases i with
  | zero =>
    simp at hi
    subst hi
    rw [cell_row h]
    simp only [Nat.zero_mul, Nat.zero_add]
    exact Array.getElem?_toList.symm
  | succ i => simp at hi
theorem RowsAt.kept {W W' : World} {b off sz : Nat} {l : List (List Value)} {row : Option Nat} (h : RowsAt W b off sz l) (hg : W.grownBy W' row) (hne : some b ≠ row) (hb : b < W.heap.size) : RowsAt W' b off sz l := fun i r hi j hj => by
  rw [World.cell?_of_block (w := W) (hg.block b hb hne)]
  exact h i r hi j hj
end Go.Proofs.YtpfighhhemnhaaaGreat
namespace Go.Proofs.YtpfighhhemnhaaaGreat
open Go.RowKit

end Go.Proofs.YtpfighhhemnhaaaGreat

namespace Go.Proofs.YtpfighhhemnhaaaGreat
open Go.RowKit Go.Maps

end Go.Proofs.YtpfighhhemnhaaaGreat
namespace Go.Proofs.YtpfighhhemnhaaaGreat
open Go.RowKit Go.Maps

/-- W' is W but for new blocks and for the blocks of T -/
structure Turned (W W' : World) (T : Nat → Prop) : Prop where
  os : W'.os = W.os
  tape : W'.tape = W.tape
  output : W'.output = W.output
  size : W.heap.size ≤ W'.heap.size
  block : ∀ k, k < W.heap.size → ¬ T k → W'.heap[k]? = W.heap[k]?
theorem Turned.refl (W : World) (T : Nat → Prop) : Turned W W T := ⟨rfl, rfl, rfl, Nat.le_refl _, fun _ _ _ => rfl⟩
theorem Turned.trans {W W1 W2 : World} {T T' : Nat → Prop} (h : Turned W W1 T) (h2 : Turned W1 W2 T') (ht : ∀ k, k < W.heap.size → T' k → T k) : Turned W W2 T :=
  ⟨h2.os.trans h.os, h2.tape.trans h.tape, h2.output.trans h.output, Nat.le_trans h.size h2.size, fun k hk hn => (h2.block k (Nat.lt_of_lt_of_le hk h.size) (fun e => hn (ht k hk e))).trans (h.block k hk hn)⟩
theorem Turned.below {w W W' : World} {T : Nat → Prop} {B : Nat} (h : Turned W W' T) (hb : Below B w W) (hB : B ≤ W.heap.size) (ht : ∀ k, T k → B ≤ k) : Below B w W' :=
  ⟨h.os.trans hb.os, h.tape.trans hb.tape, h.output.trans hb.output, Nat.le_trans hb.size h.size, fun k hk => (h.block k (Nat.lt_of_lt_of_le hk hB) (fun e => by have := ht k e; omega)).trans (hb.block k hk)⟩
section
variable {W W' : World} {base t sz : Nat} {v : Value} {l : List (List Value)}
theorem OwnR.lt (h : OwnR W base t sz v l) {g : Nat} (hg : v.ownBlock = some g) : g < W.heap.size := by
  rcases h.2.2 with ⟨h1, _⟩ | ⟨g', cap, cur, h1, hb, h2, h3⟩
  · rw [h1] at hg; cases hg
  · rw [h1] at hg
    injection hg with hg
    subst hg
    exact (Array.getElem?_eq_some_iff.1 h2).1
end
/-- a slice of points of the call's own, from a block on -/
def OwnP (W : World) (base : Nat) (v : Value) (l : List Pt) : Prop := OwnR W base 109 9 v (l.map Pt.row)
theorem OwnP.cells {W : World} {base : Nat} {v : Value} {l : List Pt} (h : OwnP W base v l) (hn : 0 < l.length) : ∃ g cap, v = .slice (some ⟨g, 0, none⟩) l.length cap ∧ base ≤ g ∧ g < W.heap.size ∧ ∀ i p, l[i]? = some p → ∀ j, j < 9 → W.cell? ⟨g, i * 9 + j, none⟩ = some (.int .i64 (p.f j)) := by
  obtain ⟨g, cap, cur, h1, hb, h2, h3, _⟩ := OwnR.rows h (by simpa using hn)
  rw [List.length_map] at h1
  refine ⟨g, cap, h1, hb, (Array.getElem?_eq_some_iff.1 h2).1, fun i p hi j hj => ?_⟩
  have := h3 i p.row (by rw [List.getElem?_map, hi]; rfl) j hj
  rw [Nat.zero_add, Pt.row_at p j hj] at this
  exact this
theorem OwnP.slice {W : World} {base : Nat} {v : Value} {l : List Pt} (h : OwnP W base v l) : ∃ a cap, v = .slice a l.length cap := by
  have := OwnR.slice h
  rwa [List.length_map] at this
/-- the coordinates of a point are within bounds -/
def Pt.fine (p : Pt) : Prop := (0 ≤ p.id ∧ p.id ≤ 1152921504606846976) ∧ (-268435456 ≤ p.x ∧ p.x ≤ 268435456) ∧ (-268435456 ≤ p.y ∧ p.y ≤ 268435456) ∧ (-268435456 ≤ p.zl ∧ p.zl ≤ 268435456)
end Go.Proofs.YtpfighhhemnhaaaGreat
namespace Go.Proofs.YtpfighhhemnhaaaGreat
open Go.RowKit Go.Maps

end Go.Proofs.YtpfighhhemnhaaaGreat
namespace Go.Proofs.YtpfighhhemnhaaaGreat
open Go.RowKit Go.Maps

/-- tiles in memory of the call's own -/
def TilesIn (W : World) (base : Nat) (v : Value) (E : List Te) : Prop := OwnR W base 360 5 v (E.map Te.row) ∧ ∀ e ∈ E, OwnP W base e.v e.pts
/-- what has been laid above a level -/
def above (S : List Pt) (c : Nat) (l : Nat) : Pt → Ky → Prop := fun p k => p ∈ S ∧ isAt S c p k ∧ k.L < l
end Go.Proofs.YtpfighhhemnhaaaGreat
namespace Go.Proofs.YtpfighhhemnhaaaGreat
open Go.RowKit Go.Maps

theorem OwnR.grow' {W W' : World} {base t sz : Nat} {v : Value} {l : List (List Value)} (h : OwnR W base t sz v l) (hb : Below W.heap.size W W') : OwnR W' base t sz v l := h.grow hb
end Go.Proofs.YtpfighhhemnhaaaGreat
namespace Go.Proofs.YtpfighhhemnhaaaGreat
open Go.RowKit Go.Maps Go.Sort

/-- a slice of points, as it lies in memory -/
def PtsV (W : World) (v : Value) (l : List Pt) : Prop := ∃ a cap, v = .slice a l.length cap ∧ (l = [] ∨ ∃ b off, a = some ⟨b, off, none⟩ ∧ b < W.heap.size ∧ RowsAt W b off 9 (l.map Pt.row))
theorem PtsV.still {W W' : World} {v : Value} {l : List Pt} (h : PtsV W v l) (hb : Below W.heap.size W W') : PtsV W' v l := by
  obtain ⟨a, cap, h1, h2⟩ := h
  refine ⟨a, cap, h1, ?_⟩
  rcases h2 with h2 | ⟨b, off, h3, h4, h5⟩
  · exact Or.inl h2
  · exact Or.inr ⟨b, off, h3, Nat.lt_of_lt_of_le h4 hb.size, h5.still hb h4⟩
theorem PtsV.below {B : Nat} {W W' : World} {v : Value} {l : List Pt} (h : PtsV W v l) (hb : Below B W W') (hB : B = W.heap.size := by rfl) : PtsV W' v l := by
  subst hB
  exact h.still hb
/-- a slice of tiles, as it lies in memory -/
def TilesV (W : World) (v : Value) (E : List Te) : Prop := (∃ a cap, v = .slice a E.length cap ∧ (E = [] ∨ ∃ b off, a = some ⟨b, off, none⟩ ∧ b < W.heap.size ∧ RowsAt W b off 5 (E.map Te.row))) ∧ ∀ e ∈ E, PtsV W e.v e.pts
theorem TilesV.still {W W' : World} {v : Value} {E : List Te} (h : TilesV W v E) (hb : Below W.heap.size W W') : TilesV W' v E := by
  obtain ⟨⟨a, cap, h1, h2⟩, h6⟩ := h
  refine ⟨⟨a, cap, h1, ?_⟩, fun e he => (h6 e he).still hb⟩
  rcases h2 with h2 | ⟨b, off, h3, h4, h5⟩
  · exact Or.inl h2
  · exact Or.inr ⟨b, off, h3, Nat.lt_of_lt_of_le h4 hb.size, h5.still hb h4⟩
theorem flat36e : flatOf Tryz.prog 10 109 = some [some .i64, some .i64, some .i64, some .i64, some .i64, some .i64, some .i64, some .i64, some .i64] := by kernel_rfl
theorem eq36s (a b c d e f g h i : Int) (W : World) : (Op.equalIn 10000 109 (.agg #[.int .i64 a, .int .i64 b, .int .i64 c, .int .i64 d, .int .i64 e, .int .i64 f, .int .i64 g, .int .i64 h, .int .i64 i]) (.agg #[.int .i64 a, .int .i64 b, .int .i64 c, .int .i64 d, .int .i64 e, .int .i64 f, .int .i64 g, .int .i64 h, .int .i64 i])).run Tryz.prog W = .ok true W := by
  have h := equal_struct Tryz.underlying109 flat36e [.int .i64 a, .int .i64 b, .int .i64 c, .int .i64 d, .int .i64 e, .int .i64 f, .int .i64 g, .int .i64 h, .int .i64 i] [.int .i64 a, .int .i64 b, .int .i64 c, .int .i64 d, .int .i64 e, .int .i64 f, .int .i64 g, .int .i64 h, .int .i64 i] rfl rfl W
  rw [sameL_refl (ks := [some .i64, some .i64, some .i64, some .i64, some .i64, some .i64, some .i64, some .i64, some .i64]) rfl] at h
  exact h
end Go.Proofs.YtpfighhhemnhaaaGreat
namespace Go.Proofs.YtpfighhhemnhaaaGreat
open Go.RowKit Go.Maps

def goodL (S : List Pt) : Bool := goodV (fun i j => (S[i]!).f j) S.length
def okP (p : Pt) : Bool := inB 0 255 p.cl && pointB p.id p.x p.y p.zl p.zh p.wd p.nm p.of
theorem goodL_iff (S : List Pt) : goodL S = true ↔ S.length ≤ 1024 ∧ (∀ p ∈ S, okP p = true) ∧ S.Pairwise (fun p q => p.id ≠ q.id) := by
  unfold goodL goodV validV
  simp only [Bool.and_eq_true, allN_iff, decide_eq_true_eq]
  have hf : ∀ i (h : i < S.length), S[i]! = S[i] := fun i h => getElem!_pos S i h
  constructor
  · rintro ⟨h1, h2, h3⟩
    refine ⟨h2, fun p hp => ?_, ?_⟩
    · obtain ⟨i, hi, rfl⟩ := List.mem_iff_getElem.1 hp
      have a1 := h1 i hi
      have a2 := h3 i hi
      unfold clsB at a1
      unfold newB ptB at a2
      simp only [hf i hi, Bool.and_eq_true] at a1 a2
      unfold okP
      rw [Bool.and_eq_true]
      exact ⟨a1, a2.1⟩
    · rw [List.pairwise_iff_getElem]
      intro i j hi hj hij e
      have a2 := h3 j hj
      unfold newB at a2
      simp only [Bool.and_eq_true, Bool.not_eq_true', List.any_eq_false] at a2
      have := a2.2 i (List.mem_range.2 hij)
      simp only [hf i hi, hf j hj] at this
      exact this (by simp [Pt.f, e])
  · rintro ⟨h1, h2, h3⟩
    refine ⟨fun i hi => ?_, h1, fun i hi => ?_⟩
    · have a := h2 S[i] (List.getElem_mem hi)
      unfold okP at a
      rw [Bool.and_eq_true] at a
      simp only [clsB, hf i hi]
      exact a.1
    · have a := h2 S[i] (List.getElem_mem hi)
      unfold okP at a
      rw [Bool.and_eq_true] at a
      simp only [newB, ptB, hf i hi, Bool.and_eq_true, Bool.not_eq_true', List.any_eq_false]
      refine ⟨a.2, fun j hj => ?_⟩
      have hji := List.mem_range.1 hj
      simp only [hf j (by omega)]
      have := List.pairwise_iff_getElem.1 h3 j i (by omega) hi hji
      simpa [Pt.f] using this
theorem goodL_perm {S S' : List Pt} (h : S.Perm S') (hg : goodL S = true) : goodL S' = true := by
  rw [goodL_iff] at *
  obtain ⟨h1, h2, h3⟩ := hg
  exact ⟨by rw [← h.length_eq]; exact h1, fun p hp => h2 p (h.mem_iff.2 hp), (h.pairwise_iff (fun {_ _} e => Ne.symm e)).1 h3⟩
theorem okP_fine {p : Pt} (h : okP p = true) : p.fine := by
  unfold okP at h
  have h1 := point_coords (cl := p.cl) (show (pointB p.id p.x p.y p.zl p.zh p.wd p.nm p.of && inB 0 255 p.cl) = true by rw [Bool.and_comm]; exact h)
  rw [Bool.and_eq_true] at h
  have h2 := @pointB_id p.f h.2
  exact ⟨h2, h1⟩
theorem goodL_facts {S : List Pt} (h : goodL S = true) : GoodS S ∧ (∀ p ∈ S, p.fine) ∧ S.length ≤ 1024 := by
  rw [goodL_iff] at h
  obtain ⟨h1, h2, h3⟩ := h
  exact ⟨⟨h3, fun p hp => (okP_fine (h2 p hp)).1⟩, fun p hp => okP_fine (h2 p hp), h1⟩
theorem rows_recs {W : World} {b off : Nat} {S : List Pt} (h : RowsAt W b off 9 (S.map Pt.row)) : recs9 W b off S.length (fun i j => (S[i]!).f j) := fun i hi j hj => by
  have := h i (S[i]!).row (by rw [List.getElem?_map, List.getElem?_eq_getElem hi, getElem!_pos S i hi]; rfl) j hj
  rw [Pt.row_at _ j hj] at this
  exact this
/-- different lists within one: no more than it has members -/
theorem sub_len {α : Type} [DecidableEq α] : ∀ {l m : List α}, l.Pairwise (· ≠ ·) → (∀ a ∈ l, a ∈ m) → l.length ≤ m.length
  | [], _, _, _ => Nat.zero_le _
  | a :: l, m, hd, hs => by
    obtain ⟨h1, h2⟩ := List.pairwise_cons.1 hd
    have ha := hs a (List.mem_cons_self ..)
    have := sub_len (m := m.erase a) h2 (fun b hb => (List.mem_erase_of_ne (Ne.symm (h1 b hb))).2 (hs b (List.mem_cons_of_mem _ hb)))
    rw [List.length_erase_of_mem ha] at this
    have hp : 0 < m.length := List.length_pos_of_mem ha
    simp
    omega
theorem IsLayout.lens {S : List Pt} {c : Nat} {E : List Te} (h : IsLayout S c (E.map Te.tl)) (hl : S.length ≤ 1024) : (∀ e ∈ E, e.pts.length ≤ 1024) ∧ E.length ≤ 1024 := by
  refine ⟨fun e he => ?_, ?_⟩
  · have hm : e.tl ∈ E.map Te.tl := List.mem_map.2 ⟨e, he, rfl⟩
    have h1 := (h.tiles.pts e.tl hm).2
    have h2 : ∀ i ∈ e.pts.map Pt.id, i ∈ S.map Pt.id := fun i hi => by
      obtain ⟨p, hp, rfl⟩ := List.mem_map.1 hi
      exact List.mem_map.2 ⟨p, ((h.tiles.mem e.tl hm p).1 hp).1, rfl⟩
    have h3 := sub_len (l := e.pts.map Pt.id) (m := S.map Pt.id) (by rw [List.pairwise_map]; exact h1.imp (fun h => by omega)) h2
    simp at h3
    omega
  · have hne : ∀ e ∈ E, e.pts ≠ [] := fun e he => (h.tiles.pts e.tl (List.mem_map.2 ⟨e, he, rfl⟩)).1
    have hhd : ∀ e ∈ E, (e.pts.headD default) ∈ e.pts := fun e he => by
      cases hp : e.pts with
      | nil => exact absurd hp (hne e he)
      | cons p l => simp
    have hin : ∀ e ∈ E, (e.pts.headD default) ∈ S ∧ isAt S c (e.pts.headD default) e.key := fun e he => (h.tiles.mem e.tl (List.mem_map.2 ⟨e, he, rfl⟩) _).1 (hhd e he)
    have h2 : ∀ i ∈ E.map (fun e => e.key), i ∈ S.map (fun p => Classical.choose (isAt_ex S c p)) := fun i hi => by
      obtain ⟨e, he, rfl⟩ := List.mem_map.1 hi
      obtain ⟨h3, h4⟩ := hin e he
      exact List.mem_map.2 ⟨_, h3, isAt_un (Classical.choose_spec (isAt_ex S c _)) h4⟩
    have hk := h.tiles.keys
    rw [List.pairwise_map] at hk
    have h3 := sub_len (l := E.map (fun e => e.key)) (by rw [List.pairwise_map]; exact hk) h2
    simp at h3
    omega
end Go.Proofs.YtpfighhhemnhaaaGreat


/- Srt -/
namespace Go.Proofs.YtpfighhhemnhaaaGreat
open Go.RowKit

/-- two stores (at s1, then at s2) beside values; ps: what the first store waits for; W0, W1, W2: the worlds ahead of, between and behind the stores -/
structure TwoT (W0 W1 W2 : World) (s1 s2 : Nat) (ps : List Nat) (vs : List Value) (L : Nat → Bool) (us : Nat → Value) (W : World) : Prop where
  vals : ∀ j, L j = true → j ≠ s1 → j ≠ s2 → us j = vs.getD j undef
  ord : L s2 = true → L s1 = true
  pre : L s1 = true → ∀ j ∈ ps, L j = true
  wld : W = if L s2 = true then W2 else if L s1 = true then W1 else W0
section
variable {W0 W1 W2 W : World} {s1 s2 : Nat} {ps : List Nat} {vs : List Value} {L : Nat → Bool} {us : Nat → Value} {v : Value}
theorem TwoT.pure (k : Nat) (h : TwoT W0 W1 W2 s1 s2 ps vs L us W) (h1 : k ≠ s1) (h2 : k ≠ s2) (hv : v = vs.getD k undef) : TwoT W0 W1 W2 s1 s2 ps vs (fun j => j == k || L j) (updF us k v) W := by
  have e1 : (s1 == k || L s1) = L s1 := by rw [show (s1 == k) = false from beq_false_of_ne (Ne.symm h1), Bool.false_or]
  have e2 : (s2 == k || L s2) = L s2 := by rw [show (s2 == k) = false from beq_false_of_ne (Ne.symm h2), Bool.false_or]
  refine ⟨fun j hj j1 j2 => ?_, fun g => ?_, fun g j hj => ?_, ?_⟩
  · by_cases hjk : j = k
    · subst hjk; simp [updF, hv]
    · have e : updF us k v j = us j := by simp [updF, hjk]
      rw [e]
      exact h.vals j (by simpa [hjk] using hj) j1 j2
  · simp only [e1, e2] at g ⊢
    exact h.ord g
  · simp only [e1] at g
    rw [h.pre g j hj, Bool.or_true]
  · simp only [e1, e2]
    exact h.wld
end

theorem own_parts {W : World} {base t sz g n cap : Nat} {l : List (List Value)} (h : OwnR W base t sz (.slice (some ⟨g, 0, none⟩) n cap) l) :
    n = l.length ∧ ∃ cur : Array Value, base ≤ g ∧ W.heap[g]? = some (.cells cur t) ∧ l.length ≤ cap ∧ cap ≤ maxLen ∧ cur.size = cap * sz ∧ cur.toList.take (l.length * sz) = l.flatten := by
  rcases h.2.2 with ⟨h1, _⟩ | ⟨g', cap', cur, h1, hB, h2, h3, h4, h5, h6⟩
  · cases h1
  · injection h1 with h1 hn hc
    injection h1 with h1
    injection h1 with h1 _
    subst h1 hc
    exact ⟨hn, cur, hB, h2, h3, h4, h5, h6⟩
theorem own_set {W : World} {base t sz g n cap i : Nat} {l : List (List Value)} {cur : Array Value} {r : List Value} (h : OwnR W base t sz (.slice (some ⟨g, 0, none⟩) n cap) l) (hc : W.heap[g]? = some (.cells cur t)) (hi : i < l.length) (hr : r.length = sz) (h1 : ∀ u ∈ r, u.oneCell' = true) :
    OwnR (W.setRow g (ptL cur (i * sz) r)) base t sz (.slice (some ⟨g, 0, none⟩) n cap) (l.set i r) := by
  obtain ⟨hn, cur', hB, hc', hle, hm, hcs, htk⟩ := own_parts h
  rw [hc] at hc'
  injection hc' with hc'
  injection hc' with hc' _
  subst hc'
  have hw : Wide sz (l.set i r) := fun x hx => by
    rcases List.mem_or_eq_of_mem_set hx with g | g
    · exact h.1 x g
    · subst g; exact ⟨hr, h1⟩
  refine ⟨hw, by rw [List.length_set, hw.length, List.length_set], ?_⟩
  refine Or.inr ⟨g, cap, _, by rw [List.length_set, hn], hB, setRow_heap _ _ _ _ _ _ hc, by rw [List.length_set]; exact hle, hm, by rw [ptL_size]; exact hcs, ?_⟩
  rw [List.length_set]
  have hbd : (i + 1) * sz ≤ l.length * sz := Nat.mul_le_mul_right sz hi
  have hbd2 : l.length * sz ≤ cap * sz := Nat.mul_le_mul_right sz hle
  rw [Nat.add_mul] at hbd
  refine List.ext_getElem? fun k => ?_
  by_cases hk : k < l.length * sz
  · have s0 : 0 < sz := by
      rcases Nat.eq_zero_or_pos sz with e | e
      · subst e; simp at hk
      · exact e
    have hd : k / sz < l.length := Nat.div_lt_of_lt_mul (by rw [Nat.mul_comm]; exact hk)
    have hmm : k % sz < sz := Nat.mod_lt _ s0
    have e : k / sz * sz + k % sz = k := by rw [Nat.mul_comm]; exact Nat.div_add_mod k sz
    rw [List.getElem?_take_of_lt hk, Array.getElem?_toList]
    have hold : cur[k]? = l.flatten[k]? := by rw [← htk, List.getElem?_take_of_lt hk, Array.getElem?_toList]
    by_cases hki : k / sz = i
    · have h2 := hw.at (i := i) (r := r) (List.getElem?_set_self hi) (k % sz) hmm
      rw [hki] at e
      rw [e] at h2
      rw [h2]
      have h3 := ptL_in r cur (i * sz) (k % sz) (by rw [hr, hcs]; omega) (by rw [hr]; exact hmm)
      rw [e] at h3
      exact h3
    · have h2 := hw.at (i := k / sz) (r := l[k / sz]) (by rw [List.getElem?_set_ne (Ne.symm hki), List.getElem?_eq_getElem hd]) (k % sz) hmm
      have h3 := h.1.at (List.getElem?_eq_getElem hd) (k % sz) hmm
      rw [e] at h2 h3
      rw [h2, ← h3, ← hold]
      refine ptL_out r cur (i * sz) k ?_
      rw [hr]
      rcases Nat.lt_or_ge (k / sz) i with q | q
      · left
        have : (k / sz + 1) * sz ≤ i * sz := Nat.mul_le_mul_right sz q
        rw [Nat.add_mul] at this
        omega
      · right
        have : (i + 1) * sz ≤ k / sz * sz := Nat.mul_le_mul_right sz (by omega)
        rw [Nat.add_mul] at this
        omega
  · rw [List.getElem?_eq_none (by simp; omega), List.getElem?_eq_none (by rw [hw.length, List.length_set]; omega)]
end Go.Proofs.YtpfighhhemnhaaaGreat
namespace Go.Proofs.YtpfighhhemnhaaaGreat
open Go.RowKit

section
variable {α : Type}
end
theorem OwnR.drew {W : World} {base t sz : Nat} {v : Value} {l : List (List Value)} (h : OwnR W base t sz v l) : OwnR W.drew base t sz v l := OwnR.heap h (fun _ _ h _ => h)
end Go.Proofs.YtpfighhhemnhaaaGreat
namespace Go.Proofs.YtpfighhhemnhaaaGreat
open Go.ChangeShapes Go.WideShapes Go.ChangeAt Go.RowKit Go.Deep

/-- a slice of numbers, as it lies in memory -/
def IntsV (W : World) (v : Value) (l : List Int) : Prop := ∃ a cap, v = .slice a l.length cap ∧ (l = [] ∨ ∃ b off, a = some ⟨b, off, none⟩ ∧ b < W.heap.size ∧ ∀ (i : Nat) (z : Int), l[i]? = some z → W.cell? ⟨b, off + i, none⟩ = some (.int .i64 z))
theorem IntsV.still {W W' : World} {v : Value} {l : List Int} (h : IntsV W v l) (hb : Below W.heap.size W W') : IntsV W' v l := by
  obtain ⟨a, cap, h1, h2⟩ := h
  refine ⟨a, cap, h1, ?_⟩
  rcases h2 with h2 | ⟨b, off, h3, h4, h5⟩
  · exact Or.inl h2
  · exact Or.inr ⟨b, off, h3, Nat.lt_of_lt_of_le h4 hb.size, fun i z hi => by rw [hb.cell h4]; exact h5 i z hi⟩
theorem list_of {α : Type} {R : Nat → α → Prop} : ∀ n, (∀ i, i < n → ∃ x, R i x) → ∃ l : List α, l.length = n ∧ ∀ i x, l[i]? = some x → R i x
  | 0, _ => ⟨[], rfl, fun i x h => by simp at h⟩
  | n + 1, h => by
    obtain ⟨l, h1, h2⟩ := list_of n (fun i hi => h i (by omega))
    obtain ⟨x, hx⟩ := h n (by omega)
    refine ⟨l ++ [x], by simp [h1], fun i y hy => ?_⟩
    by_cases hi : i < n
    · exact h2 i y (by rw [List.getElem?_append_left (by omega)] at hy; exact hy)
    · have hil : i < (l ++ [x]).length := (List.getElem?_eq_some_iff.1 hy).1
      simp [h1] at hil
      obtain rfl : i = n := by omega
      rw [List.getElem?_append_right (by omega)] at hy
      simp [h1] at hy
      subst hy
      exact hx
section
variable {H : Type} {enc : TypeId × Value → H} {P : Program} {w : World} {base : Nat} {spare : Nat → Bool} {held : Bool}

/-- A slice of flat structs, arrays or integers, in a cell. -/
theorem open_cell_rows {f fuel : Nat} {t e : TypeId} {ks : List (Option IntKind)} {v : Value} {x : DataW H × List MemPlace} (ht : P.underlying t = some (.slice e)) (hf : flatOf P f e = some ks) (hs : (P.info? e).map (·.size) = some ks.length) (hz : 0 < ks.length)
    (hx : DataW.trod enc P w base spare held fuel t [v] = some x) :
    ∃ a len cap, v = .slice a len cap ∧ len ≤ maxLen ∧ (a = none → len = 0 ∧ cap = 0) ∧ (0 < len → ∃ (b off : Nat), a = some ⟨b, off, none⟩ ∧ b < w.heap.size ∧ rows w b off ks.length len ks) := by
  rcases open_slice ht hx with ⟨h0, _⟩ | ⟨a, len, cap, m, n, D, Pl, h1, hb, hl, hm, hmm, _, hall⟩
  · exact ⟨none, 0, 0, by simpa using h0, by omega, fun _ => ⟨rfl, rfl⟩, fun h => by omega⟩
  · refine ⟨some a, len, cap, by simpa using h1, by omega, (fun h => by cases h), fun hpos => ?_⟩
    have hle : len ≤ m := by rw [hmm]; split <;> omega
    rw [cellsOf_of hs] at hall
    have key : ∀ i, i < len → ∃ cs : List Value, fitsW ks cs ∧ cs.length = ks.length ∧ ∀ j, j < ks.length → w.cell? ((a.add (i * ks.length)).add j) = cs[j]? := by
      intro i hi
      obtain ⟨cs, hc, ht⟩ := hall i (by omega)
      obtain ⟨_, hlen, hcell⟩ := World.cells?_some hc
      exact ⟨cs, trod_flat f e ks n cs _ hf hlen ht, hlen, hcell⟩
    obtain ⟨b, off, spot⟩ := a
    have hspot : spot = none := by
      obtain ⟨cs, _, hlen, hcell⟩ := key 0 (by omega)
      have h0 := hcell 0 (by omega)
      rw [List.getElem?_eq_getElem (by omega)] at h0
      simpa [Addr.add] using World.cell?_spot h0
    subst hspot
    have hr : rows w b off ks.length len ks := by
      intro i hi
      obtain ⟨cs, hfit, hlen, hcell⟩ := key i hi
      refine ⟨cs, hfit, fun j v hj => ?_⟩
      have hj' : j < ks.length := by rw [← hlen]; exact (List.getElem?_eq_some_iff.1 hj).1
      rw [← hj, ← hcell j hj', ← Go.WideShapes.add_plain, ← Go.WideShapes.add_plain]
    refine ⟨b, off, rfl, ?_, hr⟩
    obtain ⟨cs, _, hlen, hcell⟩ := key 0 hpos
    have h0 := hcell 0 hz
    rw [List.getElem?_eq_getElem (by omega), Go.WideShapes.add_plain, Go.WideShapes.add_plain] at h0
    exact cell_lt h0
end
end Go.Proofs.YtpfighhhemnhaaaGreat
namespace Go.Proofs.YtpfighhhemnhaaaGreat
open Go.RowKit Go.Sort

end Go.Proofs.YtpfighhhemnhaaaGreat

namespace Go.Proofs.YtpfighhhemnhaaaGreat
open Go.RowKit Go.Sort

/-- the level of a point's tile, as far as levels below l tell -/
def lvOf (S : List Pt) (c : Nat) : Nat → Pt → Int
  | 0, _ => -1
  | l + 1, p => if (here S c l p && takes S c l p) = true then (l : Int) else lvOf S c l p
/-- one integer an element -/
def iRow (z : Int) : List Value := [.int .i64 z]
def OwnI (W : World) (base : Nat) (v : Value) (zs : List Int) : Prop := OwnR W base 3 1 v (zs.map iRow)
theorem iRow_one (z : Int) : ∀ u ∈ iRow z, u.oneCell' = true := fun u hu => by
  simp [iRow] at hu
  subst hu
  rfl
theorem OwnI.cells {W : World} {base g n cap : Nat} {zs : List Int} (h : OwnI W base (.slice (some ⟨g, 0, none⟩) n cap) zs) : base ≤ g ∧ g < W.heap.size ∧ n = zs.length ∧ ∀ (i : Nat) (z : Int), zs[i]? = some z → W.cell? ⟨g, i, none⟩ = some (.int .i64 z) := by
  obtain ⟨hn, cur, hB, hc, hle, hm, hcs, htk⟩ := own_parts h
  rw [List.length_map] at hn hle htk
  refine ⟨hB, (Array.getElem?_eq_some_iff.1 hc).1, hn, fun i z hi => ?_⟩
  have hil : i < zs.length := (List.getElem?_eq_some_iff.1 hi).1
  have h1 := h.1.at (i := i) (r := iRow z) (by rw [List.getElem?_map, hi]; rfl) 0 (by decide)
  rw [cell_row hc, ← Array.getElem?_toList]
  rw [← htk, List.getElem?_take_of_lt (by omega)] at h1
  simpa [iRow] using h1
theorem OwnI.set {W : World} {base g n cap i : Nat} {zs : List Int} {cur : Array Value} {z : Int} (h : OwnI W base (.slice (some ⟨g, 0, none⟩) n cap) zs) (hc : W.heap[g]? = some (.cells cur 3)) (hi : i < zs.length) :
    OwnI (W.setRow g (ptL cur i [.int .i64 z])) base (.slice (some ⟨g, 0, none⟩) n cap) (zs.set i z) := by
  have h1 := own_set h hc (i := i) (r := iRow z) (by simpa using hi) rfl (iRow_one z)
  rw [Nat.mul_one] at h1
  unfold OwnI
  rw [List.map_set]
  exact h1
/-- who belongs to a level -/
def sel (S : List Pt) (c l : Nat) (p : Pt) : Bool := here S c l p && takes S c l p
/-- the indices of those of the first i who belong to the level -/
def nowL (S : List Pt) (c l i : Nat) : List Nat := (List.range i).filter (fun j => sel S c l (S[j]!))
theorem nowL_mem {S : List Pt} {c l n j : Nat} {p : Pt} (hn : n = S.length) (hp : S[j]? = some p) : j ∈ nowL S c l n ↔ sel S c l p = true := by
  have hj : j < S.length := (List.getElem?_eq_some_iff.1 hp).1
  simp [nowL, List.mem_filter, hp]
  omega
/-- the levels, of which t of the level l have been written -/
def LvAt (S : List Pt) (c l t : Nat) (zs : List Int) : Prop := zs.length = S.length ∧ ∀ j p, S[j]? = some p → zs[j]? = some (if j ∈ (nowL S c l S.length).take t then (l : Int) else lvOf S c l p)
theorem LvAt.step {S : List Pt} {c l t j : Nat} {zs : List Int} (h : LvAt S c l t zs) (hj : (nowL S c l S.length)[t]? = some j) : LvAt S c l (t + 1) (zs.set j l) := by
  refine ⟨by rw [List.length_set]; exact h.1, fun i p hp => ?_⟩
  have e : (nowL S c l S.length).take (t + 1) = (nowL S c l S.length).take t ++ [j] := by rw [List.take_add_one, hj]; rfl
  have hil : i < zs.length := by rw [h.1]; exact (List.getElem?_eq_some_iff.1 hp).1
  rw [e]
  by_cases hij : i = j
  · subst hij
    rw [List.getElem?_set_self hil]
    simp
  · rw [List.getElem?_set_ne (Ne.symm hij), h.2 i p hp]
    simp [hij]
theorem LvAt.done {S : List Pt} {c l t : Nat} {zs : List Int} (h : LvAt S c l t zs) (ht : (nowL S c l S.length).length ≤ t) : zs = S.map (lvOf S c (l + 1)) := by
  refine List.ext_getElem? fun j => ?_
  by_cases hj : j < S.length
  · rw [List.getElem?_map, List.getElem?_eq_getElem hj, h.2 j _ (List.getElem?_eq_getElem hj), List.take_of_length_le ht]
    have := nowL_mem (c := c) (l := l) (n := S.length) rfl (List.getElem?_eq_getElem hj)
    simp only [Option.map_some, lvOf]
    by_cases hs : sel S c l S[j] = true
    · rw [if_pos (this.2 hs), if_pos (show (here S c l S[j] && takes S c l S[j]) = true from hs)]
    · rw [if_neg (fun e => hs (this.1 e)), if_neg (show ¬ (here S c l S[j] && takes S c l S[j]) = true from hs)]
  · rw [List.getElem?_eq_none (by rw [h.1]; omega), List.getElem?_eq_none (by rw [List.length_map]; omega)]
end Go.Proofs.YtpfighhhemnhaaaGreat
namespace Go.Proofs.YtpfighhhemnhaaaGreat
open Go.RowKit Go.Sort

end Go.Proofs.YtpfighhhemnhaaaGreat
namespace Go.Proofs.YtpfighhhemnhaaaGreat
open Go.RowKit Go.Sort

theorem TilesIn.grow {W W' : World} {base : Nat} {v : Value} {E : List Te} (h : TilesIn W base v E) (hb : Below W.heap.size W W') : TilesIn W' base v E := ⟨OwnR.grow' h.1 hb, fun e he => OwnR.grow' (h.2 e he) hb⟩
theorem TilesIn.slice {W : World} {base : Nat} {v : Value} {E : List Te} (h : TilesIn W base v E) : ∃ a cap, v = .slice a E.length cap := by
  have := OwnR.slice h.1
  rwa [List.length_map] at this
end Go.Proofs.YtpfighhhemnhaaaGreat
namespace Go.Proofs.YtpfighhhemnhaaaGreat
open Go.RowKit Go.Sort

instance (a b : Ky) : Decidable (a.lt b) := by unfold Ky.lt; infer_instance
end Go.Proofs.YtpfighhhemnhaaaGreat
namespace Go.Proofs.YtpfighhhemnhaaaGreat
open Go.RowKit Go.Sort

end Go.Proofs.YtpfighhhemnhaaaGreat
namespace Go.Proofs.YtpfighhhemnhaaaGreat
open Go.RowKit Go.Sort

end Go.Proofs.YtpfighhhemnhaaaGreat
namespace Go.Proofs.YtpfighhhemnhaaaGreat
open Go.RowKit

def layErr (S : List Pt) (c : Int) : Int := if goodL S = true then (if inB 1 64 c = true then 0 else 2) else 70
/-- tiles, and the error: a layout, or none -/
structure LayRes (S : List Pt) (c : Int) (e : Int) (E : List Te) : Prop where
  err : e = layErr S c
  lay : layErr S c = 0 → IsLayout S c.toNat (E.map Te.tl)
  bad : layErr S c ≠ 0 → E = []
  pts : ∀ t ∈ E, t.pts.length ≤ 1024
  len : E.length ≤ 1024
theorem LayRes.same {S : List Pt} {c e f : Int} {E F : List Te} (h : LayRes S c e E) (h' : LayRes S c f F) : E.map Te.tl = F.map Te.tl := by
  by_cases h0 : layErr S c = 0
  · exact (h.lay h0).unique (h'.lay h0)
  · rw [h.bad h0, h'.bad h0]
end Go.Proofs.YtpfighhhemnhaaaGreat

namespace Go.Proofs.YtpfighhhemnhaaaGreat
open Go.RowKit

structure TlOk (t : Tl) : Prop where
  key : keyB t.key.L t.key.x t.key.y t.key.z = true
  ne : t.pts ≠ []
  good : goodL t.pts = true
  asc : t.pts.Pairwise (fun p q => p.id < q.id)
  cell : ∀ p ∈ t.pts, cellK t.key.L.toNat p = t.key
structure TlsOk (T : List Tl) : Prop where
  all : ∀ t ∈ T, TlOk t
  order : T.Pairwise (fun a b => a.key.lt b.key)
  apart : T.Pairwise (fun a b => ∀ p ∈ a.pts, ∀ q ∈ b.pts, p.id ≠ q.id)
instance (t : Tl) : Decidable (TlOk t) :=
  decidable_of_iff (keyB t.key.L t.key.x t.key.y t.key.z = true ∧ 0 < t.pts.length ∧ goodL t.pts = true ∧ t.pts.Pairwise (fun p q => p.id < q.id) ∧ ∀ p ∈ t.pts, cellK t.key.L.toNat p = t.key)
    ⟨fun ⟨h1, h2, h3, h4, h5⟩ => ⟨h1, List.length_pos_iff.1 h2, h3, h4, h5⟩, fun h => ⟨h.key, List.length_pos_iff.2 h.ne, h.good, h.asc, h.cell⟩⟩
instance (T : List Tl) : Decidable (TlsOk T) :=
  decidable_of_iff ((∀ t ∈ T, TlOk t) ∧ T.Pairwise (fun a b => a.key.lt b.key) ∧ T.Pairwise (fun a b => ∀ p ∈ a.pts, ∀ q ∈ b.pts, p.id ≠ q.id))
    ⟨fun ⟨h1, h2, h3⟩ => ⟨h1, h2, h3⟩, fun h => ⟨h.all, h.order, h.apart⟩⟩
theorem TlsOk.nil : TlsOk [] := ⟨fun t h => by simp at h, List.Pairwise.nil, List.Pairwise.nil⟩
theorem take_next {α : Type} {E : List α} {i : Nat} {x : α} (hx : E[i]? = some x) : E.take (i + 1) = E.take i ++ [x] := by
  rw [List.take_add_one, hx]
  rfl
/-- the points of a tile up to the i-th -/
structure StepOk (k : Ky) (P : List Pt) (i : Nat) : Prop where
  asc : (P.take i).Pairwise (fun p q => p.id < q.id)
  cell : ∀ p ∈ P.take i, cellK k.L.toNat p = k
theorem StepOk.zero (k : Ky) (P : List Pt) : StepOk k P 0 := ⟨by simp, fun p h => by simp at h⟩
theorem StepOk.done {k : Ky} {P : List Pt} (h : StepOk k P P.length) (h1 : keyB k.L k.x k.y k.z = true) (h2 : P ≠ []) (h3 : goodL P = true) : TlOk ⟨k, P⟩ :=
  ⟨h1, h2, h3, by have := h.asc; rwa [List.take_length] at this, by have := h.cell; rwa [List.take_length] at this⟩
end Go.Proofs.YtpfighhhemnhaaaGreat
namespace Go.Proofs.YtpfighhhemnhaaaGreat
open Go.RowKit

theorem idx_in (n : Int) (h : -268435456 ≤ n ∧ n ≤ 268435456) (l : Nat) (hl : l ≤ 12) : 0 ≤ idxV n l ∧ idxV n l ≤ powL (l : Int) - 1 := by
  match l, hl with
  | 0, _ | 1, _ | 2, _ | 3, _ | 4, _ | 5, _ | 6, _ | 7, _ | 8, _ | 9, _ | 10, _ | 11, _ | 12, _ =>
    simp [idxV, powL]
    omega
  | l + 13, h => omega
theorem cell_key (x y z : Int) (hx : -268435456 ≤ x ∧ x ≤ 268435456) (hy : -268435456 ≤ y ∧ y ≤ 268435456) (hz : -268435456 ≤ z ∧ z ≤ 268435456) (l : Nat) (hl : l ≤ 12) : keyB (l : Int) (idxV x l) (idxV y l) (idxV z l) = true := by
  have a := idx_in x hx l hl
  have b := idx_in y hy l hl
  have d := idx_in z hz l hl
  rw [keyB_good (by omega)]
  generalize powL (l : Int) = p at *
  simp [inB]
  omega
theorem ids_same {S : List Pt} (hS : GoodS S) {p q : Pt} (hp : p ∈ S) (hq : q ∈ S) (h : p.id = q.id) : p = q := by
  obtain ⟨i, hi, rfl⟩ := List.mem_iff_getElem.1 hp
  obtain ⟨j, hj, rfl⟩ := List.mem_iff_getElem.1 hq
  have hpw := List.pairwise_iff_getElem.1 hS.1
  rcases Nat.lt_trichotomy i j with g | g | g
  · exact absurd h (hpw i j hi hj g)
  · subst g; rfl
  · exact absurd h.symm (hpw j i hj hi g)
/-- a layout is a valid list of tiles -/
theorem IsLayout.ok {S : List Pt} {c : Nat} {E : List Te} (hg : goodL S = true) (h : IsLayout S c (E.map Te.tl)) : TlsOk (E.map Te.tl) := by
  obtain ⟨hS, hf, hl⟩ := goodL_facts hg
  have hok := ((goodL_iff S).1 hg).2.1
  have hlens := (h.lens hl).1
  refine ⟨fun t ht => ?_, h.order, ?_⟩
  · obtain ⟨hn, has⟩ := h.tiles.pts t ht
    have hmem := h.tiles.mem t ht
    have hlen : t.pts.length ≤ 1024 := by
      obtain ⟨e, he, rfl⟩ := List.mem_map.1 ht
      exact hlens e he
    refine ⟨?_, hn, ?_, has, ?_⟩
    · obtain ⟨p, hp⟩ := List.exists_mem_of_ne_nil _ hn
      obtain ⟨hpS, l, h1, _, _, hk⟩ := (hmem p).1 hp
      obtain ⟨_, hx, hy, hz⟩ := hf p hpS
      rw [hk]
      exact cell_key p.x p.y p.zl hx hy hz l h1
    · rw [goodL_iff]
      exact ⟨hlen, fun p hp => hok p ((hmem p).1 hp).1, has.imp (fun g => by omega)⟩
    · intro p hp
      obtain ⟨_, l, _, _, _, hk⟩ := (hmem p).1 hp
      rw [hk]
      show cellK ((l : Int).toNat) p = _
      rw [Int.toNat_natCast]
  · refine List.Pairwise.imp_of_mem ?_ h.tiles.keys
    intro a b ha hb hne p hp q hq he
    obtain ⟨h1, h2⟩ := (h.tiles.mem a ha p).1 hp
    obtain ⟨h3, h4⟩ := (h.tiles.mem b hb q).1 hq
    obtain rfl := ids_same hS h1 h3 he
    exact hne (isAt_un h2 h4)
end Go.Proofs.YtpfighhhemnhaaaGreat


