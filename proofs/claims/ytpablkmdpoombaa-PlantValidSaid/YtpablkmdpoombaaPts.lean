/- Texts of the seat Yteanlcefdoigcaa, turned to this one by wip/port.py: SortF Lay1 LayX. -/
import Derived.Test.YtpablkmdpoombaaFund
import Derived.Test.YtpablkmdpoombaaVal
import Derived.Shelf.SlSortCmp.NoneTotal
import Derived.BigQuiet
/- SortF -/
namespace Go.Proofs.Ytpablkmdpoombaa
open Go.RowKit Go.Sort Go.Lib Go.Shelf Go.Proofs

theorem wide_map {α : Type} {enc : α → List Value} {k : Nat} (hk : ∀ x, (enc x).length = k) (h1 : ∀ x, ∀ v ∈ enc x, v.oneCell' = true) (l : List α) : Wide k (l.map enc) := fun r hr => by
  obtain ⟨x, _, rfl⟩ := List.mem_map.1 hr
  exact ⟨hk x, h1 x⟩
theorem wide_len {α : Type} {enc : α → List Value} {k : Nat} (hk : ∀ x, (enc x).length = k) (l : List α) : ((l.map enc).flatten).length = l.length * k := by
  induction l with
  | nil => simp
  | cons a l ih => rw [List.map_cons, List.flatten_cons, List.length_append, ih, hk, List.length_cons, Nat.add_mul, Nat.one_mul, Nat.add_comm]
section
variable {α : Type} [Inhabited α] {enc : α → List Value} {k : Nat}
theorem flat_at (hk : ∀ x, (enc x).length = k) : ∀ (l : List α) (i j : Nat), i < l.length → j < k → (l.map enc).flatten[i * k + j]? = (enc l[i]!)[j]?
  | [], i, _, h, _ => by simp at h
  | a :: l, 0, j, _, hj => by
    rw [List.map_cons, List.flatten_cons, Nat.zero_mul, Nat.zero_add, List.getElem?_append_left (by rw [hk]; exact hj)]
    rfl
  | a :: l, i + 1, j, h, hj => by
    have e : (i + 1) * k + j = k + (i * k + j) := by rw [Nat.add_mul]; omega
    rw [List.map_cons, List.flatten_cons, e, List.getElem?_append_right (by rw [hk]; omega), hk, Nat.add_sub_cancel_left, flat_at hk l i j (by simpa using h) hj]
    rfl
theorem flatK_list (hk : ∀ x, (enc x).length = k) (d : Array α) : (flatK enc k d).toList = (d.toList.map enc).flatten := by
  refine List.ext_getElem? fun t => ?_
  by_cases ht : t < d.size * k
  · have k0 : 0 < k := by
      rcases Nat.eq_zero_or_pos k with h | h
      · subst h; simp at ht
      · exact h
    have hd : t / k < d.size := Nat.div_lt_of_lt_mul (by rw [Nat.mul_comm]; exact ht)
    have hm : t % k < k := Nat.mod_lt _ k0
    have e : t / k * k + t % k = t := by rw [Nat.mul_comm]; exact Nat.div_add_mod t k
    have h1 := flat_at hk d.toList (t / k) (t % k) (by simpa using hd) hm
    rw [e] at h1
    rw [h1, Array.getElem?_toList, Array.getElem?_eq_getElem (by simpa using ht)]
    have h2 := get_flatK enc k d t ht
    rw [getElem!_pos _ t (by simpa using ht)] at h2
    rw [h2]
    have h3 : d.toList[t / k]! = d[t / k]! := by
      rw [getElem!_pos d _ hd, getElem!_pos d.toList _ (by simpa using hd)]
      simp
    rw [h3, List.getElem?_eq_getElem (by rw [hk]; exact hm), getElem!_pos (enc d[t / k]!) _ (by rw [hk]; exact hm)]
  · rw [List.getElem?_eq_none (by simp; omega), List.getElem?_eq_none (by rw [wide_len hk]; simp; omega)]
theorem own_holds (hk : ∀ x, (enc x).length = k) {W : World} {base t g cap : Nat} {l : List α} (h : OwnR W base t k (.slice (some ⟨g, 0, none⟩) l.length cap) (l.map enc)) : HoldsK enc k W g 0 l.toArray := by
  intro j hj
  rw [size_flatK] at hj
  simp only [List.size_toArray] at hj
  have k0 : 0 < k := by
    rcases Nat.eq_zero_or_pos k with h | h
    · subst h; simp at hj
    · exact h
  have hl : 0 < l.length := by
    rcases Nat.eq_zero_or_pos l.length with h | h
    · rw [h] at hj; simp at hj
    · exact h
  obtain ⟨g', cap', cur, he, _, hc, hr, _⟩ := h.rows (by simpa using hl)
  injection he with he _ _
  injection he with he
  injection he with he _
  subst he
  have hd : j / k < l.length := Nat.div_lt_of_lt_mul (by rw [Nat.mul_comm]; exact hj)
  have hm : j % k < k := Nat.mod_lt _ k0
  have e : 0 + j / k * k + j % k = 0 + j := by rw [Nat.add_assoc]; congr 1; rw [Nat.mul_comm]; exact Nat.div_add_mod j k
  have h1 := hr (j / k) (enc l[j / k]) (by rw [List.getElem?_map, List.getElem?_eq_getElem hd]; rfl) (j % k) hm
  rw [e] at h1
  refine ⟨?_, ?_⟩
  · rw [h1]
    have h2 := get_flatK enc k l.toArray j (by simpa using hj)
    have h3 : l.toArray[j / k]! = l[j / k] := by rw [getElem!_pos _ _ (by simpa using hd)]; simp
    rw [h3] at h2
    show _ = some (id ((flatK enc k l.toArray)[j]!))
    rw [h2, List.getElem?_eq_getElem (by rw [hk]; exact hm), getElem!_pos _ _ (by rw [hk]; exact hm)]
    rfl
  · simp [World.frozen?, hc]
theorem put_take (F c : Array Value) (h : F.size ≤ c.size) : (putCells id 0 F c).toList.take F.size = F.toList := by
  refine List.ext_getElem? fun t => ?_
  by_cases ht : t < F.size
  · rw [List.getElem?_take_of_lt ht, Array.getElem?_toList, Array.getElem?_toList]
    unfold putCells
    rw [Array.getElem?_mapIdx, Array.getElem?_eq_getElem (by omega : t < c.size), Array.getElem?_eq_getElem ht]
    simp [ht]
  · rw [List.getElem?_eq_none (by simp; omega), List.getElem?_eq_none (by simp; omega)]
theorem sortWorldK_grownBy (W : World) (g n : Nat) (d : Array α) (os : Array Obj) : W.grownBy (sortWorldK enc k W g 0 n d os) (some g) := by
  refine ⟨rfl, rfl, rfl, ?_, fun j hj hne => ?_⟩
  · unfold sortWorldK
    rw [size_grow, size_putRowK]
    exact Nat.le_add_right _ _
  · unfold sortWorldK grow
    show ((putRowK enc k (Sort.ahead W n) g 0 d).heap ++ os)[j]? = _
    have hs : j < (putRowK enc k (Sort.ahead W n) g 0 d).heap.size := by rw [size_putRowK]; exact hj
    rw [Array.getElem?_append_left hs]
    show ((Sort.ahead W n).heap.modify g _)[j]? = _
    rw [Array.getElem?_modify, if_neg (fun e => hne (by rw [e]))]
    rfl
theorem sortWorldK_block {W : World} {g n t : Nat} {cur : Array Value} {d : Array α} {os : Array Obj} (h : W.heap[g]? = some (.cells cur t)) :
    (sortWorldK enc k W g 0 n d os).heap[g]? = some (.cells (putCells id 0 (flatK enc k d) cur) t) := by
  have hg : g < W.heap.size := (Array.getElem?_eq_some_iff.1 h).1
  unfold sortWorldK grow
  show ((putRowK enc k (Sort.ahead W n) g 0 d).heap ++ os)[g]? = _
  rw [Array.getElem?_append_left (by rw [size_putRowK]; exact hg)]
  show ((Sort.ahead W n).heap.modify g _)[g]? = _
  rw [Array.getElem?_modify, if_pos rfl, show (Sort.ahead W n).heap[g]? = some (.cells cur t) from h]
  rfl
theorem own_put (hk : ∀ x, (enc x).length = k) (h1 : ∀ x, ∀ v ∈ enc x, v.oneCell' = true) {W : World} {base t g cap n : Nat} {l : List α} {d : Array α} {os : Array Obj}
    (h : OwnR W base t k (.slice (some ⟨g, 0, none⟩) l.length cap) (l.map enc)) (hd : d.size = l.length) : OwnR (sortWorldK enc k W g 0 n d os) base t k (.slice (some ⟨g, 0, none⟩) l.length cap) (d.toList.map enc) := by
  refine ⟨wide_map hk h1 _, by rw [wide_len hk]; simp, ?_⟩
  rcases h.2.2 with ⟨h2, _⟩ | ⟨g', cap', cur, he, hB, hc, hle, hm, hcs, htk⟩
  · cases h2
  · simp only [List.length_map] at he hle htk
    injection he with he _ hcap
    injection he with he
    injection he with he _
    subst he hcap
    refine Or.inr ⟨g, cap, _, ?_, hB, sortWorldK_block hc, ?_, hm, ?_, ?_⟩
    · simp [hd]
    · simp; omega
    · unfold putCells
      simpa using hcs
    · have hf : (flatK enc k d).size = (d.toList.map enc).length * k := by simp
      rw [← hf, put_take _ _ (by rw [size_flatK, hcs, hd]; exact Nat.mul_le_mul_right k hle), flatK_list hk]
theorem perm_list {l : List α} {d : Array α} (h : PermIn 0 l.toArray.size l.toArray d) : d.toList.Perm l := by
  obtain ⟨h1, _, h3⟩ := h
  have e1 : d.extract 0 l.toArray.size = d := by rw [← h1]; exact Array.extract_size
  have e2 : l.toArray.extract 0 l.toArray.size = l.toArray := Array.extract_size
  rw [e1, e2] at h3
  simpa using h3
theorem sorted_list {lt : α → α → Bool} {d : Array α} {n : Nat} (hn : d.size = n) (h : SortedIn lt 0 n d) : d.toList.Pairwise (fun x y => lt y x = false) := by
  subst hn
  rw [List.pairwise_iff_getElem]
  intro i j hi hj hij
  have := h i j (Nat.zero_le _) hij (by simpa using hj)
  rw [getElem!_pos d j (by simpa using hj), getElem!_pos d i (by simpa using hi)] at this
  simpa using this
end
/-- SortFunc over rows of the call's own -/
theorem sort_own {P : Program} {ρ : Ren} {α : Type} [Inhabited α] (L : SlLaysF0.n6 P ρ) (k : Nat) (aE : ∀ w, (isAgg (ρ.t 24)).run P w = .ok true w) (zE : ∀ w, (Go.sizeOf (ρ.t 24)).run P w = .ok k w) (enc : α → List Value) (hk : ∀ x, (enc x).length = k)
    (h1 : ∀ x, ∀ v ∈ enc x, v.oneCell' = true) (cf : α → α → Int) (hO : SWO (ltOf cf)) (f : Nat) (cb : Array Value) (eg : ∀ args w, (callFunc f args).run P w = .ok (.enter f args) w)
    (hcmp : ∀ g size W, CmpLays P f cb enc k cf g 0 size W) (W : World) (base t : Nat) (v : Value) (l : List α) (h : OwnR W base t k v (l.map enc)) (hsz : l.length < 4611686018427387904) :
    Calls P (ρ.f 6) #[v, .func (.func f) #[] cb] W fun e w' => e = .returned (.tuple #[]) ∧ ∃ l' : List α, l'.Perm l ∧ l'.Pairwise (fun x y => ltOf cf y x = false) ∧ OwnR w' base t k v (l'.map enc) ∧ W.grownBy w' v.ownBlock := by
  by_cases hl : l.length = 0
  · obtain rfl := List.eq_nil_of_length_eq_zero hl
    obtain ⟨a, cap, rfl⟩ := h.slice
    refine (AnyF.slices_SortFunc_none L a cap _ W).mono ?_
    rintro e w' ⟨rfl, rfl⟩
    exact ⟨rfl, [], List.Perm.refl _, List.Pairwise.nil, h, ⟨rfl, rfl, rfl, Nat.le_refl _, fun _ _ _ => rfl⟩⟩
  · obtain ⟨g, cap, cur, rfl, _, hc, _⟩ := h.rows (by simp; omega)
    rw [List.length_map] at h ⊢
    have hcon := AnyQ.slices_SortFunc L k aE zE enc hk h1 cf hO f cb g 0 cap l.toArray W eg (hcmp g _ W) (own_holds hk h) (Array.getElem?_eq_some_iff.1 hc).1 (by simpa using hsz)
    rw [List.size_toArray] at hcon
    refine hcon.mono ?_
    rintro e w' ⟨rfl, d', n, os, hp, hs, rfl⟩
    have hd : d'.size = l.length := by have := hp.1; simpa using this
    refine ⟨rfl, d'.toList, perm_list (by simpa using hp), sorted_list hd hs, own_put hk h1 h hd, sortWorldK_grownBy W g n d' os⟩
end Go.Proofs.Ytpablkmdpoombaa
namespace Go.Proofs.Ytpablkmdpoombaa
open Go.Shelf
def sortPtL_ren : Go.Shelf.Ren := ⟨fun | 6 => 31 | 15 => 72 | 14 => 71 | 28 => 117 | 29 => 118 | 20 => 109 | 21 => 110 | 22 => 111 | 23 => 112 | 24 => 113 | 25 => 114 | 26 => 115 | 27 => 116 | 46 => 142 | 47 => 143 | 48 => 144 | 49 => 145 | 50 => 146 | 57 => 158 | n => n, fun | 22 => 22 | 24 => 78 | 25 => 81 | 3 => 3 | 39 => 32 | 0 => 0 | 53 => 121 | 55 => 125 | 4 => 4 | 46 => 144 | 45 => 143 | 50 => 148 | 5 => 5 | 9 => 9 | 66 => 168 | 70 => 172 | 76 => 183 | 77 => 184 | n => n, fun | n => n⟩
theorem sortPtL : Go.Proofs.SlLaysF0.n6 Try.prog sortPtL_ren := {
  mixed := by kernel_rfl
  f6 := ⟨Try.f31.name, by decide, Try.func31.trans (congrArg some (by kernel_rfl))⟩
  f14 := ⟨Try.f71.name, by decide, Try.func71.trans (congrArg some (by kernel_rfl))⟩
  f15 := Try.func72.trans (congrArg some (by kernel_rfl))
  f20 := ⟨Try.f109.name, by decide, Try.func109.trans (congrArg some (by kernel_rfl))⟩
  f21 := ⟨Try.f110.name, by decide, Try.func110.trans (congrArg some (by kernel_rfl))⟩
  f22 := ⟨Try.f111.name, by decide, Try.func111.trans (congrArg some (by kernel_rfl))⟩
  f23 := ⟨Try.f112.name, by decide, Try.func112.trans (congrArg some (by kernel_rfl))⟩
  f24 := ⟨Try.f113.name, by decide, Try.func113.trans (congrArg some (by kernel_rfl))⟩
  f25 := ⟨Try.f114.name, by decide, Try.func114.trans (congrArg some (by kernel_rfl))⟩
  f26 := ⟨Try.f115.name, by decide, Try.func115.trans (congrArg some (by kernel_rfl))⟩
  f27 := ⟨Try.f116.name, by decide, Try.func116.trans (congrArg some (by kernel_rfl))⟩
  f28 := Try.func117.trans (congrArg some (by kernel_rfl))
  f29 := Try.func118.trans (congrArg some (by kernel_rfl))
  f46 := ⟨Try.f142.name, by decide, Try.func142.trans (congrArg some (by kernel_rfl))⟩
  f47 := Try.func143.trans (congrArg some (by kernel_rfl))
  f48 := Try.func144.trans (congrArg some (by kernel_rfl))
  f49 := ⟨Try.f145.name, by decide, Try.func145.trans (congrArg some (by kernel_rfl))⟩
  f50 := ⟨Try.f146.name, by decide, Try.func146.trans (congrArg some (by kernel_rfl))⟩
  f57 := ⟨Try.f158.name, by decide, Try.func158.trans (congrArg some (by kernel_rfl))⟩
  t0 := Try.underlying0
  a0 := Try.isAgg0
  z0 := Try.sizeOf0
  v0 := Try.zeroValue0
  t3 := Try.underlying3
  a3 := Try.isAgg3
  z3 := Try.sizeOf3
  v3 := Try.zeroValue3
  t4 := Try.underlying4
  a4 := Try.isAgg4
  z4 := Try.sizeOf4
  v4 := Try.zeroValue4
  t5 := Try.underlying5
  a5 := Try.isAgg5
  z5 := Try.sizeOf5
  v5 := Try.zeroValue5
  t9 := Try.underlying9
  a9 := Try.isAgg9
  z9 := Try.sizeOf9
  v9 := Try.zeroValue9
  t22 := Try.underlying22
  a22 := Try.isAgg22
  z22 := Try.sizeOf22
  v22 := Try.zeroValue22
  t25 := Try.underlying81
  a25 := Try.isAgg81
  z25 := Try.sizeOf81
  v25 := Try.zeroValue81
  t39 := Try.underlying32
  a39 := Try.isAgg32
  z39 := Try.sizeOf32
  v39 := Try.zeroValue32
  t45 := Try.underlying143
  a45 := Try.isAgg143
  z45 := Try.sizeOf143
  v45 := Try.zeroValue143
  t46 := Try.underlying144
  a46 := Try.isAgg144
  z46 := Try.sizeOf144
  v46 := Try.zeroValue144
  t50 := Try.underlying148
  a50 := Try.isAgg148
  z50 := Try.sizeOf148
  v50 := Try.zeroValue148
  t53 := Try.underlying121
  a53 := Try.isAgg121
  z53 := Try.sizeOf121
  v53 := Try.zeroValue121
  t55 := Try.underlying125
  a55 := Try.isAgg125
  z55 := Try.sizeOf125
  v55 := Try.zeroValue125
  t66 := Try.underlying168
  a66 := Try.isAgg168
  z66 := Try.sizeOf168
  v66 := Try.zeroValue168
  t70 := Try.underlying172
  a70 := Try.isAgg172
  z70 := Try.sizeOf172
  v70 := Try.zeroValue172
  t76 := Try.underlying183
  a76 := Try.isAgg183
  z76 := Try.sizeOf183
  v76 := Try.zeroValue183
  t77 := Try.underlying184
  a77 := Try.isAgg184
  z77 := Try.sizeOf184
  v77 := Try.zeroValue184 }
end Go.Proofs.Ytpablkmdpoombaa
namespace Go.Proofs.Ytpablkmdpoombaa
open Go.RowKit Go.Sort Go.Lib Go.Shelf Go.Proofs

def Pt.row (p : Pt) : List Value := [.int .i64 p.id, .int .i64 p.x, .int .i64 p.y, .int .i64 p.zl, .int .i64 p.zh, .int .i64 p.wd, .int .i64 p.nm, .int .i64 p.of, .int .i64 p.cl]
theorem Pt.row_one (p : Pt) : ∀ v ∈ p.row, v.oneCell' = true := fun v hv => by
  simp [Pt.row] at hv
  rcases hv with rfl | rfl | rfl | rfl | rfl | rfl | rfl | rfl | rfl <;> rfl
theorem Pt.row_at (p : Pt) (j : Nat) (hj : j < 9) : p.row[j]? = some (.int .i64 (p.f j)) := by
  match j, hj with
  | 0, _ | 1, _ | 2, _ | 3, _ | 4, _ | 5, _ | 6, _ | 7, _ | 8, _ => rfl
def Ky.row (k : Ky) : List Value := [.int .i64 k.L, .int .i64 k.x, .int .i64 k.y, .int .i64 k.z]
/-- a world that has grown by draws and new blocks alone -/
def Grew (W X : World) : Prop := ∃ q os, X = grow (W.drewN q) os
theorem Grew.refl (W : World) : Grew W W := ⟨0, #[], by rw [grow_empty]; rfl⟩
theorem Grew.alloc {W X : World} (h : Grew W X) (o : Obj) : Grew W (X.alloc o) := by
  obtain ⟨q, os, rfl⟩ := h
  exact ⟨q, _, by rw [alloc_eq_grow, grow_grow]⟩
theorem Grew.drewN {W X : World} (h : Grew W X) (n : Nat) : Grew W (X.drewN n) := by
  obtain ⟨q, os, rfl⟩ := h
  exact ⟨q + n, os, by show grow ((W.drewN q).drewN n) os = _; rw [World.drewN_drewN]⟩
theorem Grew.trans {W X Y : World} (h : Grew W X) (h2 : Grew X Y) : Grew W Y := by
  obtain ⟨q, os, rfl⟩ := h
  obtain ⟨n, os', rfl⟩ := h2
  exact ⟨q + n, os ++ os', by show grow (grow ((W.drewN q).drewN n) os) os' = _; rw [grow_grow, World.drewN_drewN]⟩
def cmpI (p q : Pt) : Int := wrap64 (p.id - q.id)
set_option maxRecDepth 100000 in
theorem byId_any (p q : Pt) (W : World) : Calls Try.prog 99 #[.agg p.row.toArray, .agg q.row.toArray] W fun e w' => e = .returned (.int .i64 (cmpI p q)) ∧ Grew W w' := by
  have HV := hid (show cmpI p q = wrap64 (p.id - q.id) from rfl)
  unfold Pt.row
  generalize p.id = a at *
  generalize q.id = b at *
  go_enter Try.func99, Try.ntmps99
  go_wp2_with fail
  go_ret
  exact ⟨by rw [HV.out]; rfl, (by repeat' (first | exact Grew.refl _ | refine Grew.alloc ?_ _ | refine Grew.drewN ?_ _))⟩
def Ky.small (k : Ky) : Prop := (0 ≤ k.L ∧ k.L ≤ 12) ∧ (0 ≤ k.x ∧ k.x < 4096) ∧ (0 ≤ k.y ∧ k.y < 4096) ∧ (0 ≤ k.z ∧ k.z < 4096)
/-- a tile in memory: its key and the slice of its points -/
structure Te where
  key : Ky
  v : Value
  pts : List Pt
instance : Inhabited Te := ⟨⟨default, .slice none 0 0, []⟩⟩
def Te.row (e : Te) : List Value := e.key.row ++ [e.v]
def Te.tl (e : Te) : Tl := ⟨e.key, e.pts⟩
def Te.ok (e : Te) : Prop := e.key.small ∧ e.v.oneCell' = true
/-- points with an Id that is one; tiles with a key that is one -/
def PtG : Type := { p : Pt // 0 ≤ p.id ∧ p.id ≤ 1152921504606846976 }
def TeG : Type := { e : Te // e.ok }
instance : Inhabited PtG := ⟨⟨default, by decide⟩⟩
instance : Inhabited TeG := ⟨⟨default, ⟨by unfold Ky.small; decide, rfl⟩⟩⟩
theorem cmpI_lt (p q : PtG) : ltOf (fun x y : PtG => cmpI x.1 y.1) p q = decide (p.1.id < q.1.id) := by
  obtain ⟨p, hp⟩ := p
  obtain ⟨q, hq⟩ := q
  have e : cmpI p q = p.id - q.id := by unfold cmpI wrap64; omega
  show decide (cmpI p q < 0) = decide (p.id < q.id)
  rw [e]
  simp
  omega
theorem cmpI_swo : SWO (ltOf (fun x y : PtG => cmpI x.1 y.1)) where
  irrefl x := by rw [cmpI_lt]; simp
  trans x y z h1 h2 := by rw [cmpI_lt] at *; simp at *; omega
  ntrans x y z h1 h2 := by rw [cmpI_lt] at *; simp at *; omega
theorem pmap_val {α : Type} {p : α → Prop} : ∀ (l : List α) (h : ∀ a ∈ l, p a), (l.pmap (fun a ha => (⟨a, ha⟩ : { a : α // p a })) h).map (·.1) = l
  | [], _ => rfl
  | a :: l, h => by
    rw [List.pmap_cons, List.map_cons, pmap_val l]
theorem sortId_any (v : Value) (l : List Pt) (base : Nat) (W : World) (h : OwnR W base 78 9 v (l.map Pt.row)) (hn : l.length < 4611686018427387904) (hid : ∀ p ∈ l, 0 ≤ p.id ∧ p.id ≤ 1152921504606846976) :
    Calls Try.prog 31 #[v, .func (.func 99) #[] #[]] W fun e w' => e = .returned (.tuple #[]) ∧ ∃ l' : List Pt, l'.Perm l ∧ l'.Pairwise (fun p q => ¬ q.id < p.id) ∧ OwnR w' base 78 9 v (l'.map Pt.row) ∧ W.grownBy w' v.ownBlock := by
  obtain ⟨lg, hlg⟩ : ∃ lg : List PtG, lg.map (·.1) = l := ⟨_, pmap_val l hid⟩
  subst hlg
  rw [List.length_map] at hn
  have h' : OwnR W base 78 9 v (lg.map (fun p : PtG => p.1.row)) := by rw [List.map_map] at h; exact h
  have hc := sort_own sortPtL 9 Try.isAgg78 Try.sizeOf78 (fun p : PtG => p.1.row) (fun _ => rfl) (fun p => Pt.row_one p.1) (fun x y : PtG => cmpI x.1 y.1) cmpI_swo 99 #[] (enters_of Try.func99 (by kernel_rfl) rfl) (fun _ _ _ _ _ _ _ x y => byId_any x.1 y.1 _) W base 78 v lg h' hn
  refine Calls.mono (show Calls Try.prog 31 _ _ _ from hc) ?_
  rintro e w' ⟨rfl, l', h1, h2, h3, h4⟩
  refine ⟨rfl, l'.map (·.1), h1.map _, ?_, by rw [List.map_map]; exact h3, h4⟩
  rw [List.pairwise_map]
  refine h2.imp ?_
  intro a b hab
  rw [cmpI_lt] at hab
  simpa using hab
theorem Te.row_one (e : Te) (h : e.ok) : ∀ v ∈ e.row, v.oneCell' = true := fun v hv => by
  simp [Te.row, Ky.row] at hv
  rcases hv with rfl | rfl | rfl | rfl | rfl
  · rfl
  · rfl
  · rfl
  · rfl
  · exact h.2
end Go.Proofs.Ytpablkmdpoombaa

/- Lay1 -/
namespace Go.Proofs.Ytpablkmdpoombaa
open Go.RowKit Go.Maps

theorem law39 : Keyed Try.prog 109 := Keyed.of_law (deep_law_laid (by kernel_rfl) (m := 2) (by omega) (of_decide_eq_true (by kernel_rfl)) (by kernel_rfl) (by kernel_rfl))
theorem RowsAt.one {W : World} {g sz : Nat} {C : Array Value} {t : TypeId} {fr : Nat × Nat} (h : W.heap[g]? = some (.cells C t fr)) : RowsAt W g 0 sz [C.toList] := fun i r hi j hj => by
  cases i with
  | zero =>
    simp at hi
    subst hi
    rw [cell_row h]
    simp only [Nat.zero_mul, Nat.zero_add]
    exact Array.getElem?_toList.symm
  | succ i => simp at hi
theorem RowsAt.kept {W W' : World} {b off sz : Nat} {l : List (List Value)} {row : Option Nat} (h : RowsAt W b off sz l) (hg : W.grownBy W' row) (hne : some b ≠ row) (hb : b < W.heap.size) : RowsAt W' b off sz l := fun i r hi j hj => by
  rw [World.cell?_of_block (w := W) (hg.block b hb hne)]
  exact h i r hi j hj
end Go.Proofs.Ytpablkmdpoombaa
namespace Go.Proofs.Ytpablkmdpoombaa
open Go.RowKit

end Go.Proofs.Ytpablkmdpoombaa

/- LayX -/
namespace Go.Proofs.Ytpablkmdpoombaa
open Go.RowKit Go.Maps

theorem cells3 : Try.prog.cellsOf 3 = 1 := by kernel_rfl
end Go.Proofs.Ytpablkmdpoombaa
namespace Go.Proofs.Ytpablkmdpoombaa
open Go.RowKit Go.Maps

/-- W' is W but for new blocks and for the blocks of T -/
structure Turned (W W' : World) (T : Nat → Prop) : Prop where
  os : W'.os = W.os
  tape : W'.tape = W.tape
  output : W'.output = W.output
  size : W.heap.size ≤ W'.heap.size
  block : ∀ k, k < W.heap.size → ¬ T k → W'.heap[k]? = W.heap[k]?
theorem Turned.refl (W : World) (T : Nat → Prop) : Turned W W T := ⟨rfl, rfl, rfl, Nat.le_refl _, fun _ _ _ => rfl⟩
theorem Turned.trans {W W1 W2 : World} {T T' : Nat → Prop} (h : Turned W W1 T) (h2 : Turned W1 W2 T') (ht : ∀ k, k < W.heap.size → T' k → T k) : Turned W W2 T :=
  ⟨h2.os.trans h.os, h2.tape.trans h.tape, h2.output.trans h.output, Nat.le_trans h.size h2.size, fun k hk hn => (h2.block k (Nat.lt_of_lt_of_le hk h.size) (fun e => hn (ht k hk e))).trans (h.block k hk hn)⟩
theorem Turned.below {w W W' : World} {T : Nat → Prop} {B : Nat} (h : Turned W W' T) (hb : Below B w W) (hB : B ≤ W.heap.size) (ht : ∀ k, T k → B ≤ k) : Below B w W' :=
  ⟨h.os.trans hb.os, h.tape.trans hb.tape, h.output.trans hb.output, Nat.le_trans hb.size h.size, fun k hk => (h.block k (Nat.lt_of_lt_of_le hk hB) (fun e => by have := ht k e; omega)).trans (hb.block k hk)⟩
section
variable {W W' : World} {base t sz : Nat} {v : Value} {l : List (List Value)}
theorem OwnR.turned {T : Nat → Prop} (h : OwnR W base t sz v l) (ht : Turned W W' T) (hne : ∀ b, v.ownBlock = some b → ¬ T b) : OwnR W' base t sz v l := by
  refine ⟨h.1, h.2.1, ?_⟩
  rcases h.2.2 with h1 | ⟨g, cap, cur, h1, hb, h2, h3⟩
  · exact Or.inl h1
  · refine Or.inr ⟨g, cap, cur, h1, hb, ?_, h3⟩
    rw [ht.block g (Array.getElem?_eq_some_iff.1 h2).1 (hne g (by rw [h1]; rfl))]
    exact h2
theorem OwnR.lt (h : OwnR W base t sz v l) {g : Nat} (hg : v.ownBlock = some g) : g < W.heap.size := by
  rcases h.2.2 with ⟨h1, _⟩ | ⟨g', cap, cur, h1, hb, h2, h3⟩
  · rw [h1] at hg; cases hg
  · rw [h1] at hg
    injection hg with hg
    subst hg
    exact (Array.getElem?_eq_some_iff.1 h2).1
end
/-- a slice of points of the call's own, from a block on -/
def OwnP (W : World) (base : Nat) (v : Value) (l : List Pt) : Prop := OwnR W base 78 9 v (l.map Pt.row)
theorem OwnP.cells {W : World} {base : Nat} {v : Value} {l : List Pt} (h : OwnP W base v l) (hn : 0 < l.length) : ∃ g cap, v = .slice (some ⟨g, 0, none⟩) l.length cap ∧ base ≤ g ∧ g < W.heap.size ∧ ∀ i p, l[i]? = some p → ∀ j, j < 9 → W.cell? ⟨g, i * 9 + j, none⟩ = some (.int .i64 (p.f j)) := by
  obtain ⟨g, cap, cur, h1, hb, h2, h3, _⟩ := OwnR.rows h (by simpa using hn)
  rw [List.length_map] at h1
  refine ⟨g, cap, h1, hb, (Array.getElem?_eq_some_iff.1 h2).1, fun i p hi j hj => ?_⟩
  have := h3 i p.row (by rw [List.getElem?_map, hi]; rfl) j hj
  rw [Nat.zero_add, Pt.row_at p j hj] at this
  exact this
theorem OwnP.slice {W : World} {base : Nat} {v : Value} {l : List Pt} (h : OwnP W base v l) : ∃ a cap, v = .slice a l.length cap := by
  have := OwnR.slice h
  rwa [List.length_map] at this
/-- the coordinates of a point are within bounds -/
def Pt.fine (p : Pt) : Prop := (0 ≤ p.id ∧ p.id ≤ 1152921504606846976) ∧ (-268435456 ≤ p.x ∧ p.x ≤ 268435456) ∧ (-268435456 ≤ p.y ∧ p.y ≤ 268435456) ∧ (-268435456 ≤ p.zl ∧ p.zl ≤ 268435456)
theorem idxV_bd (n : Int) (h : -268435456 ≤ n ∧ n ≤ 268435456) (l : Nat) (hl : l ≤ 12) : 0 ≤ idxV n l ∧ idxV n l < 4096 := by
  match l, hl with
  | 0, _ | 1, _ | 2, _ | 3, _ | 4, _ | 5, _ | 6, _ | 7, _ | 8, _ | 9, _ | 10, _ | 11, _ | 12, _ =>
    simp [idxV]
    omega
theorem cellK_small {p : Pt} (h : p.fine) {l : Nat} (hl : l ≤ 12) : (cellK l p).small :=
  ⟨⟨by show (0 : Int) ≤ (l : Int); omega, by show (l : Int) ≤ 12; omega⟩, idxV_bd _ h.2.1 l hl, idxV_bd _ h.2.2.1 l hl, idxV_bd _ h.2.2.2 l hl⟩
end Go.Proofs.Ytpablkmdpoombaa
namespace Go.Proofs.Ytpablkmdpoombaa
open Go.RowKit Go.Maps

end Go.Proofs.Ytpablkmdpoombaa
namespace Go.Proofs.Ytpablkmdpoombaa
open Go.RowKit Go.Maps

/-- tiles in memory of the call's own -/
def TilesIn (W : World) (base : Nat) (v : Value) (E : List Te) : Prop := OwnR W base 111 5 v (E.map Te.row) ∧ ∀ e ∈ E, OwnP W base e.v e.pts
/-- what has been laid above a level -/
def above (S : List Pt) (c : Nat) (l : Nat) : Pt → Ky → Prop := fun p k => p ∈ S ∧ isAt S c p k ∧ k.L < l
end Go.Proofs.Ytpablkmdpoombaa
namespace Go.Proofs.Ytpablkmdpoombaa
open Go.RowKit Go.Maps

theorem OwnR.grow' {W W' : World} {base t sz : Nat} {v : Value} {l : List (List Value)} (h : OwnR W base t sz v l) (hb : Below W.heap.size W W') : OwnR W' base t sz v l := h.grow hb
end Go.Proofs.Ytpablkmdpoombaa
namespace Go.Proofs.Ytpablkmdpoombaa
open Go.RowKit Go.Maps Go.Sort

/-- a slice of points, as it lies in memory -/
def PtsV (W : World) (v : Value) (l : List Pt) : Prop := ∃ a cap, v = .slice a l.length cap ∧ (l = [] ∨ ∃ b off, a = some ⟨b, off, none⟩ ∧ b < W.heap.size ∧ RowsAt W b off 9 (l.map Pt.row))
theorem PtsV.still {W W' : World} {v : Value} {l : List Pt} (h : PtsV W v l) (hb : Below W.heap.size W W') : PtsV W' v l := by
  obtain ⟨a, cap, h1, h2⟩ := h
  refine ⟨a, cap, h1, ?_⟩
  rcases h2 with h2 | ⟨b, off, h3, h4, h5⟩
  · exact Or.inl h2
  · exact Or.inr ⟨b, off, h3, Nat.lt_of_lt_of_le h4 hb.size, h5.still hb h4⟩
theorem PtsV.below {B : Nat} {W W' : World} {v : Value} {l : List Pt} (h : PtsV W v l) (hb : Below B W W') (hB : B = W.heap.size := by rfl) : PtsV W' v l := by
  subst hB
  exact h.still hb
/-- a slice of tiles, as it lies in memory -/
def TilesV (W : World) (v : Value) (E : List Te) : Prop := (∃ a cap, v = .slice a E.length cap ∧ (E = [] ∨ ∃ b off, a = some ⟨b, off, none⟩ ∧ b < W.heap.size ∧ RowsAt W b off 5 (E.map Te.row))) ∧ ∀ e ∈ E, PtsV W e.v e.pts
theorem TilesV.still {W W' : World} {v : Value} {E : List Te} (h : TilesV W v E) (hb : Below W.heap.size W W') : TilesV W' v E := by
  obtain ⟨⟨a, cap, h1, h2⟩, h6⟩ := h
  refine ⟨⟨a, cap, h1, ?_⟩, fun e he => (h6 e he).still hb⟩
  rcases h2 with h2 | ⟨b, off, h3, h4, h5⟩
  · exact Or.inl h2
  · exact Or.inr ⟨b, off, h3, Nat.lt_of_lt_of_le h4 hb.size, h5.still hb h4⟩
theorem flat36e : flatOf Try.prog 10 78 = some [some .i64, some .i64, some .i64, some .i64, some .i64, some .i64, some .i64, some .i64, some .i64] := by kernel_rfl
theorem eq36s (a b c d e f g h i : Int) (W : World) : (Op.equalIn 10000 78 (.agg #[.int .i64 a, .int .i64 b, .int .i64 c, .int .i64 d, .int .i64 e, .int .i64 f, .int .i64 g, .int .i64 h, .int .i64 i]) (.agg #[.int .i64 a, .int .i64 b, .int .i64 c, .int .i64 d, .int .i64 e, .int .i64 f, .int .i64 g, .int .i64 h, .int .i64 i])).run Try.prog W = .ok true W := by
  have h := equal_struct Try.underlying78 flat36e [.int .i64 a, .int .i64 b, .int .i64 c, .int .i64 d, .int .i64 e, .int .i64 f, .int .i64 g, .int .i64 h, .int .i64 i] [.int .i64 a, .int .i64 b, .int .i64 c, .int .i64 d, .int .i64 e, .int .i64 f, .int .i64 g, .int .i64 h, .int .i64 i] rfl rfl W
  rw [sameL_refl (ks := [some .i64, some .i64, some .i64, some .i64, some .i64, some .i64, some .i64, some .i64, some .i64]) rfl] at h
  exact h
set_option maxRecDepth 100000 in
set_option maxHeartbeats 1600000 in
theorem same_pts (va vb : Value) (l : List Pt) (w : World) (ha : PtsV w va l) (hb : PtsV w vb l) (hn : l.length ≤ 4096) :
    Calls Try.prog 13 #[va, vb] w fun e w' => e = .returned (.bool true) ∧ Below w.heap.size w w' := by
  obtain ⟨aa, ca, rfl, ha2⟩ := ha
  obtain ⟨ab, cb, rfl, hb2⟩ := hb
  obtain ⟨n, hnl⟩ : ∃ n, n = l.length := ⟨_, rfl⟩
  rw [← hnl] at hn ⊢
  by_cases hl : l = []
  · subst hl
    obtain rfl : n = 0 := hnl
    clear ha2 hb2
    go_enter Try.func13, Try.ntmps13
    go_wp2_with fail
    refine wp_loop_rounds 1 ?_
    rw [rounds_succ]
    go_wp2_with fail
    go_ret
    exact ⟨rfl, by (repeat' (first | (with_reducible exact Below.refl _ _) | (with_reducible assumption) | (with_reducible refine Below.alloc ?_ ?_ _) | (with_reducible refine Below.drew ?_) | (with_reducible refine below_drewN ?_ _) | (with_reducible refine Below.setCell ?_ ?_ _) | (with_reducible refine below_setRow ?_ ?_ _) | go_size))⟩
  · obtain ⟨b1, o1, rfl, hb1, hr1⟩ := ha2.resolve_left hl
    obtain ⟨b2, o2, rfl, hb2', hr2⟩ := hb2.resolve_left hl
    have H1 := hid hr1
    have H2 := hid hr2
    have HNL := hid hnl

    clear ha2 hb2 hl hr1 hr2 hnl
    have heq := eq36s
    go_enter Try.func13, Try.ntmps13
    go_wp2_with fail
    go_loopw [13] (fun iv W => ∃ k : Nat, k ≤ n ∧ iv = .int .i64 (k : Int) ∧ Below w.heap.size w W) (fun iv _ => n - (intOf iv).toNat)
    case atStart => exact ⟨0, by omega, rfl, Below.refl _ _⟩
    case round =>
      obtain ⟨k, hk, rfl, hB⟩ := hrel
      have HBW := hid hB
      have hzw := hB.size
      by_cases hlt : k < n
      · obtain ⟨p, hp⟩ : ∃ p, l[k]? = some p := ⟨_, List.getElem?_eq_getElem (by rw [← HNL.out]; exact hlt)⟩
        have hc1 : ∀ j, j < 9 → wr.cell? ⟨b1, o1 + k * 9 + j, none⟩ = some (.int .i64 (p.f j)) := fun j hj => by
          rw [hB.cell hb1, H1.out k p.row (by rw [List.getElem?_map, hp]; rfl) j hj, Pt.row_at p j hj]
        have hc2 : ∀ j, j < 9 → wr.cell? ⟨b2, o2 + k * 9 + j, none⟩ = some (.int .i64 (p.f j)) := fun j hj => by
          rw [hB.cell hb2', H2.out k p.row (by rw [List.getElem?_map, hp]; rfl) j hj, Pt.row_at p j hj]
        obtain ⟨p0, p1, p2, p3, p4, p5, p6, p7, p8⟩ := p
        have d3 : decide ((k : Int) < (n : Int)) = true := decide_eq_true (by omega)
        have hk0 : (0 : Int) ≤ (k : Int) := by omega
        have a0 := fun d os => cell_regrown (show wr.cell? ⟨b1, o1 + k * 9, none⟩ = some (.int .i64 p0) from hc1 0 (by decide)) d os
        have a1 := fun d os => cell_regrown (show wr.cell? ⟨b1, o1 + k * 9 + 1, none⟩ = some (.int .i64 p1) from hc1 1 (by decide)) d os
        have a2 := fun d os => cell_regrown (show wr.cell? ⟨b1, o1 + k * 9 + 2, none⟩ = some (.int .i64 p2) from hc1 2 (by decide)) d os
        have a3 := fun d os => cell_regrown (show wr.cell? ⟨b1, o1 + k * 9 + 3, none⟩ = some (.int .i64 p3) from hc1 3 (by decide)) d os
        have a4 := fun d os => cell_regrown (show wr.cell? ⟨b1, o1 + k * 9 + 4, none⟩ = some (.int .i64 p4) from hc1 4 (by decide)) d os
        have a5 := fun d os => cell_regrown (show wr.cell? ⟨b1, o1 + k * 9 + 5, none⟩ = some (.int .i64 p5) from hc1 5 (by decide)) d os
        have a6 := fun d os => cell_regrown (show wr.cell? ⟨b1, o1 + k * 9 + 6, none⟩ = some (.int .i64 p6) from hc1 6 (by decide)) d os
        have a7 := fun d os => cell_regrown (show wr.cell? ⟨b1, o1 + k * 9 + 7, none⟩ = some (.int .i64 p7) from hc1 7 (by decide)) d os
        have a8 := fun d os => cell_regrown (show wr.cell? ⟨b1, o1 + k * 9 + 8, none⟩ = some (.int .i64 p8) from hc1 8 (by decide)) d os
        have b0 := fun d os => cell_regrown (show wr.cell? ⟨b2, o2 + k * 9, none⟩ = some (.int .i64 p0) from hc2 0 (by decide)) d os
        have b1' := fun d os => cell_regrown (show wr.cell? ⟨b2, o2 + k * 9 + 1, none⟩ = some (.int .i64 p1) from hc2 1 (by decide)) d os
        have b2' := fun d os => cell_regrown (show wr.cell? ⟨b2, o2 + k * 9 + 2, none⟩ = some (.int .i64 p2) from hc2 2 (by decide)) d os
        have b3 := fun d os => cell_regrown (show wr.cell? ⟨b2, o2 + k * 9 + 3, none⟩ = some (.int .i64 p3) from hc2 3 (by decide)) d os
        have b4 := fun d os => cell_regrown (show wr.cell? ⟨b2, o2 + k * 9 + 4, none⟩ = some (.int .i64 p4) from hc2 4 (by decide)) d os
        have b5 := fun d os => cell_regrown (show wr.cell? ⟨b2, o2 + k * 9 + 5, none⟩ = some (.int .i64 p5) from hc2 5 (by decide)) d os
        have b6 := fun d os => cell_regrown (show wr.cell? ⟨b2, o2 + k * 9 + 6, none⟩ = some (.int .i64 p6) from hc2 6 (by decide)) d os
        have b7 := fun d os => cell_regrown (show wr.cell? ⟨b2, o2 + k * 9 + 7, none⟩ = some (.int .i64 p7) from hc2 7 (by decide)) d os
        have b8 := fun d os => cell_regrown (show wr.cell? ⟨b2, o2 + k * 9 + 8, none⟩ = some (.int .i64 p8) from hc2 8 (by decide)) d os
        clear hB hc1 hc2 hp
        go_wp2_with fail
        refine wp_region_quiet_below (by kernel_rfl) (by kernel_rfl) ?_
        repeat (first | go_big_quiet_step (fail) | quiet_step (fail))
        refine wpQuiet_nil ?_
        intro _ hw'
        obtain ⟨⟨dq, osq⟩, hw2⟩ := hw'
        subst hw2
        have HB3 := hid (HBW.out.trans ((below_regrown wr dq osq).mono hzw))
        clear a0 a1 a2 a3 a4 a5 a6 a7 a8 b0 b1' b2' b3 b4 b5 b6 b7 b8
        go_wp2_with fail
        exact ⟨⟨k + 1, by omega, by go_num, HB3.out⟩, by simp [intOf]; omega⟩
      · obtain rfl : k = n := by omega
        have d3 : decide ((k : Int) < (k : Int)) = false := by simp
        clear hB
        go_wp2_with fail
        go_ret
        exact ⟨rfl, HBW.out⟩
end Go.Proofs.Ytpablkmdpoombaa
namespace Go.Proofs.Ytpablkmdpoombaa
open Go.RowKit Go.Maps

def goodL (S : List Pt) : Bool := goodV (fun i j => (S[i]!).f j) S.length
def okP (p : Pt) : Bool := inB 0 255 p.cl && pointB p.id p.x p.y p.zl p.zh p.wd p.nm p.of
theorem goodL_iff (S : List Pt) : goodL S = true ↔ S.length ≤ 1024 ∧ (∀ p ∈ S, okP p = true) ∧ S.Pairwise (fun p q => p.id ≠ q.id) := by
  unfold goodL goodV validV
  simp only [Bool.and_eq_true, allN_iff, decide_eq_true_eq]
  have hf : ∀ i (h : i < S.length), S[i]! = S[i] := fun i h => getElem!_pos S i h
  constructor
  · rintro ⟨h1, h2, h3⟩
    refine ⟨h2, fun p hp => ?_, ?_⟩
    · obtain ⟨i, hi, rfl⟩ := List.mem_iff_getElem.1 hp
      have a1 := h1 i hi
      have a2 := h3 i hi
      unfold clsB at a1
      unfold newB ptB at a2
      simp only [hf i hi, Bool.and_eq_true] at a1 a2
      unfold okP
      rw [Bool.and_eq_true]
      exact ⟨a1, a2.1⟩
    · rw [List.pairwise_iff_getElem]
      intro i j hi hj hij e
      have a2 := h3 j hj
      unfold newB at a2
      simp only [Bool.and_eq_true, Bool.not_eq_true', List.any_eq_false] at a2
      have := a2.2 i (List.mem_range.2 hij)
      simp only [hf i hi, hf j hj] at this
      exact this (by simp [Pt.f, e])
  · rintro ⟨h1, h2, h3⟩
    refine ⟨fun i hi => ?_, h1, fun i hi => ?_⟩
    · have a := h2 S[i] (List.getElem_mem hi)
      unfold okP at a
      rw [Bool.and_eq_true] at a
      simp only [clsB, hf i hi]
      exact a.1
    · have a := h2 S[i] (List.getElem_mem hi)
      unfold okP at a
      rw [Bool.and_eq_true] at a
      simp only [newB, ptB, hf i hi, Bool.and_eq_true, Bool.not_eq_true', List.any_eq_false]
      refine ⟨a.2, fun j hj => ?_⟩
      have hji := List.mem_range.1 hj
      simp only [hf j (by omega)]
      have := List.pairwise_iff_getElem.1 h3 j i (by omega) hi hji
      simpa [Pt.f] using this
theorem goodL_perm {S S' : List Pt} (h : S.Perm S') (hg : goodL S = true) : goodL S' = true := by
  rw [goodL_iff] at *
  obtain ⟨h1, h2, h3⟩ := hg
  exact ⟨by rw [← h.length_eq]; exact h1, fun p hp => h2 p (h.mem_iff.2 hp), (h.pairwise_iff (fun {_ _} e => Ne.symm e)).1 h3⟩
theorem okP_fine {p : Pt} (h : okP p = true) : p.fine := by
  unfold okP at h
  have h1 := point_coords (cl := p.cl) (show (pointB p.id p.x p.y p.zl p.zh p.wd p.nm p.of && inB 0 255 p.cl) = true by rw [Bool.and_comm]; exact h)
  rw [Bool.and_eq_true] at h
  have h2 := @pointB_id p.f h.2
  exact ⟨h2, h1⟩
theorem goodL_facts {S : List Pt} (h : goodL S = true) : GoodS S ∧ (∀ p ∈ S, p.fine) ∧ S.length ≤ 1024 := by
  rw [goodL_iff] at h
  obtain ⟨h1, h2, h3⟩ := h
  exact ⟨⟨h3, fun p hp => (okP_fine (h2 p hp)).1⟩, fun p hp => okP_fine (h2 p hp), h1⟩
theorem rows_recs {W : World} {b off : Nat} {S : List Pt} (h : RowsAt W b off 9 (S.map Pt.row)) : recs9 W b off S.length (fun i j => (S[i]!).f j) := fun i hi j hj => by
  have := h i (S[i]!).row (by rw [List.getElem?_map, List.getElem?_eq_getElem hi, getElem!_pos S i hi]; rfl) j hj
  rw [Pt.row_at _ j hj] at this
  exact this
theorem good_list (pv : Value) (S : List Pt) (w : World) (hp : PtsV w pv S) (hn : S.length ≤ maxLen) : Calls Try.prog 150 #[pv] w fun r w' => r = .returned (.bool (goodL S)) ∧ Below w.heap.size w w' := by
  obtain ⟨a, cap, rfl, h⟩ := hp
  by_cases hl : S = []
  · subst hl
    exact good_none a cap w
  · obtain ⟨b, off, rfl, hb, hr⟩ := h.resolve_left hl
    exact good_any b off S.length cap _ w (List.length_pos_iff.2 hl) hn hb (rows_recs hr)
theorem rvalid_list (pv : Value) (S : List Pt) (w : World) (hp : PtsV w pv S) : Calls Try.prog 38 #[pv] w fun r w' => r = .returned (.bool (goodL S)) ∧ Below w.heap.size w w' := by
  obtain ⟨a, cap, rfl, h⟩ := hp
  by_cases hl : S = []
  · subst hl
    exact rValid_none a cap w
  · obtain ⟨b, off, rfl, hb, hr⟩ := h.resolve_left hl
    exact rValid_any b off S.length cap _ w (List.length_pos_iff.2 hl) hb (rows_recs hr)
/-- different lists within one: no more than it has members -/
theorem sub_len {α : Type} [DecidableEq α] : ∀ {l m : List α}, l.Pairwise (· ≠ ·) → (∀ a ∈ l, a ∈ m) → l.length ≤ m.length
  | [], _, _, _ => Nat.zero_le _
  | a :: l, m, hd, hs => by
    obtain ⟨h1, h2⟩ := List.pairwise_cons.1 hd
    have ha := hs a (List.mem_cons_self ..)
    have := sub_len (m := m.erase a) h2 (fun b hb => (List.mem_erase_of_ne (Ne.symm (h1 b hb))).2 (hs b (List.mem_cons_of_mem _ hb)))
    rw [List.length_erase_of_mem ha] at this
    have hp : 0 < m.length := List.length_pos_of_mem ha
    simp
    omega
theorem IsLayout.lens {S : List Pt} {c : Nat} {E : List Te} (h : IsLayout S c (E.map Te.tl)) (hl : S.length ≤ 1024) : (∀ e ∈ E, e.pts.length ≤ 1024) ∧ E.length ≤ 1024 := by
  refine ⟨fun e he => ?_, ?_⟩
  · have hm : e.tl ∈ E.map Te.tl := List.mem_map.2 ⟨e, he, rfl⟩
    have h1 := (h.tiles.pts e.tl hm).2
    have h2 : ∀ i ∈ e.pts.map Pt.id, i ∈ S.map Pt.id := fun i hi => by
      obtain ⟨p, hp, rfl⟩ := List.mem_map.1 hi
      exact List.mem_map.2 ⟨p, ((h.tiles.mem e.tl hm p).1 hp).1, rfl⟩
    have h3 := sub_len (l := e.pts.map Pt.id) (m := S.map Pt.id) (by rw [List.pairwise_map]; exact h1.imp (fun h => by omega)) h2
    simp at h3
    omega
  · have hne : ∀ e ∈ E, e.pts ≠ [] := fun e he => (h.tiles.pts e.tl (List.mem_map.2 ⟨e, he, rfl⟩)).1
    have hhd : ∀ e ∈ E, (e.pts.headD default) ∈ e.pts := fun e he => by
      cases hp : e.pts with
      | nil => exact absurd hp (hne e he)
      | cons p l => simp
    have hin : ∀ e ∈ E, (e.pts.headD default) ∈ S ∧ isAt S c (e.pts.headD default) e.key := fun e he => (h.tiles.mem e.tl (List.mem_map.2 ⟨e, he, rfl⟩) _).1 (hhd e he)
    have h2 : ∀ i ∈ E.map (fun e => e.key), i ∈ S.map (fun p => Classical.choose (isAt_ex S c p)) := fun i hi => by
      obtain ⟨e, he, rfl⟩ := List.mem_map.1 hi
      obtain ⟨h3, h4⟩ := hin e he
      exact List.mem_map.2 ⟨_, h3, isAt_un (Classical.choose_spec (isAt_ex S c _)) h4⟩
    have hk := h.tiles.keys
    rw [List.pairwise_map] at hk
    have h3 := sub_len (l := E.map (fun e => e.key)) (by rw [List.pairwise_map]; exact hk) h2
    simp at h3
    omega
end Go.Proofs.Ytpablkmdpoombaa

