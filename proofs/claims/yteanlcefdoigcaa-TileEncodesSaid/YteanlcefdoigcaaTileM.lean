/- Valid lists of tiles in plain Lean: what makes a tile and a list of tiles valid, the points up to a level, and that a layout is a valid list, in which a tile above another one is full. -/
import Derived.Test.YteanlcefdoigcaaRLay
namespace Go.Proofs.Yteanlcefdoigcaa
open Go.RowKit

structure TlOk (t : Tl) : Prop where
  key : keyB t.key.L t.key.x t.key.y t.key.z = true
  ne : t.pts ≠ []
  good : goodL t.pts = true
  asc : t.pts.Pairwise (fun p q => p.id < q.id)
  cell : ∀ p ∈ t.pts, cellK t.key.L.toNat p = t.key
structure TlsOk (T : List Tl) : Prop where
  all : ∀ t ∈ T, TlOk t
  order : T.Pairwise (fun a b => a.key.lt b.key)
  apart : T.Pairwise (fun a b => ∀ p ∈ a.pts, ∀ q ∈ b.pts, p.id ≠ q.id)
instance (t : Tl) : Decidable (TlOk t) :=
  decidable_of_iff (keyB t.key.L t.key.x t.key.y t.key.z = true ∧ 0 < t.pts.length ∧ goodL t.pts = true ∧ t.pts.Pairwise (fun p q => p.id < q.id) ∧ ∀ p ∈ t.pts, cellK t.key.L.toNat p = t.key)
    ⟨fun ⟨h1, h2, h3, h4, h5⟩ => ⟨h1, List.length_pos_iff.1 h2, h3, h4, h5⟩, fun h => ⟨h.key, List.length_pos_iff.2 h.ne, h.good, h.asc, h.cell⟩⟩
instance (T : List Tl) : Decidable (TlsOk T) :=
  decidable_of_iff ((∀ t ∈ T, TlOk t) ∧ T.Pairwise (fun a b => a.key.lt b.key) ∧ T.Pairwise (fun a b => ∀ p ∈ a.pts, ∀ q ∈ b.pts, p.id ≠ q.id))
    ⟨fun ⟨h1, h2, h3⟩ => ⟨h1, h2, h3⟩, fun h => ⟨h.all, h.order, h.apart⟩⟩
theorem TlsOk.nil : TlsOk [] := ⟨fun t h => by simp at h, List.Pairwise.nil, List.Pairwise.nil⟩
theorem take_next {α : Type} {E : List α} {i : Nat} {x : α} (hx : E[i]? = some x) : E.take (i + 1) = E.take i ++ [x] := by
  rw [List.take_add_one, hx]
  rfl
theorem mem_take {α : Type} {E : List α} {i : Nat} {a : α} (h : a ∈ E.take i) : ∃ j, j < i ∧ E[j]? = some a := by
  obtain ⟨j, hj', e⟩ := List.mem_iff_getElem.1 h
  have hj := hj'
  rw [List.length_take, Nat.lt_min] at hj
  rw [List.getElem_take] at e
  exact ⟨j, hj.1, by rw [List.getElem?_eq_getElem hj.2, e]⟩
theorem pw_next {α : Type} {r : α → α → Prop} (tr : ∀ a b c, r a b → r b c → r a c) {E : List α} {i : Nat} {x : α} (h : (E.take i).Pairwise r) (hx : E[i]? = some x)
    (hp : ∀ a, 0 < i → E[i - 1]? = some a → r a x) : (E.take (i + 1)).Pairwise r := by
  rw [take_next hx, List.pairwise_append]
  refine ⟨h, List.pairwise_singleton _ _, fun a ha b hb => ?_⟩
  obtain rfl := List.mem_singleton.1 hb
  obtain ⟨j, hj, ej⟩ := mem_take ha
  have hlen := (List.getElem?_eq_some_iff.1 hx).1
  by_cases he : j = i - 1
  · subst he; exact hp a (by omega) ej
  · have h2 := List.pairwise_iff_getElem.1 h j (i - 1) (by simp; omega) (by simp; omega) (by omega)
    simp only [List.getElem_take] at h2
    have e1 : E[j] = a := by have := ej; rw [List.getElem?_eq_getElem (by omega)] at this; exact Option.some.inj this
    rw [e1] at h2
    exact tr _ _ _ h2 (hp _ (by omega) (List.getElem?_eq_getElem (by omega)))
theorem pw_not {α : Type} {r : α → α → Prop} {E : List α} {i j : Nat} {a b : α} (hij : i < j) (hi : E[i]? = some a) (hj : E[j]? = some b) (hn : ¬ r a b) : ¬ E.Pairwise r := fun h => by
  obtain ⟨h1, rfl⟩ := List.getElem?_eq_some_iff.1 hi
  obtain ⟨h2, rfl⟩ := List.getElem?_eq_some_iff.1 hj
  exact hn (List.pairwise_iff_getElem.1 h i j h1 h2 hij)
theorem TlsOk.next {T : List Tl} {i : Nat} {t : Tl} (h : TlsOk (T.take i)) (ht : T[i]? = some t) (hok : TlOk t) (ho : ∀ a, 0 < i → T[i - 1]? = some a → a.key.lt t.key)
    (hd : ∀ j a, j < i → T[j]? = some a → ∀ p ∈ a.pts, ∀ q ∈ t.pts, p.id ≠ q.id) : TlsOk (T.take (i + 1)) := by
  refine ⟨?_, pw_next (r := fun a b : Tl => a.key.lt b.key) (fun a b c => Ky.lt_trans) h.order ht ho, ?_⟩
  · rw [take_next ht]
    intro u hu
    rcases List.mem_append.1 hu with g | g
    · exact h.all u g
    · obtain rfl := List.mem_singleton.1 g; exact hok
  · rw [take_next ht, List.pairwise_append]
    refine ⟨h.apart, List.pairwise_singleton _ _, fun a ha b hb => ?_⟩
    obtain rfl := List.mem_singleton.1 hb
    obtain ⟨j, hj, e⟩ := mem_take ha
    exact hd j a hj e
theorem TlsOk.not_ok {T : List Tl} {i : Nat} {t : Tl} (ht : T[i]? = some t) (h : ¬ TlOk t) : ¬ TlsOk T := fun g => h (g.all t (List.mem_of_getElem? ht))
theorem TlsOk.not_order {T : List Tl} {i : Nat} {t a : Tl} (h0 : 0 < i) (ha : T[i - 1]? = some a) (ht : T[i]? = some t) (h : ¬ a.key.lt t.key) : ¬ TlsOk T := fun g => pw_not (show i - 1 < i by omega) ha ht h g.order
theorem TlsOk.not_apart {T : List Tl} {i j : Nat} {t a : Tl} {p q : Pt} (hj : j < i) (ha : T[j]? = some a) (ht : T[i]? = some t) (hp : p ∈ a.pts) (hq : q ∈ t.pts) (h : p.id = q.id) : ¬ TlsOk T := fun g =>
  pw_not hj ha ht (fun k => k p hp q hq h) g.apart
/-- the points of a tile up to the i-th -/
structure StepOk (k : Ky) (P : List Pt) (i : Nat) : Prop where
  asc : (P.take i).Pairwise (fun p q => p.id < q.id)
  cell : ∀ p ∈ P.take i, cellK k.L.toNat p = k
theorem StepOk.zero (k : Ky) (P : List Pt) : StepOk k P 0 := ⟨by simp, fun p h => by simp at h⟩
theorem StepOk.next {k : Ky} {P : List Pt} {i : Nat} {p : Pt} (h : StepOk k P i) (hp : P[i]? = some p) (hc : cellK k.L.toNat p = k) (ha : ∀ q, 0 < i → P[i - 1]? = some q → q.id < p.id) : StepOk k P (i + 1) := by
  refine ⟨pw_next (fun a b c h1 h2 => by omega) h.asc hp ha, ?_⟩
  rw [take_next hp]
  intro u hu
  rcases List.mem_append.1 hu with g | g
  · exact h.cell u g
  · obtain rfl := List.mem_singleton.1 g; exact hc
theorem StepOk.done {k : Ky} {P : List Pt} (h : StepOk k P P.length) (h1 : keyB k.L k.x k.y k.z = true) (h2 : P ≠ []) (h3 : goodL P = true) : TlOk ⟨k, P⟩ :=
  ⟨h1, h2, h3, by have := h.asc; rwa [List.take_length] at this, by have := h.cell; rwa [List.take_length] at this⟩
theorem TlOk.not_cell {t : Tl} {i : Nat} {p : Pt} (hp : t.pts[i]? = some p) (h : cellK t.key.L.toNat p ≠ t.key) : ¬ TlOk t := fun g => h (g.cell p (List.mem_of_getElem? hp))
theorem TlOk.not_asc {t : Tl} {i : Nat} {p q : Pt} (h0 : 0 < i) (hq : t.pts[i - 1]? = some q) (hp : t.pts[i]? = some p) (h : ¬ q.id < p.id) : ¬ TlOk t := fun g => pw_not (show i - 1 < i by omega) hq hp h g.asc
/-- the points of the tiles up to a level -/
def detL (T : List Tl) (lv : Int) : List Pt := (T.filter (fun t => decide (t.key.L ≤ lv))).flatMap Tl.pts
theorem detL_next {T : List Tl} {i : Nat} {t : Tl} (lv : Int) (ht : T[i]? = some t) : detL (T.take (i + 1)) lv = detL (T.take i) lv ++ (if t.key.L ≤ lv then t.pts else []) := by
  unfold detL
  rw [take_next ht, List.filter_append, List.flatMap_append]
  by_cases h : t.key.L ≤ lv
  · simp [h]
  · simp [h]
theorem TlsOk.ids {T : List Tl} (h : TlsOk T) (lv : Int) : (detL T lv).Pairwise (fun p q => p.id ≠ q.id) := by
  unfold detL
  rw [List.flatMap_def, List.pairwise_flatten]
  refine ⟨fun l hl => ?_, ?_⟩
  · obtain ⟨t, ht, rfl⟩ := List.mem_map.1 hl
    exact (h.all t (List.mem_filter.1 ht).1).asc.imp (fun g => by omega)
  · rw [List.pairwise_map]
    exact h.apart.filter _
theorem detL_mem {T : List Tl} {lv : Int} {p : Pt} : p ∈ detL T lv ↔ ∃ t ∈ T, t.key.L ≤ lv ∧ p ∈ t.pts := by
  unfold detL
  rw [List.mem_flatMap]
  constructor
  · rintro ⟨t, h1, h2⟩
    obtain ⟨h3, h4⟩ := List.mem_filter.1 h1
    exact ⟨t, h3, by simpa using h4, h2⟩
  · rintro ⟨t, h1, h2, h3⟩
    exact ⟨t, List.mem_filter.2 ⟨h1, by simpa using h2⟩, h3⟩
theorem detL_mono {T : List Tl} {a b : Int} (h : a ≤ b) : (detL T a).length ≤ (detL T b).length := by
  induction T with
  | nil => simp [detL]
  | cons t T ih =>
    unfold detL at *
    by_cases h1 : t.key.L ≤ a
    · have h2 : t.key.L ≤ b := by omega
      simp [h1, h2] at ih ⊢
      omega
    · by_cases h2 : t.key.L ≤ b
      · simp [h1, h2] at ih ⊢
        omega
      · simp [h1, h2] at ih ⊢
        omega
/-- what a detail is: the points in ascending order of Id -/
structure IsDet (T : List Tl) (lv : Int) (D : List Pt) : Prop where
  perm : D.Perm (detL T lv)
  asc : D.Pairwise (fun p q => p.id < q.id)
theorem asc_strict {D S : List Pt} (hp : D.Perm S) (hd : S.Pairwise (fun p q => p.id ≠ q.id)) (hs : D.Pairwise (fun p q => ¬ q.id < p.id)) : D.Pairwise (fun p q => p.id < q.id) := by
  have h2 := (hp.pairwise_iff (R := fun p q : Pt => p.id ≠ q.id) (fun {_ _} e => Ne.symm e)).2 hd
  refine (h2.and hs).imp ?_
  rintro a b ⟨h1, h3⟩
  omega
theorem asc_same {D D' : List Pt} (h : D.Pairwise (fun p q => p.id < q.id)) (h' : D'.Pairwise (fun p q => p.id < q.id)) (hm : ∀ p, p ∈ D ↔ p ∈ D') : D = D' :=
  sorted_same (r := fun p q : Pt => p.id < q.id) (fun a => by omega) (fun a b c h1 h2 => by omega) h h' hm
theorem IsDet.unique {T : List Tl} {lv : Int} {D D' : List Pt} (h : IsDet T lv D) (h' : IsDet T lv D') : D = D' :=
  asc_same h.asc h'.asc (fun p => by rw [h.perm.mem_iff, h'.perm.mem_iff])
end Go.Proofs.Yteanlcefdoigcaa
namespace Go.Proofs.Yteanlcefdoigcaa
open Go.RowKit

theorem idx_in (n : Int) (h : -268435456 ≤ n ∧ n ≤ 268435456) (l : Nat) (hl : l ≤ 12) : 0 ≤ idxV n l ∧ idxV n l ≤ powL (l : Int) - 1 := by
  match l, hl with
  | 0, _ | 1, _ | 2, _ | 3, _ | 4, _ | 5, _ | 6, _ | 7, _ | 8, _ | 9, _ | 10, _ | 11, _ | 12, _ =>
    simp [idxV, powL]
    omega
  | l + 13, h => omega
theorem cell_key (x y z : Int) (hx : -268435456 ≤ x ∧ x ≤ 268435456) (hy : -268435456 ≤ y ∧ y ≤ 268435456) (hz : -268435456 ≤ z ∧ z ≤ 268435456) (l : Nat) (hl : l ≤ 12) : keyB (l : Int) (idxV x l) (idxV y l) (idxV z l) = true := by
  have a := idx_in x hx l hl
  have b := idx_in y hy l hl
  have d := idx_in z hz l hl
  rw [keyB_good (by omega)]
  generalize powL (l : Int) = p at *
  simp [inB]
  omega
theorem ids_same {S : List Pt} (hS : GoodS S) {p q : Pt} (hp : p ∈ S) (hq : q ∈ S) (h : p.id = q.id) : p = q := by
  obtain ⟨i, hi, rfl⟩ := List.mem_iff_getElem.1 hp
  obtain ⟨j, hj, rfl⟩ := List.mem_iff_getElem.1 hq
  have hpw := List.pairwise_iff_getElem.1 hS.1
  rcases Nat.lt_trichotomy i j with g | g | g
  · exact absurd h (hpw i j hi hj g)
  · subst g; rfl
  · exact absurd h.symm (hpw j i hj hi g)
theorem left_ex {S : List Pt} (hS : GoodS S) (c : Nat) : ∀ l, ∃ Lf, LeftAt S c l Lf
  | 0 => by
    refine ⟨S.mergeSort (fun p q => decide (rankV p.id ≤ rankV q.id)), left_start hS (List.mergeSort_perm _ _) ?_⟩
    refine (List.pairwise_mergeSort (fun a b d h1 h2 => ?_) (fun a b => ?_) S).imp ?_
    · simp at *; omega
    · simp; omega
    · intro a b h; simp at h; omega
  | l + 1 => by
    obtain ⟨Lf, h⟩ := left_ex hS c l
    exact ⟨_, h.next⟩
/-- at a level above the last one the tile of a cell takes the first c of its points -/
theorem grp_take {S Lf : List Pt} {c l : Nat} (h : LeftAt S c l Lf) (hl : l ≠ 12) (k : Ky) : ∀ i, i ≤ Lf.length → grp S c l Lf i k = ((Lf.take i).filter (fun q => decide (cellK l q = k))).take c
  | 0, _ => by simp [grp]
  | i + 1, hi => by
    have ih := grp_take h hl k i (by omega)
    have hp : Lf[i]? = some Lf[i] := List.getElem?_eq_getElem (by omega)
    generalize Lf[i] = p at hp
    have ht := h.takes hp
    rw [show decide (l = 12) = false from decide_eq_false hl, Bool.false_or] at ht
    unfold grp at ih ⊢
    rw [take_next hp, List.filter_append, List.filter_append, ih]
    by_cases hk : cellK l p = k
    · subst hk
      rw [List.countP_eq_length_filter] at ht
      by_cases hc : ((Lf.take i).filter (fun q => decide (cellK l q = cellK l p))).length < c
      · rw [decide_eq_true hc] at ht
        generalize (Lf.take i).filter (fun q => decide (cellK l q = cellK l p)) = F at hc ⊢
        simp [ht]
        rw [List.take_of_length_le (show F.length ≤ c by omega), List.take_of_length_le (show (F ++ [p]).length ≤ c by simp; omega)]
      · rw [decide_eq_false hc] at ht
        generalize (Lf.take i).filter (fun q => decide (cellK l q = cellK l p)) = F at hc ⊢
        simp [ht]
        rw [List.take_append_of_le_length (by omega)]
    · simp [hk]
theorem same_len {l m : List Pt} (hl : l.Pairwise (fun p q => p.id ≠ q.id)) (hm : m.Pairwise (fun p q => p.id ≠ q.id)) (h : ∀ p, p ∈ l ↔ p ∈ m) : l.length = m.length := by
  have h1 := sub_len (l := l.map Pt.id) (m := m.map Pt.id) (by rw [List.pairwise_map]; exact hl) (fun a ha => by
    obtain ⟨p, hp, rfl⟩ := List.mem_map.1 ha
    exact List.mem_map.2 ⟨p, (h p).1 hp, rfl⟩)
  have h2 := sub_len (l := m.map Pt.id) (m := l.map Pt.id) (by rw [List.pairwise_map]; exact hm) (fun a ha => by
    obtain ⟨p, hp, rfl⟩ := List.mem_map.1 ha
    exact List.mem_map.2 ⟨p, (h p).2 hp, rfl⟩)
  simp at h1 h2
  omega
/-- the points that lie in a cell of a level without a tile above -/
def cellL (S : List Pt) (c l : Nat) (k : Ky) : List Pt := S.filter (fun q => here S c l q && decide (cellK l q = k))
theorem LeftAt.ids {S Lf : List Pt} {c l : Nat} (hS : GoodS S) (h : LeftAt S c l Lf) : Lf.Pairwise (fun p q => p.id ≠ q.id) :=
  (h.perm.pairwise_iff (R := fun p q : Pt => p.id ≠ q.id) (fun {_ _} e => Ne.symm e)).2 (hS.1.filter _)
/-- how many points the tile of a key has -/
theorem tile_len {S : List Pt} {c l : Nat} {T : List Tl} {t : Tl} (hS : GoodS S) (h : IsLayout S c T) (ht : t ∈ T) (hl : l < 12) (hk : t.key.L = l) : t.pts.length = min c (cellL S c l t.key).length := by
  obtain ⟨Lf, hLf⟩ := left_ex hS c l
  have e := grp_take hLf (by omega) t.key Lf.length (Nat.le_refl _)
  unfold grp at e
  rw [List.take_length] at e
  have hids := hLf.ids hS
  have h1 : t.pts.length = (Lf.filter (fun q => decide (cellK l q = t.key) && takes S c l q)).length := by
    refine same_len ((h.tiles.pts t ht).2.imp (fun g => by omega)) (hids.filter _) (fun p => ?_)
    rw [h.tiles.mem t ht p, List.mem_filter, hLf.mem]
    constructor
    · rintro ⟨g1, m, g2, g3, g4, g5⟩
      obtain rfl : m = l := by rw [g5] at hk; exact Int.ofNat.inj hk
      refine ⟨⟨g1, g3⟩, ?_⟩
      rw [Bool.and_eq_true]
      exact ⟨decide_eq_true g5.symm, g4⟩
    · rintro ⟨⟨g1, g2⟩, g3⟩
      rw [Bool.and_eq_true] at g3
      exact ⟨g1, l, by omega, g2, g3.2, (of_decide_eq_true g3.1).symm⟩
  have h2 : (Lf.filter (fun q => decide (cellK l q = t.key))).length = (cellL S c l t.key).length := by
    refine same_len (hids.filter _) (hS.1.filter _) (fun p => ?_)
    rw [List.mem_filter, hLf.mem, cellL, List.mem_filter, Bool.and_eq_true, and_assoc]
  rw [h1, e, List.length_take, h2]
/-- a point that passes a level leaves a full tile there -/
theorem full_above {S : List Pt} {c l : Nat} {T : List Tl} {p : Pt} (hS : GoodS S) (hc : 1 ≤ c) (h : IsLayout S c T) (hl : l < 12) (hp : p ∈ S) (hh : here S c (l + 1) p = true) :
    ∃ t ∈ T, t.key = cellK l p ∧ t.pts.length = c := by
  rw [here_succ, Bool.and_eq_true] at hh
  obtain ⟨h1, h2⟩ := hh
  obtain ⟨Lf, hLf⟩ := left_ex hS c l
  obtain ⟨i, hi, ei⟩ := List.mem_iff_getElem.1 (hLf.mem.2 ⟨hp, h1⟩)
  have hpi : Lf[i]? = some p := by rw [List.getElem?_eq_getElem hi, ei]
  have ht := hLf.takes hpi
  rw [show decide (l = 12) = false from decide_eq_false (by omega), Bool.false_or] at ht
  rw [ht] at h2
  have hcnt : c ≤ ((Lf.take i).filter (fun q => decide (cellK l q = cellK l p))).length := by
    rw [List.countP_eq_length_filter] at h2
    simp at h2
    exact h2
  have e := grp_take hLf (by omega) (cellK l p) i (by omega)
  have hlen : (grp S c l Lf i (cellK l p)).length = c := by rw [e, List.length_take]; omega
  obtain ⟨q, hq⟩ : ∃ q, q ∈ grp S c l Lf i (cellK l p) := List.exists_mem_of_length_pos (by omega)
  unfold grp at hq
  obtain ⟨g1, g2⟩ := List.mem_filter.1 hq
  rw [Bool.and_eq_true] at g2
  obtain ⟨g3, g4⟩ := hLf.mem.1 (List.mem_of_mem_take g1)
  obtain ⟨t, ht1, ht2⟩ := h.tiles.all q (cellK l p) ⟨g3, l, by omega, g4, g2.2, (of_decide_eq_true g2.1).symm⟩
  refine ⟨t, ht1, ht2, ?_⟩
  rw [tile_len hS h ht1 hl (by rw [ht2]; rfl), ht2]
  have : c ≤ (cellL S c l (cellK l p)).length := by
    have h3 : (Lf.filter (fun q => decide (cellK l q = cellK l p))).length = (cellL S c l (cellK l p)).length := by
      refine same_len ((hLf.ids hS).filter _) (hS.1.filter _) (fun p => ?_)
      rw [List.mem_filter, hLf.mem, cellL, List.mem_filter, Bool.and_eq_true, and_assoc]
    have h4 : ((Lf.take i).filter (fun q => decide (cellK l q = cellK l p))).length ≤ (Lf.filter (fun q => decide (cellK l q = cellK l p))).length :=
      (List.Sublist.filter _ (List.take_sublist i Lf)).length_le
    omega
  omega
/-- a layout is a valid list of tiles -/
theorem IsLayout.ok {S : List Pt} {c : Nat} {E : List Te} (hg : goodL S = true) (h : IsLayout S c (E.map Te.tl)) : TlsOk (E.map Te.tl) := by
  obtain ⟨hS, hf, hl⟩ := goodL_facts hg
  have hok := ((goodL_iff S).1 hg).2.1
  have hlens := (h.lens hl).1
  refine ⟨fun t ht => ?_, h.order, ?_⟩
  · obtain ⟨hn, has⟩ := h.tiles.pts t ht
    have hmem := h.tiles.mem t ht
    have hlen : t.pts.length ≤ 1024 := by
      obtain ⟨e, he, rfl⟩ := List.mem_map.1 ht
      exact hlens e he
    refine ⟨?_, hn, ?_, has, ?_⟩
    · obtain ⟨p, hp⟩ := List.exists_mem_of_ne_nil _ hn
      obtain ⟨hpS, l, h1, _, _, hk⟩ := (hmem p).1 hp
      obtain ⟨_, hx, hy, hz⟩ := hf p hpS
      rw [hk]
      exact cell_key p.x p.y p.zl hx hy hz l h1
    · rw [goodL_iff]
      exact ⟨hlen, fun p hp => hok p ((hmem p).1 hp).1, has.imp (fun g => by omega)⟩
    · intro p hp
      obtain ⟨_, l, _, _, _, hk⟩ := (hmem p).1 hp
      rw [hk]
      show cellK ((l : Int).toNat) p = _
      rw [Int.toNat_natCast]
  · refine List.Pairwise.imp_of_mem ?_ h.tiles.keys
    intro a b ha hb hne p hp q hq he
    obtain ⟨h1, h2⟩ := (h.tiles.mem a ha p).1 hp
    obtain ⟨h3, h4⟩ := (h.tiles.mem b hb q).1 hq
    obtain rfl := ids_same hS h1 h3 he
    exact hne (isAt_un h2 h4)
end Go.Proofs.Yteanlcefdoigcaa
