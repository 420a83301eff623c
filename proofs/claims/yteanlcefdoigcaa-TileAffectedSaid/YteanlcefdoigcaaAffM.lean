/- The tiles that differ in plain Lean: the keys of the tiles in which two lists differ; and what one more point changes in a layout: at most one tile of each level, from some level on, each in the cell of the one above. -/
import Derived.Test.YteanlcefdoigcaaTileM
namespace Go.Proofs.Yteanlcefdoigcaa
open Go.RowKit

/-- a key at which two lists of tiles differ -/
def Differs (A B : List Tl) (k : Ky) : Prop := (∃ t ∈ A, t.key = k ∧ t ∉ B) ∨ (∃ t ∈ B, t.key = k ∧ t ∉ A)
theorem Differs.symm {A B : List Tl} {k : Ky} (h : Differs A B k) : Differs B A k := h.elim Or.inr Or.inl
structure IsChg (A B : List Tl) (K : List Ky) : Prop where
  order : K.Pairwise (fun a b => a.lt b)
  mem : ∀ k, k ∈ K ↔ Differs A B k
theorem keys_same {K K' : List Ky} (h : K.Pairwise (fun a b => a.lt b)) (h' : K'.Pairwise (fun a b => a.lt b)) (hm : ∀ k, k ∈ K ↔ k ∈ K') : K = K' :=
  sorted_same (r := fun a b : Ky => a.lt b) (fun _ => Ky.lt_irrefl _) (fun _ _ _ => Ky.lt_trans) h h' hm
theorem IsChg.unique {A B : List Tl} {K K' : List Ky} (h : IsChg A B K) (h' : IsChg A B K') : K = K' := keys_same h.order h'.order (fun k => by rw [h.mem, h'.mem])
theorem IsChg.symm {A B : List Tl} {K : List Ky} (h : IsChg A B K) : IsChg B A K := ⟨h.order, fun k => by rw [h.mem]; exact ⟨Differs.symm, Differs.symm⟩⟩

/-- between two rounds of the merge of two lists in the order of their keys -/
structure ChgAt (A B : List Tl) (i j : Nat) (K : List Ky) : Prop where
  order : K.Pairwise (fun a b => a.lt b)
  mem : ∀ k, k ∈ K ↔ Differs A B k ∧ ((∃ t ∈ A.take i, t.key = k) ∨ (∃ t ∈ B.take j, t.key = k))
  left : ∀ a ∈ A.take i, ∀ b ∈ B.drop j, a.key.lt b.key
  right : ∀ b ∈ B.take j, ∀ a ∈ A.drop i, b.key.lt a.key
theorem ChgAt.start (A B : List Tl) : ChgAt A B 0 0 [] := ⟨List.Pairwise.nil, fun k => by simp, fun a h => by simp at h, fun a h => by simp at h⟩
theorem ChgAt.symm {A B : List Tl} {i j : Nat} {K : List Ky} (h : ChgAt A B i j K) : ChgAt B A j i K :=
  ⟨h.order, fun k => by
    rw [h.mem]
    constructor
    · rintro ⟨h1, h2⟩; exact ⟨h1.symm, h2.elim Or.inr Or.inl⟩
    · rintro ⟨h1, h2⟩; exact ⟨h1.symm, h2.elim Or.inr Or.inl⟩, h.right, h.left⟩
theorem drop_at {α : Type} {l : List α} {i : Nat} {x : α} (h : l[i]? = some x) : l.drop i = x :: l.drop (i + 1) := by
  obtain ⟨h1, h2⟩ := List.getElem?_eq_some_iff.1 h
  rw [List.drop_eq_getElem_cons h1, h2]
theorem order_take {A : List Tl} (hA : A.Pairwise (fun a b => a.key.lt b.key)) {i : Nat} {t : Tl} (ht : A[i]? = some t) : ∀ a ∈ A.take i, a.key.lt t.key := fun a ha => by
  obtain ⟨j, hj, e⟩ := mem_take ha
  obtain ⟨h1, rfl⟩ := List.getElem?_eq_some_iff.1 e
  obtain ⟨h2, rfl⟩ := List.getElem?_eq_some_iff.1 ht
  exact List.pairwise_iff_getElem.1 hA j i h1 h2 hj
theorem order_drop {A : List Tl} (hA : A.Pairwise (fun a b => a.key.lt b.key)) {i : Nat} {t : Tl} (ht : A[i]? = some t) : ∀ a ∈ A.drop (i + 1), t.key.lt a.key := fun a ha => by
  have h := hA.sublist (List.drop_sublist i A)
  rw [drop_at ht] at h
  exact (List.pairwise_cons.1 h).1 a ha
theorem key_unique {A : List Tl} (hA : A.Pairwise (fun a b => a.key.lt b.key)) {t u : Tl} (ht : t ∈ A) (hu : u ∈ A) (h : t.key = u.key) : t = u := by
  obtain ⟨i, hi, rfl⟩ := List.mem_iff_getElem.1 ht
  obtain ⟨j, hj, rfl⟩ := List.mem_iff_getElem.1 hu
  have hpw := List.pairwise_iff_getElem.1 hA
  rcases Nat.lt_trichotomy i j with g | g | g
  · have := hpw i j hi hj g
    rw [h] at this
    exact absurd this (Ky.lt_irrefl _)
  · subst g; rfl
  · have := hpw j i hj hi g
    rw [h] at this
    exact absurd this (Ky.lt_irrefl _)
theorem ChgAt.before {A B : List Tl} (hA : A.Pairwise (fun a b => a.key.lt b.key)) {i j : Nat} {K : List Ky} (h : ChgAt A B i j K) {t : Tl} (ht : A[i]? = some t) : ∀ k ∈ K, k.lt t.key := fun k hk => by
  rcases ((h.mem k).1 hk).2 with ⟨u, hu, rfl⟩ | ⟨u, hu, rfl⟩
  · exact order_take hA ht u hu
  · exact h.right u hu t (by rw [drop_at ht]; exact List.mem_cons_self ..)
/-- the first list's tile comes first: it is not in the second one -/
theorem ChgAt.next_left {A B : List Tl} (hA : A.Pairwise (fun a b => a.key.lt b.key)) (hB : B.Pairwise (fun a b => a.key.lt b.key)) {i j : Nat} {K : List Ky} (h : ChgAt A B i j K) {t : Tl} (ht : A[i]? = some t)
    (hb : ∀ u, B[j]? = some u → t.key.lt u.key) : ChgAt A B (i + 1) j (K ++ [t.key]) := by
  have hbd : ∀ b ∈ B.drop j, t.key.lt b.key := fun b hbm => by
    cases hj : B[j]? with
    | none =>
      rw [List.drop_eq_nil_of_le (List.getElem?_eq_none_iff.1 hj)] at hbm
      simp at hbm
    | some u =>
      rw [drop_at hj] at hbm
      rcases List.mem_cons.1 hbm with g | g
      · subst g; exact hb _ hj
      · exact Ky.lt_trans (hb u hj) (order_drop hB hj b g)
  have hbt : ∀ b ∈ B.take j, b.key.lt t.key := fun b hbm => h.right b hbm t (by rw [drop_at ht]; exact List.mem_cons_self ..)
  have hnb : ∀ b ∈ B, b.key ≠ t.key := fun b hbm e => by
    rw [← List.take_append_drop j B] at hbm
    rcases List.mem_append.1 hbm with g | g
    · have := hbt b g; rw [e] at this; exact Ky.lt_irrefl _ this
    · have := hbd b g; rw [e] at this; exact Ky.lt_irrefl _ this
  have hta := List.mem_of_getElem? ht
  refine ⟨?_, fun k => ?_, ?_, ?_⟩
  · rw [List.pairwise_append]
    refine ⟨h.order, List.pairwise_singleton _ _, fun a ha b hb => ?_⟩
    obtain rfl := List.mem_singleton.1 hb
    exact h.before hA ht a ha
  · rw [List.mem_append, h.mem, List.mem_singleton, take_next ht]
    constructor
    · rintro (⟨h1, h2⟩ | rfl)
      · exact ⟨h1, h2.imp (fun ⟨u, g1, g2⟩ => ⟨u, List.mem_append.2 (Or.inl g1), g2⟩) id⟩
      · exact ⟨Or.inl ⟨t, hta, rfl, fun g => hnb t g rfl⟩, Or.inl ⟨t, by simp, rfl⟩⟩
    · rintro ⟨h1, ⟨u, g1, g2⟩ | g⟩
      · rcases List.mem_append.1 g1 with g3 | g3
        · exact Or.inl ⟨h1, Or.inl ⟨u, g3, g2⟩⟩
        · obtain rfl := List.mem_singleton.1 g3; exact Or.inr g2.symm
      · exact Or.inl ⟨h1, Or.inr g⟩
  · rw [take_next ht]
    intro a ha b hb2
    rcases List.mem_append.1 ha with g | g
    · exact h.left a g b hb2
    · obtain rfl := List.mem_singleton.1 g; exact hbd b hb2
  · intro b hb a ha
    exact h.right b hb a (by rw [drop_at ht]; exact List.mem_cons_of_mem _ ha)
theorem ChgAt.next_right {A B : List Tl} (hA : A.Pairwise (fun a b => a.key.lt b.key)) (hB : B.Pairwise (fun a b => a.key.lt b.key)) {i j : Nat} {K : List Ky} (h : ChgAt A B i j K) {t : Tl} (ht : B[j]? = some t)
    (hb : ∀ u, A[i]? = some u → t.key.lt u.key) : ChgAt A B i (j + 1) (K ++ [t.key]) := (h.symm.next_left hB hA ht hb).symm
/-- both lists have a tile of the key -/
theorem ChgAt.next_both {A B : List Tl} (hA : A.Pairwise (fun a b => a.key.lt b.key)) (hB : B.Pairwise (fun a b => a.key.lt b.key)) {i j : Nat} {K : List Ky} (h : ChgAt A B i j K) {t u : Tl} (ht : A[i]? = some t) (hu : B[j]? = some u)
    (hk : t.key = u.key) {K' : List Ky} (hK : (t.pts = u.pts ∧ K' = K) ∨ (t.pts ≠ u.pts ∧ K' = K ++ [t.key])) : ChgAt A B (i + 1) (j + 1) K' := by
  have hta := List.mem_of_getElem? ht
  have hub := List.mem_of_getElem? hu
  have e1 : ∀ a ∈ A.take (i + 1), ∀ b ∈ B.drop (j + 1), a.key.lt b.key := fun a ha b hb => by
    rw [take_next ht] at ha
    rcases List.mem_append.1 ha with g | g
    · exact h.left a g b (by rw [drop_at hu]; exact List.mem_cons_of_mem _ hb)
    · obtain rfl := List.mem_singleton.1 g
      rw [hk]; exact order_drop hB hu b hb
  have e2 : ∀ b ∈ B.take (j + 1), ∀ a ∈ A.drop (i + 1), b.key.lt a.key := fun b hb a ha => by
    rw [take_next hu] at hb
    rcases List.mem_append.1 hb with g | g
    · exact h.right b g a (by rw [drop_at ht]; exact List.mem_cons_of_mem _ ha)
    · obtain rfl := List.mem_singleton.1 g
      rw [← hk]; exact order_drop hA ht a ha
  have hin : ∀ k, ((∃ t ∈ A.take (i + 1), t.key = k) ∨ (∃ t ∈ B.take (j + 1), t.key = k)) ↔ ((∃ t ∈ A.take i, t.key = k) ∨ (∃ t ∈ B.take j, t.key = k)) ∨ k = t.key := fun k => by
    rw [take_next ht, take_next hu]
    constructor
    · rintro (⟨a, g, rfl⟩ | ⟨a, g, rfl⟩)
      · rcases List.mem_append.1 g with g | g
        · exact Or.inl (Or.inl ⟨a, g, rfl⟩)
        · obtain rfl := List.mem_singleton.1 g; exact Or.inr rfl
      · rcases List.mem_append.1 g with g | g
        · exact Or.inl (Or.inr ⟨a, g, rfl⟩)
        · obtain rfl := List.mem_singleton.1 g; exact Or.inr hk.symm
    · rintro ((⟨a, g, rfl⟩ | ⟨a, g, rfl⟩) | rfl)
      · exact Or.inl ⟨a, List.mem_append.2 (Or.inl g), rfl⟩
      · exact Or.inr ⟨a, List.mem_append.2 (Or.inl g), rfl⟩
      · exact Or.inl ⟨t, by simp, rfl⟩
  rcases hK with ⟨hp, rfl⟩ | ⟨hp, rfl⟩
  · have htu : t = u := by cases t; cases u; simp at hk hp; rw [hk, hp]
    subst htu
    have hnd : ¬ Differs A B t.key := by
      rintro (⟨a, g1, g2, g3⟩ | ⟨a, g1, g2, g3⟩)
      · obtain rfl := key_unique hA g1 hta g2; exact g3 hub
      · obtain rfl := key_unique hB g1 hub g2; exact g3 hta
    refine ⟨h.order, fun k => ?_, e1, e2⟩
    rw [h.mem, hin]
    constructor
    · rintro ⟨g1, g2⟩; exact ⟨g1, Or.inl g2⟩
    · rintro ⟨g1, g2 | rfl⟩
      · exact ⟨g1, g2⟩
      · exact absurd g1 hnd
  · have hd : Differs A B t.key := Or.inl ⟨t, hta, rfl, fun g => by
      obtain rfl := key_unique hB g hub hk
      exact hp rfl⟩
    refine ⟨?_, fun k => ?_, e1, e2⟩
    · rw [List.pairwise_append]
      refine ⟨h.order, List.pairwise_singleton _ _, fun a ha b hb => ?_⟩
      obtain rfl := List.mem_singleton.1 hb
      exact h.before hA ht a ha
    · rw [List.mem_append, h.mem, hin, List.mem_singleton]
      constructor
      · rintro (⟨g1, g2⟩ | rfl)
        · exact ⟨g1, Or.inl g2⟩
        · exact ⟨hd, Or.inr rfl⟩
      · rintro ⟨g1, g2 | rfl⟩
        · exact Or.inl ⟨g1, g2⟩
        · exact Or.inr rfl
theorem ChgAt.done {A B : List Tl} {i j : Nat} {K : List Ky} (h : ChgAt A B i j K) (hi : A.length ≤ i) (hj : B.length ≤ j) : IsChg A B K := by
  refine ⟨h.order, fun k => ?_⟩
  rw [h.mem, List.take_of_length_le hi, List.take_of_length_le hj]
  constructor
  · exact fun g => g.1
  · rintro g
    refine ⟨g, ?_⟩
    rcases g with ⟨t, h1, h2, _⟩ | ⟨t, h1, h2, _⟩
    · exact Or.inl ⟨t, h1, h2⟩
    · exact Or.inr ⟨t, h1, h2⟩
end Go.Proofs.Yteanlcefdoigcaa
namespace Go.Proofs.Yteanlcefdoigcaa
open Go.RowKit

/-- two layouts differ at a key -/
def Ch (S S' : List Pt) (c : Nat) (k : Ky) : Prop := ¬ ∀ q, (q ∈ S ∧ isAt S c q k) ↔ (q ∈ S' ∧ isAt S' c q k)
theorem differs_ch {S S' : List Pt} {c : Nat} {A B : List Tl} (hA : IsLayout S c A) (hB : IsLayout S' c B) (k : Ky) : Differs A B k ↔ Ch S S' c k := by
  have key : ∀ {S S' : List Pt} {A B : List Tl}, IsLayout S c A → IsLayout S' c B → ∀ t ∈ A, t.key = k → t ∉ B → ¬ ∀ q, (q ∈ S ∧ isAt S c q k) ↔ (q ∈ S' ∧ isAt S' c q k) := by
    intro S S' A B hA hB t ht hk hn hall
    subst hk
    obtain ⟨h1, h2⟩ := hA.tiles.pts t ht
    obtain ⟨p, hp⟩ := List.exists_mem_of_ne_nil _ h1
    obtain ⟨u, hu, he⟩ := hB.tiles.all p t.key ((hall p).1 ((hA.tiles.mem t ht p).1 hp))
    have e : t.pts = u.pts := asc_same h2 (hB.tiles.pts u hu).2 (fun q => by rw [hA.tiles.mem t ht q, hB.tiles.mem u hu q, he]; exact hall q)
    have : t = u := by cases t; cases u; simp at he e; rw [he, e]
    exact hn (this ▸ hu)
  constructor
  · rintro (⟨t, h1, h2, h3⟩ | ⟨t, h1, h2, h3⟩)
    · exact key hA hB t h1 h2 h3
    · exact fun g => key hB hA t h1 h2 h3 (fun q => (g q).symm)
  · intro h
    refine Classical.byContradiction fun hnd => h fun q => ⟨fun hq => ?_, fun hq => ?_⟩
    · obtain ⟨t, h1, h2⟩ := hA.tiles.all q k hq
      by_cases hm : t ∈ B
      · have := (hA.tiles.mem t h1 q).2 (h2.symm ▸ hq)
        have := (hB.tiles.mem t hm q).1 this
        rwa [h2] at this
      · exact absurd (Or.inl ⟨t, h1, h2, hm⟩) hnd
    · obtain ⟨t, h1, h2⟩ := hB.tiles.all q k hq
      by_cases hm : t ∈ A
      · have := (hB.tiles.mem t h1 q).2 (h2.symm ▸ hq)
        have := (hA.tiles.mem t hm q).1 this
        rwa [h2] at this
      · exact absurd (Or.inr ⟨t, h1, h2, hm⟩) hnd
/-- the points without a tile above the level -/
def hL (S : List Pt) (c l : Nat) : List Pt := S.filter (here S c l)
def cntL (S : List Pt) (c l : Nat) (q : Pt) : Nat := (hL S c l).countP (lessB l q)
theorem takes_cnt (S : List Pt) (c l : Nat) (q : Pt) : takes S c l q = (decide (l = 12) || decide (cntL S c l q < c)) := by
  unfold takes cntL hL
  rw [List.countP_filter]
  congr 3
  exact List.countP_congr (fun r _ => by rw [Bool.and_comm])
theorem hL_succ (S : List Pt) (c l : Nat) : hL S c (l + 1) = (hL S c l).filter (fun q => !takes S c l q) := by
  unfold hL
  rw [List.filter_filter]
  refine List.filter_congr fun q _ => ?_
  rw [here_succ, Bool.and_comm]
theorem at_level {S : List Pt} {c l : Nat} {q : Pt} {k : Ky} (hk : k.L = l) (hl : l ≤ 12) : (q ∈ S ∧ isAt S c q k) ↔ (q ∈ hL S c l ∧ takes S c l q = true ∧ cellK l q = k) := by
  unfold hL
  rw [List.mem_filter]
  constructor
  · rintro ⟨g1, m, g2, g3, g4, g5⟩
    obtain rfl : m = l := by rw [g5] at hk; exact Int.ofNat.inj hk
    exact ⟨⟨g1, g3⟩, g4, g5.symm⟩
  · rintro ⟨⟨g1, g2⟩, g3, g4⟩
    exact ⟨g1, l, hl, g2, g3, g4.symm⟩
theorem ch_level {S S' : List Pt} {c : Nat} {k : Ky} (h : Ch S S' c k) : ∃ l : Nat, l ≤ 12 ∧ k.L = l := by
  refine Classical.byContradiction fun hn => h fun q => ⟨fun hq => ?_, fun hq => ?_⟩
  · exact absurd (isAt_bd hq.2) hn
  · exact absurd (isAt_bd hq.2) hn
theorem quiet_takes {S S' : List Pt} {c l : Nat} (h : (hL S' c l).Perm (hL S c l)) (q : Pt) : takes S' c l q = takes S c l q := by
  rw [takes_cnt, takes_cnt]
  unfold cntL
  rw [h.countP_eq]
theorem quiet_next {S S' : List Pt} {c l : Nat} (h : (hL S' c l).Perm (hL S c l)) : (hL S' c (l + 1)).Perm (hL S c (l + 1)) := by
  rw [hL_succ, hL_succ]
  have e : (fun q => !takes S' c l q) = (fun q => !takes S c l q) := by funext q; rw [quiet_takes h]
  rw [e]
  exact h.filter _
theorem quiet_to {S S' : List Pt} {c l : Nat} (h : (hL S' c l).Perm (hL S c l)) : ∀ n, (hL S' c (l + n)).Perm (hL S c (l + n))
  | 0 => h
  | n + 1 => quiet_next (quiet_to h n)
theorem quiet_all {S S' : List Pt} {c l : Nat} (h : (hL S' c l).Perm (hL S c l)) {k : Ky} (hk : (l : Int) ≤ k.L) : ¬ Ch S S' c k := fun hc => by
  obtain ⟨m, h1, h2⟩ := ch_level hc
  have hq := quiet_to h (m - l)
  rw [show l + (m - l) = m by omega] at hq
  refine hc fun q => ?_
  rw [at_level h2 h1, at_level h2 h1, hq.mem_iff, quiet_takes hq]
theorem countP_strict {p1 p2 : Pt → Bool} {q : Pt} : ∀ {L : List Pt}, (∀ x ∈ L, p1 x = true → p2 x = true) → q ∈ L → p1 q = false → p2 q = true → L.countP p1 < L.countP p2
  | [], _, hq, _, _ => by simp at hq
  | x :: L, h, hq, h1, h2 => by
    rw [List.countP_cons, List.countP_cons]
    have hm : L.countP p1 ≤ L.countP p2 := List.countP_mono_left (fun y hy => h y (List.mem_cons_of_mem _ hy))
    rcases List.mem_cons.1 hq with g | g
    · subst g
      simp [h1, h2]
      omega
    · have := countP_strict (fun y hy => h y (List.mem_cons_of_mem _ hy)) g h1 h2
      have hx := h x (List.mem_cons_self ..)
      cases e1 : p1 x
      · simp; omega
      · simp [hx e1]; omega
theorem lessB_iff {l : Nat} {p q : Pt} : lessB l p q = true ↔ cellK l q = cellK l p ∧ rankV q.id < rankV p.id := by
  unfold lessB
  rw [Bool.and_eq_true, decide_eq_true_eq, decide_eq_true_eq]
theorem lessB_trans {l : Nat} {p q r : Pt} (h : lessB l p q = true) (h2 : lessB l q r = true) : lessB l p r = true := by
  rw [lessB_iff] at *
  exact ⟨h2.1.trans h.1, by omega⟩
theorem lessB_self (l : Nat) (p : Pt) : lessB l p p = false := by
  rw [← Bool.not_eq_true, lessB_iff]
  omega
theorem cnt_lt {S : List Pt} {c l : Nat} {q e : Pt} (hq : q ∈ hL S c l) (h : lessB l e q = true) : cntL S c l q < cntL S c l e :=
  countP_strict (fun _ _ g => lessB_trans h g) hq (lessB_self l q) h
theorem cnt_le {S : List Pt} {c l : Nat} {q e : Pt} (h : lessB l e q = true) : cntL S c l q ≤ cntL S c l e :=
  List.countP_mono_left (fun _ _ g => lessB_trans h g)
/-- a key and one that lies in its cell -/
def Link (a b : Ky) : Prop := b.L = a.L + 1 ∧ aboveV b.L b.x b.y b.z = .tuple #[.agg #[.int .i64 a.L, .int .i64 a.x, .int .i64 a.y, .int .i64 a.z], .int .i64 0]
def Linked (K : List Ky) : Prop := ∀ i a b, K[i]? = some a → K[i + 1]? = some b → Link a b
theorem Linked.one (k : Ky) : Linked [k] := fun i a b _ h => by simp at h
theorem Linked.cons {K : List Ky} {a b : Ky} (h : Linked K) (hb : K.head? = some b) (hl : Link a b) : Linked (a :: K) := fun i x y hx hy => by
  cases i with
  | zero =>
    simp at hx hy
    subst hx
    rw [List.head?_eq_getElem?] at hb
    rw [hb] at hy
    injection hy with hy
    subst hy
    exact hl
  | succ i =>
    simp at hx hy
    exact h i x y hx hy
theorem linked_level {K : List Ky} (h : Linked K) {a : Ky} (h0 : K[0]? = some a) : ∀ (i : Nat) (b : Ky), K[i]? = some b → b.L = a.L + i
  | 0, b, hb => by rw [h0] at hb; injection hb with hb; subst hb; simp
  | i + 1, b, hb => by
    have hi : i < K.length := by have := (List.getElem?_eq_some_iff.1 hb).1; omega
    have h1 := linked_level h h0 i K[i] (List.getElem?_eq_getElem hi)
    have h2 := (h i _ _ (List.getElem?_eq_getElem hi) hb).1
    omega
theorem Linked.order {K : List Ky} (h : Linked K) : K.Pairwise (fun a b => a.lt b) := by
  rw [List.pairwise_iff_getElem]
  intro i j hi hj hij
  have h0 : K[0]? = some K[0] := List.getElem?_eq_getElem (by omega)
  have h1 := linked_level h h0 i _ (List.getElem?_eq_getElem hi)
  have h2 := linked_level h h0 j _ (List.getElem?_eq_getElem hj)
  unfold Ky.lt
  omega
theorem cell_link {p : Pt} (hf : p.fine) {l : Nat} (hl : l < 12) : Link (cellK l p) (cellK (l + 1) p) := by
  obtain ⟨_, hx, hy, hz⟩ := hf
  exact ⟨by show ((l + 1 : Nat) : Int) = (l : Int) + 1; omega, key_cell p.x p.y p.zl hx hy hz l hl⟩
theorem cell_up {p q : Pt} (hp : p.fine) (hq : q.fine) {l : Nat} (hl : l < 12) (h : cellK (l + 1) p = cellK (l + 1) q) : cellK l p = cellK l q := by
  obtain ⟨_, hx, hy, hz⟩ := hp
  obtain ⟨_, hx', hy', hz'⟩ := hq
  have h1 : idxV p.x (l + 1) = idxV q.x (l + 1) := congrArg Ky.x h
  have h2 : idxV p.y (l + 1) = idxV q.y (l + 1) := congrArg Ky.y h
  have h3 : idxV p.zl (l + 1) = idxV q.zl (l + 1) := congrArg Ky.z h
  refine Ky.ext' rfl ?_ ?_ ?_
  · show idxV p.x l = idxV q.x l
    rw [← (idx_half p.x hx l hl).1, ← (idx_half q.x hx' l hl).1, h1]
  · show idxV p.y l = idxV q.y l
    rw [← (idx_half p.y hy l hl).1, ← (idx_half q.y hy' l hl).1, h2]
  · show idxV p.zl l = idxV q.zl l
    rw [← (idx_half p.zl hz l hl).1, ← (idx_half q.zl hz' l hl).1, h3]
section
variable {S S' : List Pt} {c : Nat} (hS : GoodS S') (hf : ∀ p ∈ S', p.fine) (hc : 1 ≤ c)
/-- at the level one point more is there -/
def More (S S' : List Pt) (c l : Nat) (d : Pt) : Prop := (hL S' c l).Perm (d :: hL S c l)
theorem More.cnt {l : Nat} {d : Pt} (h : More S S' c l d) (q : Pt) : cntL S' c l q = cntL S c l q + (if lessB l q d = true then 1 else 0) := by
  unfold cntL
  rw [h.countP_eq, List.countP_cons]
include hS in
theorem More.ids {l : Nat} {d : Pt} (h : More S S' c l d) : (d :: hL S c l).Pairwise (fun p q => p.id ≠ q.id) :=
  (h.pairwise_iff (R := fun p q : Pt => p.id ≠ q.id) (fun {_ _} e => Ne.symm e)).1 (hS.1.filter _)
theorem More.sub {l : Nat} {d : Pt} (h : More S S' c l d) {q : Pt} (hq : q = d ∨ q ∈ hL S c l) : q ∈ S' := by
  have : q ∈ hL S' c l := h.mem_iff.2 (List.mem_cons.2 hq)
  exact (List.mem_filter.1 this).1
include hS in
theorem More.new {l : Nat} {d : Pt} (h : More S S' c l d) : d ∉ hL S c l := fun hd => (List.pairwise_cons.1 (h.ids hS)).1 d hd rfl
include hS in
theorem More.rank {l : Nat} {d q r : Pt} (h : More S S' c l d) (hq : q = d ∨ q ∈ hL S c l) (hr : r = d ∨ r ∈ hL S c l) (e : rankV q.id = rankV r.id) : q = r := by
  have h1 := h.sub hq
  have h2 := h.sub hr
  exact ids_same hS h1 h2 (rank_inj (hS.2 q h1) (hS.2 r h2) e)
theorem nodup_of_ids {L : List Pt} (h : L.Pairwise (fun p q => p.id ≠ q.id)) : L.Nodup := h.imp (fun g e => g (congrArg Pt.id e))
/-- the new point is not taken at this level: it goes on, and no tile of the level changes -/
theorem cold_next {l : Nat} {d : Pt} (h : More S S' c l d) (hl : l < 12) (hcold : c ≤ cntL S c l d) : More S S' c (l + 1) d ∧ ∀ k : Ky, k.L = l → ¬ Ch S S' c k := by
  have ht : ∀ q ∈ hL S c l, takes S' c l q = takes S c l q := fun q hq => by
    rw [takes_cnt, takes_cnt, h.cnt]
    by_cases hd : lessB l q d = true
    · have := cnt_le (S := S) (c := c) hd
      rw [if_pos hd, decide_eq_false (show ¬ l = 12 by omega), Bool.false_or, Bool.false_or, decide_eq_false (by omega), decide_eq_false (by omega)]
    · rw [if_neg hd, Nat.add_zero]
  have htd : takes S' c l d = false := by
    rw [takes_cnt, h.cnt, lessB_self, decide_eq_false (show ¬ l = 12 by omega), Bool.false_or]
    exact decide_eq_false (by simp; omega)
  refine ⟨?_, fun k hk hch => hch fun q => ?_⟩
  · show (hL S' c (l + 1)).Perm (d :: hL S c (l + 1))
    rw [hL_succ, hL_succ]
    refine (h.filter _).trans ?_
    rw [List.filter_cons, htd]
    simp only [Bool.not_false, if_pos]
    exact List.Perm.cons _ (List.Perm.of_eq (List.filter_congr fun q hq => by rw [ht q hq]))
  · rw [at_level hk (by omega), at_level hk (by omega)]
    constructor
    · rintro ⟨g1, g2, g3⟩
      exact ⟨h.mem_iff.2 (List.mem_cons_of_mem _ g1), by rw [ht q g1]; exact g2, g3⟩
    · rintro ⟨g1, g2, g3⟩
      rcases List.mem_cons.1 (h.mem_iff.1 g1) with g | g
      · subst g; rw [htd] at g2; cases g2
      · exact ⟨g, by rw [← ht q g]; exact g2, g3⟩
include hS in
/-- the new point is taken: its tile alone changes -/
theorem hot_ch {l : Nat} {d : Pt} (h : More S S' c l d) (hl : l ≤ 12) (hhot : l = 12 ∨ cntL S c l d < c) (k : Ky) (hk : k.L = l) : Ch S S' c k ↔ k = cellK l d := by
  have htd : takes S' c l d = true := by
    rw [takes_cnt, h.cnt, lessB_self]
    rcases hhot with g | g
    · rw [decide_eq_true g]; rfl
    · rw [show decide (cntL S c l d + (if false = true then 1 else 0) < c) = true from decide_eq_true (by simpa using g), Bool.or_true]
  constructor
  · intro hch
    refine Classical.byContradiction fun hne => hch fun q => ?_
    rw [at_level hk hl, at_level hk hl]
    have ht : cellK l q = k → takes S' c l q = takes S c l q := fun hqk => by
      rw [takes_cnt, takes_cnt, h.cnt, if_neg, Nat.add_zero]
      rw [lessB_iff]
      rintro ⟨g, _⟩
      exact hne (hqk.symm.trans g.symm)
    constructor
    · rintro ⟨g1, g2, g3⟩
      exact ⟨h.mem_iff.2 (List.mem_cons_of_mem _ g1), by rw [ht g3]; exact g2, g3⟩
    · rintro ⟨g1, g2, g3⟩
      rcases List.mem_cons.1 (h.mem_iff.1 g1) with g | g
      · subst g; exact absurd g3.symm hne
      · exact ⟨g, by rw [← ht g3]; exact g2, g3⟩
  · rintro rfl hall
    have := (hall d).2 ((at_level hk hl).2 ⟨h.mem_iff.2 (List.mem_cons_self ..), htd, rfl⟩)
    exact h.new hS ((at_level hk hl).1 this).1
include hS hf hc in
/-- .. and either nothing is left over, or one point that comes first in its cell of the next level -/
theorem hot_next {l : Nat} {d : Pt} (h : More S S' c l d) (hl : l < 12) (hhot : cntL S c l d < c) :
    (hL S' c (l + 1)).Perm (hL S c (l + 1)) ∨ ∃ e, More S S' c (l + 1) e ∧ cntL S c (l + 1) e < c ∧ cellK l e = cellK l d ∧ e ∈ S' := by
  have hl12 : decide (l = 12) = false := decide_eq_false (by omega)
  have htd : takes S' c l d = true := by
    rw [takes_cnt, h.cnt, lessB_self, hl12, Bool.false_or]
    exact decide_eq_true (by simpa using hhot)
  have hperm : (hL S' c (l + 1)).Perm ((hL S c l).filter (fun q => !takes S' c l q)) := by
    rw [hL_succ]
    refine (h.filter _).trans ?_
    rw [List.filter_cons, htd]
    simp
  have hcnt := fun q => h.cnt q
  by_cases hex : ∃ e ∈ hL S c l, lessB l e d = true ∧ cntL S c l e + 1 = c
  · right
    obtain ⟨e, he1, he2, he3⟩ := hex
    have hte : takes S c l e = true := by rw [takes_cnt, hl12, Bool.false_or]; exact decide_eq_true (by omega)
    have hte' : takes S' c l e = false := by rw [takes_cnt, hl12, Bool.false_or, hcnt, if_pos he2]; exact decide_eq_false (by omega)
    have hcell : cellK l d = cellK l e := (lessB_iff.1 he2).1
    have hcmp : ∀ q ∈ hL S c l, cellK l q = cellK l e → q = e ∨ lessB l q e = true ∨ lessB l e q = true := fun q hq hqe => by
      rcases Int.lt_trichotomy (rankV q.id) (rankV e.id) with g | g | g
      · exact Or.inr (Or.inr (lessB_iff.2 ⟨hqe, g⟩))
      · exact Or.inl (h.rank hS (Or.inr hq) (Or.inr he1) g)
      · exact Or.inr (Or.inl (lessB_iff.2 ⟨hqe.symm, g⟩))
    have hmem : ∀ q ∈ hL S c l, takes S' c l q = false ↔ q = e ∨ takes S c l q = false := fun q hq => by
      constructor
      · intro hn
        by_cases hqe : q = e
        · exact Or.inl hqe
        · right
          rw [takes_cnt, hl12, Bool.false_or, hcnt] at hn
          rw [takes_cnt, hl12, Bool.false_or]
          have hn := of_decide_eq_false hn
          refine decide_eq_false fun hlt => ?_
          by_cases hd : lessB l q d = true
          · rw [if_pos hd] at hn
            have hqc : cellK l q = cellK l e := (lessB_iff.1 hd).1.symm.trans hcell
            rcases hcmp q hq hqc with g | g | g
            · exact hqe g
            · have := cnt_lt he1 g; omega
            · have := cnt_lt hq g; omega
          · rw [if_neg hd] at hn; omega
      · rintro (rfl | hn)
        · exact hte'
        · rw [takes_cnt, hl12, Bool.false_or] at hn
          have hn := of_decide_eq_false hn
          rw [takes_cnt, hl12, Bool.false_or, hcnt]
          exact decide_eq_false (by omega)
    have hids := (List.pairwise_cons.1 (h.ids hS)).2
    have heS : e ∈ S' := h.sub (Or.inr he1)
    refine ⟨e, ?_, ?_, hcell.symm, heS⟩
    · show (hL S' c (l + 1)).Perm (e :: hL S c (l + 1))
      refine hperm.trans ?_
      rw [hL_succ]
      refine (List.perm_ext_iff_of_nodup (nodup_of_ids (hids.filter _)) (List.nodup_cons.2 ⟨fun hm => ?_, nodup_of_ids (hids.filter _)⟩)).2 (fun q => ?_)
      · have := (List.mem_filter.1 hm).2
        rw [hte] at this
        simp at this
      · rw [List.mem_filter, List.mem_cons, List.mem_filter]
        constructor
        · rintro ⟨g1, g2⟩
          rcases (hmem q g1).1 (by simpa using g2) with g | g
          · exact Or.inl g
          · exact Or.inr ⟨g1, by simp [g]⟩
        · rintro (rfl | ⟨g1, g2⟩)
          · exact ⟨he1, by simp [hte']⟩
          · exact ⟨g1, by rw [(hmem q g1).2 (Or.inr (by simpa using g2))]; rfl⟩
    · have h0 : cntL S c (l + 1) e = 0 := by
        unfold cntL
        rw [List.countP_eq_zero]
        intro r hr hre
        rw [hL_succ] at hr
        obtain ⟨g1, g2⟩ := List.mem_filter.1 hr
        have hn : takes S c l r = false := by simpa using g2
        obtain ⟨g3, g4⟩ := lessB_iff.1 hre
        have hup := cell_up (hf r (h.sub (Or.inr g1))) (hf e heS) hl g3
        have := cnt_lt g1 (lessB_iff.2 ⟨hup, g4⟩)
        rw [takes_cnt, hl12, Bool.false_or] at hn
        have := of_decide_eq_false hn
        omega
      omega
  · left
    refine hperm.trans ?_
    rw [hL_succ]
    refine List.Perm.of_eq (List.filter_congr fun q hq => ?_)
    rw [takes_cnt, takes_cnt, hl12, Bool.false_or, Bool.false_or, hcnt]
    by_cases hd : lessB l q d = true
    · have : cntL S c l q + 1 ≠ c := fun e => hex ⟨q, hq, hd, e⟩
      rw [if_pos hd]
      congr 1
      by_cases hlt : cntL S c l q < c
      · rw [decide_eq_true hlt, decide_eq_true (by omega)]
      · rw [decide_eq_false hlt, decide_eq_false (by omega)]
    · rw [if_neg hd, Nat.add_zero]
/-- the keys that change from a level on -/
structure ChFrom (S S' : List Pt) (c l : Nat) (K : List Ky) : Prop where
  link : Linked K
  some : K ≠ []
  mem : ∀ k : Ky, (l : Int) ≤ k.L → (Ch S S' c k ↔ k ∈ K)
  low : ∀ k ∈ K, (l : Int) ≤ k.L
include hS hf hc in
theorem hot_chain : ∀ (n l : Nat) (d : Pt), l + n = 12 → More S S' c l d → d ∈ S' → (l = 12 ∨ cntL S c l d < c) → ∃ K, ChFrom S S' c l K ∧ K.head? = some (cellK l d)
  | 0, l, d, hn, h, hd, hhot => by
    obtain rfl : l = 12 := by omega
    refine ⟨[cellK 12 d], ⟨Linked.one _, by simp, fun k hk => ?_, fun k hk => ?_⟩, rfl⟩
    · rw [List.mem_singleton]
      constructor
      · intro hch
        obtain ⟨m, h1, h2⟩ := ch_level hch
        exact (hot_ch hS h (by omega) (Or.inl rfl) k (by omega)).1 hch
      · rintro rfl
        exact (hot_ch hS h (by omega) (Or.inl rfl) _ rfl).2 rfl
    · obtain rfl := List.mem_singleton.1 hk
      exact Int.le_refl _
  | n + 1, l, d, hn, h, hd, hhot => by
    have hhot' : cntL S c l d < c := hhot.resolve_left (by omega)
    have hch := hot_ch hS h (by omega) hhot
    rcases hot_next hS hf hc h (by omega) hhot' with hq | ⟨e, h1, h2, h3, h4⟩
    · refine ⟨[cellK l d], ⟨Linked.one _, by simp, fun k hk => ?_, fun k hk => ?_⟩, rfl⟩
      · rw [List.mem_singleton]
        by_cases hkl : k.L = l
        · exact hch k hkl
        · constructor
          · exact fun g => absurd g (quiet_all hq (by omega))
          · rintro rfl; exact absurd rfl hkl
      · obtain rfl := List.mem_singleton.1 hk
        exact Int.le_refl _
    · obtain ⟨K, hK, hhd⟩ := hot_chain n (l + 1) e (by omega) h1 h4 (Or.inr h2)
      refine ⟨cellK l d :: K, ⟨hK.link.cons hhd (by rw [← h3]; exact cell_link (hf e h4) (by omega)), by simp, fun k hk => ?_, fun k hk => ?_⟩, rfl⟩
      · rw [List.mem_cons]
        by_cases hkl : k.L = l
        · rw [hch k hkl]
          constructor
          · exact Or.inl
          · rintro (g | g)
            · exact g
            · have := hK.low k g; omega
        · rw [hK.mem k (by omega)]
          constructor
          · exact Or.inr
          · rintro (rfl | g)
            · exact absurd rfl hkl
            · exact g
      · rcases List.mem_cons.1 hk with g | g
        · subst g; exact Int.le_refl _
        · have := hK.low k g; omega
include hS hf hc in
theorem more_chain : ∀ (n l : Nat) (d : Pt), l + n = 12 → More S S' c l d → d ∈ S' → ∃ K, ChFrom S S' c l K
  | 0, l, d, hn, h, hd => by
    obtain ⟨K, h1, _⟩ := hot_chain hS hf hc 0 l d hn h hd (Or.inl (by omega))
    exact ⟨K, h1⟩
  | n + 1, l, d, hn, h, hd => by
    by_cases hhot : cntL S c l d < c
    · obtain ⟨K, h1, _⟩ := hot_chain hS hf hc (n + 1) l d hn h hd (Or.inr hhot)
      exact ⟨K, h1⟩
    · obtain ⟨h1, h2⟩ := cold_next h (by omega) (by omega)
      obtain ⟨K, hK⟩ := more_chain n (l + 1) d (by omega) h1 hd
      refine ⟨K, hK.link, hK.some, fun k hk => ?_, fun k hk => by have := hK.low k hk; omega⟩
      by_cases hkl : k.L = l
      · constructor
        · exact fun g => absurd g (h2 k hkl)
        · exact fun g => by have := hK.low k g; omega
      · exact hK.mem k (by omega)
end
/-- one point more: the keys of the tiles that differ, in their order, lie each in the cell of the one before -/
theorem one_more {S S' : List Pt} {c : Nat} {p : Pt} (hg : goodL S' = true) (hc : 1 ≤ c) (hp : S'.Perm (p :: S)) {A B : List Tl} (hA : IsLayout S c A) (hB : IsLayout S' c B) {K : List Ky} (hK : IsChg A B K) : K ≠ [] ∧ Linked K := by
  obtain ⟨hS, hf, _⟩ := goodL_facts hg
  have h0 : ∀ T : List Pt, hL T c 0 = T := fun T => List.filter_eq_self.2 (fun _ _ => rfl)
  obtain ⟨K', h1⟩ := more_chain hS hf hc 12 0 p rfl (show (hL S' c 0).Perm (p :: hL S c 0) by rw [h0, h0]; exact hp) (hp.mem_iff.2 (List.mem_cons_self ..))
  have e : K = K' := keys_same hK.order h1.link.order (fun k => by
    rw [hK.mem, differs_ch hA hB]
    by_cases hk : (0 : Int) ≤ k.L
    · exact h1.mem k hk
    · constructor
      · intro g
        obtain ⟨m, _, h3⟩ := ch_level g
        omega
      · intro g
        have := h1.low k g
        omega)
  subst e
  exact ⟨h1.some, h1.link⟩
end Go.Proofs.Yteanlcefdoigcaa
