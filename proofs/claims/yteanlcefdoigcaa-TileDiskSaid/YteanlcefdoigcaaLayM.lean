/- The layout of points in plain Lean: which tiles it has, and that these are determined by what it says of them. The steps of a layout in plain Lean: the points that are left at a level in the order of their ranks, and which of them a tile takes. -/
import Derived.Test.YteanlcefdoigcaaValid
import Derived.Test.YteanlcefdoigcaaKeys
namespace Go.Proofs.Yteanlcefdoigcaa
open Go.RowKit

structure Pt where
  id : Int
  x : Int
  y : Int
  zl : Int
  zh : Int
  wd : Int
  nm : Int
  of : Int
  cl : Int
structure Ky where
  L : Int
  x : Int
  y : Int
  z : Int
structure Tl where
  key : Ky
  pts : List Pt
instance : Inhabited Pt := ⟨⟨0, 0, 0, 0, 0, 0, 0, 0, 0⟩⟩
instance : Inhabited Ky := ⟨⟨0, 0, 0, 0⟩⟩
instance : Inhabited Tl := ⟨⟨default, []⟩⟩
def Pt.f (p : Pt) (j : Nat) : Int := match j with | 0 => p.id | 1 => p.x | 2 => p.y | 3 => p.zl | 4 => p.zh | 5 => p.wd | 6 => p.nm | 7 => p.of | _ => p.cl
def Pt.of' (g : Nat → Int) : Pt := ⟨g 0, g 1, g 2, g 3, g 4, g 5, g 6, g 7, g 8⟩
theorem Pt.of'_f (g : Nat → Int) (j : Nat) (hj : j < 9) : (Pt.of' g).f j = g j := by
  match j, hj with
  | 0, _ | 1, _ | 2, _ | 3, _ | 4, _ | 5, _ | 6, _ | 7, _ | 8, _ => rfl
theorem Ky.ext' {a b : Ky} (h1 : a.L = b.L) (h2 : a.x = b.x) (h3 : a.y = b.y) (h4 : a.z = b.z) : a = b := by
  cases a; cases b; simp at *; exact ⟨h1, h2, h3, h4⟩
instance : DecidableEq Ky := fun a b =>
  if h : a.L = b.L ∧ a.x = b.x ∧ a.y = b.y ∧ a.z = b.z then isTrue (Ky.ext' h.1 h.2.1 h.2.2.1 h.2.2.2) else isFalse (fun e => h (by subst e; exact ⟨rfl, rfl, rfl, rfl⟩))
/-- the order of keys -/
def Ky.lt (a b : Ky) : Prop := a.L < b.L ∨ (a.L = b.L ∧ (a.x < b.x ∨ (a.x = b.x ∧ (a.y < b.y ∨ (a.y = b.y ∧ a.z < b.z)))))
theorem Ky.lt_irrefl (a : Ky) : ¬ a.lt a := by unfold Ky.lt; omega
theorem Ky.lt_trans {a b c : Ky} (h : a.lt b) (h2 : b.lt c) : a.lt c := by unfold Ky.lt at *; omega
theorem Ky.lt_total {a b : Ky} (h : a ≠ b) : a.lt b ∨ b.lt a := by
  by_cases h1 : a.L = b.L ∧ a.x = b.x ∧ a.y = b.y ∧ a.z = b.z
  · exact absurd (Ky.ext' h1.1 h1.2.1 h1.2.2.1 h1.2.2.2) h
  · unfold Ky.lt; omega
/-- the cell of a point at a level -/
def cellK (l : Nat) (p : Pt) : Ky := ⟨l, idxV p.x l, idxV p.y l, idxV p.zl l⟩
theorem cellK_level {l m : Nat} {p q : Pt} (h : cellK l p = cellK m q) : l = m := by
  have : (l : Int) = m := congrArg Ky.L h
  omega
/-- q lies in p's cell of a level and has a lesser rank -/
def lessB (l : Nat) (p q : Pt) : Bool := decide (cellK l q = cellK l p) && decide (rankV q.id < rankV p.id)
/-- has the point no tile above the level? -/
def here (S : List Pt) (c : Nat) : Nat → Pt → Bool
  | 0 => fun _ => true
  | l + 1 => fun p => here S c l p && !(decide (l = 12) || decide (S.countP (fun q => here S c l q && lessB l p q) < c))
/-- would it be taken at the level? -/
def takes (S : List Pt) (c l : Nat) (p : Pt) : Bool := decide (l = 12) || decide (S.countP (fun q => here S c l q && lessB l p q) < c)
theorem here_succ (S : List Pt) (c l : Nat) (p : Pt) : here S c (l + 1) p = (here S c l p && !takes S c l p) := rfl
theorem here_perm {S S' : List Pt} (h : S.Perm S') (c : Nat) : ∀ l, here S c l = here S' c l
  | 0 => rfl
  | l + 1 => by
    funext p
    rw [here_succ, here_succ, here_perm h c l]
    unfold takes
    rw [here_perm h c l, h.countP_eq]
theorem takes_perm {S S' : List Pt} (h : S.Perm S') (c l : Nat) (p : Pt) : takes S c l p = takes S' c l p := by
  unfold takes
  rw [here_perm h c l, h.countP_eq]
theorem here_mono {S : List Pt} {c : Nat} {p : Pt} : ∀ {l m : Nat}, l ≤ m → here S c m p = true → here S c l p = true
  | l, 0, h, _ => by
    obtain rfl : l = 0 := by omega
    rfl
  | l, m + 1, h, h2 => by
    by_cases he : l = m + 1
    · subst he; exact h2
    · rw [here_succ, Bool.and_eq_true] at h2
      exact here_mono (by omega) h2.1
theorem here_13 (S : List Pt) (c : Nat) (p : Pt) : here S c 13 p = false := by
  rw [here_succ]; simp [takes]
/-- the point's tile has this key -/
def isAt (S : List Pt) (c : Nat) (p : Pt) (k : Ky) : Prop := ∃ l, l ≤ 12 ∧ here S c l p = true ∧ takes S c l p = true ∧ k = cellK l p
theorem isAt_perm {S S' : List Pt} (h : S.Perm S') {c : Nat} {p : Pt} {k : Ky} : isAt S c p k ↔ isAt S' c p k := by
  unfold isAt
  constructor
  · rintro ⟨l, h1, h2, h3, h4⟩; exact ⟨l, h1, by rw [← here_perm h]; exact h2, by rw [← takes_perm h]; exact h3, h4⟩
  · rintro ⟨l, h1, h2, h3, h4⟩; exact ⟨l, h1, by rw [here_perm h]; exact h2, by rw [takes_perm h]; exact h3, h4⟩
theorem takes_not {S : List Pt} {c l m : Nat} {p : Pt} (h : takes S c l p = true) (hlm : l < m) : here S c m p = false := by
  cases hm : here S c m p
  · rfl
  · have := here_mono (l := l + 1) (by omega) hm
    rw [here_succ, h] at this
    simp at this
theorem isAt_level {S : List Pt} {c l m : Nat} {p : Pt} (h1 : here S c l p = true) (h2 : takes S c l p = true) (h3 : here S c m p = true) (h4 : takes S c m p = true) : l = m := by
  rcases Nat.lt_trichotomy l m with h | h | h
  · rw [takes_not h2 h] at h3; cases h3
  · exact h
  · rw [takes_not h4 h] at h1; cases h1
theorem isAt_un {S : List Pt} {c : Nat} {p : Pt} {k k' : Ky} (h : isAt S c p k) (h' : isAt S c p k') : k = k' := by
  obtain ⟨l, _, h2, h3, rfl⟩ := h
  obtain ⟨m, _, g2, g3, rfl⟩ := h'
  rw [isAt_level h2 h3 g2 g3]
theorem at_or_here (S : List Pt) (c : Nat) (p : Pt) : ∀ m, here S c m p = true ∨ ∃ l, l < m ∧ here S c l p = true ∧ takes S c l p = true
  | 0 => .inl rfl
  | m + 1 => by
    rcases at_or_here S c p m with h | ⟨l, h1, h2, h3⟩
    · cases ht : takes S c m p
      · left; rw [here_succ, h, ht]; rfl
      · exact .inr ⟨m, by omega, h, ht⟩
    · exact .inr ⟨l, by omega, h2, h3⟩
theorem isAt_ex (S : List Pt) (c : Nat) (p : Pt) : ∃ k, isAt S c p k := by
  rcases at_or_here S c p 13 with h | ⟨l, h1, h2, h3⟩
  · rw [here_13] at h; cases h
  · exact ⟨_, l, by omega, h2, h3, rfl⟩
theorem isAt_bd {S : List Pt} {c : Nat} {p : Pt} {k : Ky} (h : isAt S c p k) : ∃ l : Nat, l ≤ 12 ∧ k.L = l := by
  obtain ⟨l, h1, _, _, rfl⟩ := h
  exact ⟨l, h1, rfl⟩
/-- tiles with different keys, each with the points of its key, in ascending order of Id -/
structure Tiles (Q : Pt → Ky → Prop) (T : List Tl) : Prop where
  keys : T.Pairwise (fun t u => t.key ≠ u.key)
  pts : ∀ t ∈ T, t.pts ≠ [] ∧ t.pts.Pairwise (fun p q => p.id < q.id)
  mem : ∀ t ∈ T, ∀ p, p ∈ t.pts ↔ Q p t.key
  all : ∀ p k, Q p k → ∃ t ∈ T, t.key = k
theorem Tiles.nil {Q : Pt → Ky → Prop} (h : ∀ p k, ¬ Q p k) : Tiles Q [] := ⟨List.Pairwise.nil, fun t ht => (by simp at ht), fun t ht => (by simp at ht), fun p k hq => absurd hq (h p k)⟩
theorem Tiles.congr {Q Q' : Pt → Ky → Prop} {T : List Tl} (h : Tiles Q T) (he : ∀ p k, Q p k ↔ Q' p k) : Tiles Q' T :=
  ⟨h.keys, h.pts, fun t ht p => (h.mem t ht p).trans (he p t.key), fun p k hq => h.all p k ((he p k).2 hq)⟩
theorem Tiles.perm {Q : Pt → Ky → Prop} {T T' : List Tl} (h : Tiles Q T) (hp : T.Perm T') : Tiles Q T' :=
  ⟨(hp.pairwise_iff (fun {_ _} e => Ne.symm e)).1 h.keys, fun t ht => h.pts t (hp.mem_iff.2 ht), fun t ht => h.mem t (hp.mem_iff.2 ht), fun p k hq => by
    obtain ⟨t, h1, h2⟩ := h.all p k hq
    exact ⟨t, hp.mem_iff.1 h1, h2⟩⟩
theorem Tiles.add {Q : Pt → Ky → Prop} {T : List Tl} {k : Ky} {pts : List Pt} (h : Tiles Q T) (hk : ∀ p, ¬ Q p k) (hn : pts ≠ []) (hs : pts.Pairwise (fun p q => p.id < q.id)) :
    Tiles (fun p x => Q p x ∨ (x = k ∧ p ∈ pts)) (T ++ [⟨k, pts⟩]) := by
  have hne : ∀ t ∈ T, t.key ≠ k := fun t ht e => by
    obtain ⟨h1, _⟩ := h.pts t ht
    cases hp : t.pts with
    | nil => exact h1 hp
    | cons p l => exact hk p (e ▸ (h.mem t ht p).1 (by rw [hp]; simp))
  refine ⟨?_, ?_, ?_, ?_⟩
  · rw [List.pairwise_append]
    exact ⟨h.keys, List.pairwise_singleton _ _, fun t ht u hu => by obtain rfl := List.mem_singleton.1 hu; exact hne t ht⟩
  · intro t ht
    rcases List.mem_append.1 ht with g | g
    · exact h.pts t g
    · obtain rfl := List.mem_singleton.1 g; exact ⟨hn, hs⟩
  · intro t ht p
    rcases List.mem_append.1 ht with g | g
    · rw [h.mem t g p]
      exact ⟨.inl, fun e => e.elim id (fun e => absurd e.1 (hne t g))⟩
    · obtain rfl := List.mem_singleton.1 g
      exact ⟨fun e => .inr ⟨rfl, e⟩, fun e => e.elim (fun e => absurd e (hk p)) (·.2)⟩
  · intro p x hq
    rcases hq with g | ⟨rfl, g⟩
    · obtain ⟨t, h1, h2⟩ := h.all p x g
      exact ⟨t, List.mem_append_left _ h1, h2⟩
    · exact ⟨_, List.mem_append_right _ (List.mem_singleton.2 rfl), rfl⟩
theorem Tiles.more {Q : Pt → Ky → Prop} {T : List Tl} {n : Nat} {t : Tl} {p : Pt} (h : Tiles Q T) (hn : T[n]? = some t) (hp : ∀ q ∈ t.pts, q.id < p.id) :
    Tiles (fun q x => Q q x ∨ (x = t.key ∧ q = p)) (T.set n ⟨t.key, t.pts ++ [p]⟩) := by
  have hlt : n < T.length := (List.getElem?_eq_some_iff.1 hn).1
  have hel : T[n] = t := (List.getElem?_eq_some_iff.1 hn).2
  have hap := List.pairwise_iff_getElem.1 h.keys
  have hkey : ∀ i (hi : i < T.length), T[i].key = t.key → i = n := fun i hi e => by
    rcases Nat.lt_trichotomy i n with g | g | g
    · exact absurd (e.trans (by rw [hel])) (hap i n hi hlt g)
    · exact g
    · exact absurd ((by rw [hel] : T[n].key = t.key).trans e.symm) (hap n i hlt hi g)
  have hmem : t ∈ T := List.mem_of_getElem? hn
  have hin : ∀ u, u ∈ T.set n ⟨t.key, t.pts ++ [p]⟩ → u = ⟨t.key, t.pts ++ [p]⟩ ∨ (u ∈ T ∧ u.key ≠ t.key) := fun u hu => by
    obtain ⟨i, hi, e⟩ := List.mem_iff_getElem.1 hu
    rw [List.getElem_set] at e
    split at e
    · exact .inl e.symm
    · rename_i g
      simp at hi
      exact .inr ⟨e ▸ List.getElem_mem hi, fun e2 => g (hkey i hi (by rw [e]; exact e2)).symm⟩
  refine ⟨?_, ?_, ?_, ?_⟩
  · rw [List.pairwise_iff_getElem]
    intro i j hi hj hij
    simp at hi hj
    rw [List.getElem_set, List.getElem_set]
    split
    · split
      · omega
      · rename_i g1 g2
        exact fun e => g2 (hkey j hj e.symm).symm
    · split
      · rename_i g1 g2
        exact fun e => g1 (hkey i hi e).symm
      · exact hap i j hi hj hij
  · intro u hu
    rcases hin u hu with rfl | ⟨g, _⟩
    · refine ⟨by simp, ?_⟩
      rw [List.pairwise_append]
      exact ⟨(h.pts t hmem).2, List.pairwise_singleton _ _, fun a ha b hb => by obtain rfl := List.mem_singleton.1 hb; exact hp a ha⟩
    · exact h.pts u g
  · intro u hu q
    rcases hin u hu with rfl | ⟨g, gk⟩
    · show q ∈ t.pts ++ [p] ↔ _
      rw [List.mem_append, List.mem_singleton, h.mem t hmem q]
      exact ⟨fun e => e.elim .inl (fun e => .inr ⟨rfl, e⟩), fun e => e.elim .inl (fun e => .inr e.2)⟩
    · rw [h.mem u g q]
      exact ⟨.inl, fun e => e.elim id (fun e => absurd e.1 gk)⟩
  · intro q x hq
    have hnew : (⟨t.key, t.pts ++ [p]⟩ : Tl) ∈ T.set n ⟨t.key, t.pts ++ [p]⟩ := List.mem_iff_getElem.2 ⟨n, by simpa using hlt, by rw [List.getElem_set_self]⟩
    by_cases hx : x = t.key
    · exact ⟨_, hnew, hx.symm⟩
    · rcases hq with g | ⟨g, _⟩
      · obtain ⟨u, h1, h2⟩ := h.all q x g
        obtain ⟨i, hi, e⟩ := List.mem_iff_getElem.1 h1
        refine ⟨u, List.mem_iff_getElem.2 ⟨i, by simpa using hi, ?_⟩, h2⟩
        rw [List.getElem_set_ne (by intro e2; subst e2; rw [hel] at e; subst e; exact hx h2.symm)]
        exact e
      · exact absurd g hx
/-- two strictly ascending lists with the same members are the same -/
theorem sorted_same {α : Type} {r : α → α → Prop} (irr : ∀ a, ¬ r a a) (tr : ∀ a b c, r a b → r b c → r a c) : ∀ {l m : List α}, l.Pairwise r → m.Pairwise r → (∀ a, a ∈ l ↔ a ∈ m) → l = m
  | [], [], _, _, _ => rfl
  | [], b :: m, _, _, h => by have := (h b).2 (by simp); simp at this
  | a :: l, [], _, _, h => by have := (h a).1 (by simp); simp at this
  | a :: l, b :: m, hl, hm, h => by
    obtain ⟨hl1, hl2⟩ := List.pairwise_cons.1 hl
    obtain ⟨hm1, hm2⟩ := List.pairwise_cons.1 hm
    have e : a = b := by
      rcases List.mem_cons.1 ((h a).1 (by simp)) with g | g
      · exact g
      · rcases List.mem_cons.1 ((h b).2 (by simp)) with g2 | g2
        · exact g2.symm
        · exact absurd (tr _ _ _ (hl1 b g2) (hm1 a g)) (irr a)
    subst e
    rw [sorted_same irr tr hl2 hm2 (fun x => ?_)]
    constructor
    · intro hx
      rcases List.mem_cons.1 ((h x).1 (List.mem_cons_of_mem _ hx)) with g | g
      · subst g; exact absurd (hl1 x hx) (irr x)
      · exact g
    · intro hx
      rcases List.mem_cons.1 ((h x).2 (List.mem_cons_of_mem _ hx)) with g | g
      · subst g; exact absurd (hm1 x hx) (irr x)
      · exact g
/-- the tiles of points, in the order of their keys -/
structure IsLayout (S : List Pt) (c : Nat) (T : List Tl) : Prop where
  order : T.Pairwise (fun t u => t.key.lt u.key)
  tiles : Tiles (fun p k => p ∈ S ∧ isAt S c p k) T
theorem tiles_mem {Q : Pt → Ky → Prop} {T T' : List Tl} (h : Tiles Q T) (h' : Tiles Q T') (t : Tl) (ht : t ∈ T) : t ∈ T' := by
  obtain ⟨hn, hs⟩ := h.pts t ht
  obtain ⟨p, hp⟩ : ∃ p, p ∈ t.pts := List.exists_mem_of_ne_nil _ hn
  obtain ⟨u, hu, he⟩ := h'.all p t.key ((h.mem t ht p).1 hp)
  have e : t.pts = u.pts := sorted_same (r := fun p q : Pt => p.id < q.id) (fun a => by omega) (fun a b c h1 h2 => by omega) hs (h'.pts u hu).2 (fun a => by rw [h.mem t ht a, h'.mem u hu a, he])
  have : t = u := by
    cases t; cases u; simp at he e; rw [he, e]
  rw [this]; exact hu
theorem tiles_unique {Q : Pt → Ky → Prop} {T T' : List Tl} (h : Tiles Q T) (h' : Tiles Q T') (o : T.Pairwise (fun t u => t.key.lt u.key)) (o' : T'.Pairwise (fun t u => t.key.lt u.key)) : T = T' :=
  sorted_same (r := fun t u : Tl => t.key.lt u.key) (fun _ => Ky.lt_irrefl _) (fun _ _ _ => Ky.lt_trans) o o' (fun t => ⟨tiles_mem h h' t, tiles_mem h' h t⟩)
theorem IsLayout.unique {S : List Pt} {c : Nat} {T T' : List Tl} (h : IsLayout S c T) (h' : IsLayout S c T') : T = T' := tiles_unique h.tiles h'.tiles h.order h'.order
theorem IsLayout.perm {S S' : List Pt} {c : Nat} {T : List Tl} (hp : S.Perm S') (h : IsLayout S c T) : IsLayout S' c T :=
  ⟨h.order, h.tiles.congr (fun p k => by rw [hp.mem_iff, isAt_perm hp])⟩
/-- tiles with different keys that stand in the order of their keys -/
theorem order_strict {Q : Pt → Ky → Prop} {T : List Tl} (h : Tiles Q T) (ho : T.Pairwise (fun t u => ¬ u.key.lt t.key)) : T.Pairwise (fun t u => t.key.lt u.key) := by
  refine (h.keys.and ho).imp ?_
  rintro a b ⟨h1, h2⟩
  rcases Ky.lt_total h1 with g | g
  · exact g
  · exact absurd g h2
end Go.Proofs.Yteanlcefdoigcaa
namespace Go.Proofs.Yteanlcefdoigcaa
open Go.RowKit

/-- Ids that are Ids and different -/
def GoodS (S : List Pt) : Prop := S.Pairwise (fun p q => p.id ≠ q.id) ∧ ∀ p ∈ S, 0 ≤ p.id ∧ p.id ≤ 1152921504606846976
/-- the points without a tile above the level, in the order of their ranks -/
structure LeftAt (S : List Pt) (c l : Nat) (Lf : List Pt) : Prop where
  perm : Lf.Perm (S.filter (here S c l))
  rank : Lf.Pairwise (fun p q => rankV p.id < rankV q.id)
theorem LeftAt.mem {S : List Pt} {c l : Nat} {Lf : List Pt} (h : LeftAt S c l Lf) {p : Pt} : p ∈ Lf ↔ p ∈ S ∧ here S c l p = true := by
  rw [h.perm.mem_iff, List.mem_filter]
theorem left_start {S : List Pt} {c : Nat} {Lf : List Pt} (hS : GoodS S) (hp : Lf.Perm S) (hs : Lf.Pairwise (fun p q => ¬ rankV q.id < rankV p.id)) : LeftAt S c 0 Lf := by
  refine ⟨?_, ?_⟩
  · have e : S.filter (here S c 0) = S := List.filter_eq_self.2 (fun _ _ => rfl)
    rw [e]; exact hp
  · have hd : Lf.Pairwise (fun p q => p.id ≠ q.id) := (hp.pairwise_iff (fun {_ _} e => Ne.symm e)).2 hS.1
    have hall : ∀ p ∈ Lf, 0 ≤ p.id ∧ p.id ≤ 1152921504606846976 := fun p h => hS.2 p (hp.mem_iff.1 h)
    refine List.Pairwise.imp_of_mem ?_ (hd.and hs)
    rintro a b ha hb ⟨h1, h2⟩
    have : rankV a.id ≠ rankV b.id := fun e => h1 (rank_inj (hall a ha) (hall b hb) e)
    omega
theorem LeftAt.next {S : List Pt} {c l : Nat} {Lf : List Pt} (h : LeftAt S c l Lf) : LeftAt S c (l + 1) (Lf.filter (fun q => !takes S c l q)) := by
  refine ⟨?_, h.rank.filter _⟩
  refine (h.perm.filter _).trans ?_
  rw [List.filter_filter]
  refine List.Perm.of_eq (List.filter_congr fun p _ => ?_)
  rw [here_succ, Bool.and_comm]
theorem LeftAt.count {S : List Pt} {c l i : Nat} {Lf : List Pt} {p : Pt} (h : LeftAt S c l Lf) (hi : Lf[i]? = some p) : S.countP (fun q => here S c l q && lessB l p q) = (Lf.take i).countP (fun q => decide (cellK l q = cellK l p)) := by
  have e1 : S.countP (fun q => here S c l q && lessB l p q) = (S.filter (here S c l)).countP (lessB l p) := by
    rw [List.countP_filter]
    exact List.countP_congr (fun q _ => by rw [Bool.and_comm])
  rw [e1, ← h.perm.countP_eq]
  obtain ⟨hlt, hel⟩ := List.getElem?_eq_some_iff.1 hi
  have hpw := List.pairwise_iff_getElem.1 h.rank
  have hsp : (Lf.take i ++ Lf.drop i).countP (lessB l p) = (Lf.take i).countP (fun q => decide (cellK l q = cellK l p)) := by
    rw [List.countP_append]
    have z : (Lf.drop i).countP (lessB l p) = 0 := by
      rw [List.countP_eq_zero]
      intro q hq
      obtain ⟨j, hj, e⟩ := List.mem_iff_getElem.1 hq
      rw [List.getElem_drop] at e
      simp at hj
      have : ¬ rankV q.id < rankV p.id := by
        rw [← e, ← hel]
        by_cases h0 : j = 0
        · subst h0; simp
        · have := hpw i (i + j) hlt (by omega) (by omega)
          omega
      simp [lessB, this]
    rw [z, Nat.add_zero]
    refine List.countP_congr fun q hq => ?_
    obtain ⟨j, hj, e⟩ := List.mem_iff_getElem.1 hq
    rw [List.getElem_take] at e
    simp at hj
    have : rankV q.id < rankV p.id := by
      rw [← e, ← hel]
      exact hpw j i (by omega) hlt (by omega)
    simp [lessB, this]
  rw [List.take_append_drop] at hsp
  exact hsp
theorem LeftAt.takes {S : List Pt} {c l i : Nat} {Lf : List Pt} {p : Pt} (h : LeftAt S c l Lf) (hi : Lf[i]? = some p) : takes S c l p = (decide (l = 12) || decide ((Lf.take i).countP (fun q => decide (cellK l q = cellK l p)) < c)) := by
  unfold Yteanlcefdoigcaa.takes
  rw [h.count hi]
/-- what the tile of a key has taken of the first i points -/
def grp (S : List Pt) (c l : Nat) (Lf : List Pt) (i : Nat) (k : Ky) : List Pt := (Lf.take i).filter (fun q => decide (cellK l q = k) && takes S c l q)
def rst (S : List Pt) (c l : Nat) (Lf : List Pt) (i : Nat) : List Pt := (Lf.take i).filter (fun q => !takes S c l q)
theorem take_succ' {Lf : List Pt} {i : Nat} {p : Pt} (hi : Lf[i]? = some p) : Lf.take (i + 1) = Lf.take i ++ [p] := by
  rw [List.take_add_one, hi]
  rfl
theorem grp_yes {S : List Pt} {c l i : Nat} {Lf : List Pt} {p : Pt} (hi : Lf[i]? = some p) (ht : takes S c l p = true) : grp S c l Lf (i + 1) (cellK l p) = grp S c l Lf i (cellK l p) ++ [p] := by
  unfold grp
  rw [take_succ' hi, List.filter_append]
  simp [ht]
theorem grp_other {S : List Pt} {c l i : Nat} {Lf : List Pt} {p : Pt} {k : Ky} (hi : Lf[i]? = some p) (h : takes S c l p = false ∨ cellK l p ≠ k) : grp S c l Lf (i + 1) k = grp S c l Lf i k := by
  unfold grp
  rw [take_succ' hi, List.filter_append]
  rcases h with h | h
  · simp [h]
  · simp [h]
theorem rst_yes {S : List Pt} {c l i : Nat} {Lf : List Pt} {p : Pt} (hi : Lf[i]? = some p) (ht : takes S c l p = true) : rst S c l Lf (i + 1) = rst S c l Lf i := by
  unfold rst
  rw [take_succ' hi, List.filter_append]
  simp [ht]
theorem rst_no {S : List Pt} {c l i : Nat} {Lf : List Pt} {p : Pt} (hi : Lf[i]? = some p) (ht : takes S c l p = false) : rst S c l Lf (i + 1) = rst S c l Lf i ++ [p] := by
  unfold rst
  rw [take_succ' hi, List.filter_append]
  simp [ht]
theorem grp_len {S : List Pt} {c l : Nat} {Lf : List Pt} (h : LeftAt S c l Lf) (hl : l ≠ 12) (k : Ky) : ∀ i, i ≤ Lf.length → (grp S c l Lf i k).length = min c ((Lf.take i).countP (fun q => decide (cellK l q = k)))
  | 0, _ => by simp [grp]
  | i + 1, hi => by
    have ih := grp_len h hl k i (by omega)
    have hp : Lf[i]? = some Lf[i] := List.getElem?_eq_getElem (by omega)
    have ht := h.takes hp
    simp only [hl, decide_false, Bool.false_or] at ht
    rw [take_succ' hp, List.countP_append]
    by_cases hk : cellK l Lf[i] = k
    · subst hk
      rw [show List.countP (fun q => decide (cellK l q = cellK l Lf[i])) [Lf[i]] = 1 by simp]
      by_cases hc : (Lf.take i).countP (fun q => decide (cellK l q = cellK l Lf[i])) < c
      · rw [grp_yes hp (by rw [ht]; exact decide_eq_true hc), List.length_append, ih]
        simp
        omega
      · rw [grp_other hp (Or.inl (by rw [ht]; exact decide_eq_false hc)), ih]
        omega
    · rw [grp_other hp (Or.inr hk), ih, show List.countP (fun q => decide (cellK l q = k)) [Lf[i]] = 0 by simp [hk]]
      simp
theorem takes_grp {S : List Pt} {c l i : Nat} {Lf : List Pt} {p : Pt} (h : LeftAt S c l Lf) (hi : Lf[i]? = some p) : takes S c l p = (decide (l = 12) || decide ((grp S c l Lf i (cellK l p)).length < c)) := by
  rw [h.takes hi]
  by_cases hl : l = 12
  · simp [hl]
  · rw [grp_len h hl _ i (by have := (List.getElem?_eq_some_iff.1 hi).1; omega)]
    simp [hl]
    omega
theorem grp_mem {S : List Pt} {c l i : Nat} {Lf : List Pt} {p : Pt} {k : Ky} : p ∈ grp S c l Lf i k ↔ p ∈ Lf.take i ∧ cellK l p = k ∧ takes S c l p = true := by
  unfold grp
  rw [List.mem_filter]
  simp
/-- at a level's end: a tile has all points that belong to it -/
theorem grp_full {S : List Pt} {c l : Nat} {Lf : List Pt} {p : Pt} {k : Ky} (h : LeftAt S c l Lf) (hl : l ≤ 12) (hk : k.L = l) : p ∈ grp S c l Lf Lf.length k ↔ p ∈ S ∧ isAt S c p k := by
  rw [grp_mem, List.take_length, h.mem]
  constructor
  · rintro ⟨⟨h1, h2⟩, h3, h4⟩
    exact ⟨h1, l, hl, h2, h4, h3.symm⟩
  · rintro ⟨h1, m, _, h3, h4, rfl⟩
    have : m = l := by
      have : (m : Int) = l := hk
      omega
    subst this
    exact ⟨⟨h1, h3⟩, rfl, h4⟩
theorem grp_ids {S : List Pt} {c l i : Nat} {Lf : List Pt} (hS : GoodS S) (h : LeftAt S c l Lf) (k : Ky) : (grp S c l Lf i k).Pairwise (fun p q => p.id ≠ q.id) := by
  have h1 : Lf.Pairwise (fun p q => p.id ≠ q.id) := (h.perm.pairwise_iff (fun {_ _} e => Ne.symm e)).2 (hS.1.filter _)
  exact (h1.sublist (List.take_sublist ..)).filter _
theorem asc_ids {l l' : List Pt} (hp : l'.Perm l) (hd : l.Pairwise (fun p q => p.id ≠ q.id)) (hs : l'.Pairwise (fun p q => ¬ q.id < p.id)) : l'.Pairwise (fun p q => p.id < q.id) := by
  have h1 : l'.Pairwise (fun p q => p.id ≠ q.id) := (hp.pairwise_iff (fun {_ _} e => Ne.symm e)).2 hd
  refine (h1.and hs).imp ?_
  rintro a b ⟨h2, h3⟩
  omega
/-- none is left: all have their tiles above -/
theorem LeftAt.none {S : List Pt} {c l : Nat} (h : LeftAt S c l []) {p : Pt} {k : Ky} (hp : p ∈ S) (hk : isAt S c p k) : k.L < l := by
  obtain ⟨m, h1, h2, h3, rfl⟩ := hk
  have hn : here S c l p = false := by
    cases hq : here S c l p
    · rfl
    · have := h.mem.2 ⟨hp, hq⟩; simp at this
  show (m : Int) < l
  rcases Nat.lt_or_ge m l with g | g
  · omega
  · rw [here_mono g h2] at hn; cases hn
theorem LeftAt.end13 {S : List Pt} {c : Nat} {Lf : List Pt} (h : LeftAt S c 13 Lf) : Lf = [] := by
  cases Lf with
  | nil => rfl
  | cons p l =>
    have := (h.mem.1 (List.mem_cons_self ..)).2
    rw [here_13] at this
    cases this
end Go.Proofs.Yteanlcefdoigcaa
