/- Texts of the seat Yteanlcefdoigcaa, turned to this one by wip/port.py: LayM SortF Lay1. -/
import Derived.Test.YtcclpdfmmdonpaaGreatRows
import Derived.Test.YtcclpdfmmdonpaaGreatXBas
import Derived.Test.YtcclpdfmmdonpaaGreatXArg
import Derived.Test.YtcclpdfmmdonpaaGreatXMap
import Derived.Test.YtcclpdfmmdonpaaGreatXVal
import Derived.Shelf.SlSortCmp.NoneTotal
import Derived.BigQuiet
namespace Go.Proofs.YtcclpdfmmdonpaaGreat
open Go.RowKit
structure Pt where
  id : Int
  x : Int
  y : Int
  zl : Int
  zh : Int
  wd : Int
  nm : Int
  of : Int
  cl : Int
structure Ky where
  L : Int
  x : Int
  y : Int
  z : Int
structure Tl where
  key : Ky
  pts : List Pt
instance : Inhabited Pt := ⟨⟨0, 0, 0, 0, 0, 0, 0, 0, 0⟩⟩
instance : Inhabited Ky := ⟨⟨0, 0, 0, 0⟩⟩
def Pt.f (p : Pt) (j : Nat) : Int := match j with | 0 => p.id | 1 => p.x | 2 => p.y | 3 => p.zl | 4 => p.zh | 5 => p.wd | 6 => p.nm | 7 => p.of | _ => p.cl
theorem Ky.ext' {a b : Ky} (h1 : a.L = b.L) (h2 : a.x = b.x) (h3 : a.y = b.y) (h4 : a.z = b.z) : a = b := by
  cases a; cases b; simp at *; exact ⟨h1, h2, h3, h4⟩
instance : DecidableEq Ky := fun a b =>
  if h : a.L = b.L /\ a.x = b.x /\ a.y = b.y /\ a.z = b.z then isTrue (Ky.ext' h.1 h.2.1 h.2.2.1 h.2.2.2) else isFalse (fun e => h (by subst e; exact ⟨rfl, rfl, rfl, rfl⟩))
def Ky.lt (a b : Ky) : Prop := a.L < b.L ∨ (a.L = b.L /\ (a.x < b.x ∨ (a.x = b.x /\ (a.y < b.y ∨ (a.y = b.y /\ a.z < b.z)))))
theorem Ky.lt_irrefl (a : Ky) : ¬ a.lt a := by unfold Ky.lt; omega
theorem Ky.lt_trans {a b c : Ky} (h : a.lt b) (h2 : b.lt c) : a.lt c := by unfold Ky.lt at *; omega
theorem Ky.lt_total {a b : Ky} (h : a ≠ b) : a.lt b ∨ b.lt a := by
  by_cases h1 : a.L = b.L /\ a.x = b.x /\ a.y = b.y /\ a.z = b.z
  · exact absurd (Ky.ext' h1.1 h1.2.1 h1.2.2.1 h1.2.2.2) h
  · unfold Ky.lt; omega
def cellK (l : Nat) (p : Pt) : Ky := ⟨l, idxV p.x l, idxV p.y l, idxV p.zl l⟩
def lessB (l : Nat) (p q : Pt) : Bool := decide (cellK l q = cellK l p) && decide (rankV q.id < rankV p.id)
def here (S : List Pt) (c : Nat) : Nat -> Pt -> Bool
  | 0 => fun _ => true
  | l + 1 => fun p => here S c l p && !(decide (l = 12) || decide (S.countP (fun q => here S c l q && lessB l p q) < c))
def takes (S : List Pt) (c l : Nat) (p : Pt) : Bool := decide (l = 12) || decide (S.countP (fun q => here S c l q && lessB l p q) < c)
theorem here_succ (S : List Pt) (c l : Nat) (p : Pt) : here S c (l + 1) p = (here S c l p && !takes S c l p) := rfl
theorem here_mono {S : List Pt} {c : Nat} {p : Pt} : ∀ {l m : Nat}, l <= m -> here S c m p = true -> here S c l p = true
  | l, 0, h, _ => by
    obtain rfl : l = 0 := by omega
    rfl
  | l, m + 1, h, h2 => by
    by_cases he : l = m + 1
    · subst he; exact h2
    · rw [here_succ, Bool.and_eq_true] at h2; exact here_mono (by omega) h2.1
theorem here_13 (S : List Pt) (c : Nat) (p : Pt) : here S c 13 p = false := by
  rw [here_succ]; simp [takes]
def isAt (S : List Pt) (c : Nat) (p : Pt) (k : Ky) : Prop := ∃ l, l <= 12 /\ here S c l p = true /\ takes S c l p = true /\ k = cellK l p
theorem takes_not {S : List Pt} {c l m : Nat} {p : Pt} (h : takes S c l p = true) (hlm : l < m) : here S c m p = false := by
  cases hm : here S c m p
  · rfl
  · have := here_mono (l := l + 1) (by omega) hm; rw [here_succ, h] at this; simp at this
theorem isAt_level {S : List Pt} {c l m : Nat} {p : Pt} (h1 : here S c l p = true) (h2 : takes S c l p = true) (h3 : here S c m p = true) (h4 : takes S c m p = true) : l = m := by
  rcases Nat.lt_trichotomy l m with h | h | h
  · rw [takes_not h2 h] at h3; cases h3
  · exact h
  · rw [takes_not h4 h] at h1; cases h1
theorem isAt_un {S : List Pt} {c : Nat} {p : Pt} {k k' : Ky} (h : isAt S c p k) (h' : isAt S c p k') : k = k' := by
  obtain ⟨l, _, h2, h3, rfl⟩ := h; obtain ⟨m, _, g2, g3, rfl⟩ := h'; rw [isAt_level h2 h3 g2 g3]
theorem at_or_here (S : List Pt) (c : Nat) (p : Pt) : ∀ m, here S c m p = true ∨ ∃ l, l < m /\ here S c l p = true /\ takes S c l p = true
  | 0 => .inl rfl
  | m + 1 => by
    rcases at_or_here S c p m with h | ⟨l, h1, h2, h3⟩
    · cases ht : takes S c m p
      · left; rw [here_succ, h, ht]; rfl
      · exact .inr ⟨m, by omega, h, ht⟩
    · exact .inr ⟨l, by omega, h2, h3⟩
theorem isAt_ex (S : List Pt) (c : Nat) (p : Pt) : ∃ k, isAt S c p k := by
  rcases at_or_here S c p 13 with h | ⟨l, h1, h2, h3⟩
  · rw [here_13] at h; cases h
  · exact ⟨_, l, by omega, h2, h3, rfl⟩
theorem isAt_bd {S : List Pt} {c : Nat} {p : Pt} {k : Ky} (h : isAt S c p k) : ∃ l : Nat, l <= 12 /\ k.L = l := by
  obtain ⟨l, h1, _, _, rfl⟩ := h; exact ⟨l, h1, rfl⟩
structure Tiles (Q : Pt -> Ky -> Prop) (T : List Tl) : Prop where
  keys : T.Pairwise (fun t u => t.key ≠ u.key)
  pts : ∀ t ∈ T, t.pts ≠ [] /\ t.pts.Pairwise (fun p q => p.id < q.id)
  mem : ∀ t ∈ T, ∀ p, p ∈ t.pts ↔ Q p t.key
  all : ∀ p k, Q p k -> ∃ t ∈ T, t.key = k
theorem Tiles.nil {Q : Pt -> Ky -> Prop} (h : ∀ p k, ¬ Q p k) : Tiles Q [] := ⟨List.Pairwise.nil, fun t ht => (by simp at ht), fun t ht => (by simp at ht), fun p k hq => absurd hq (h p k)⟩
theorem Tiles.congr {Q Q' : Pt -> Ky -> Prop} {T : List Tl} (h : Tiles Q T) (he : ∀ p k, Q p k ↔ Q' p k) : Tiles Q' T :=
  ⟨h.keys, h.pts, fun t ht p => (h.mem t ht p).trans (he p t.key), fun p k hq => h.all p k ((he p k).2 hq)⟩
theorem Tiles.perm {Q : Pt -> Ky -> Prop} {T T' : List Tl} (h : Tiles Q T) (hp : T.Perm T') : Tiles Q T' :=
  ⟨(hp.pairwise_iff (fun {_ _} e => Ne.symm e)).1 h.keys, fun t ht => h.pts t (hp.mem_iff.2 ht), fun t ht => h.mem t (hp.mem_iff.2 ht), fun p k hq => by
    obtain ⟨t, h1, h2⟩ := h.all p k hq
    exact ⟨t, hp.mem_iff.1 h1, h2⟩⟩
theorem Tiles.add {Q : Pt -> Ky -> Prop} {T : List Tl} {k : Ky} {pts : List Pt} (h : Tiles Q T) (hk : ∀ p, ¬ Q p k) (hn : pts ≠ []) (hs : pts.Pairwise (fun p q => p.id < q.id)) :
    Tiles (fun p x => Q p x ∨ (x = k /\ p ∈ pts)) (T ++ [⟨k, pts⟩]) := by
  have hne : ∀ t ∈ T, t.key ≠ k := fun t ht e => by
    obtain ⟨h1, _⟩ := h.pts t ht
    cases hp : t.pts with
    | nil => exact h1 hp
    | cons p l => exact hk p (e ▸ (h.mem t ht p).1 (by rw [hp]; simp))
  refine ⟨?_, ?_, ?_, ?_⟩
  · rw [List.pairwise_append]; exact ⟨h.keys, List.pairwise_singleton _ _, fun t ht u hu => by obtain rfl := List.mem_singleton.1 hu; exact hne t ht⟩
  · intro t ht
    rcases List.mem_append.1 ht with g | g
    · exact h.pts t g
    · obtain rfl := List.mem_singleton.1 g; exact ⟨hn, hs⟩
  · intro t ht p
    rcases List.mem_append.1 ht with g | g
    · rw [h.mem t g p]; exact ⟨.inl, fun e => e.elim id (fun e => absurd e.1 (hne t g))⟩
    · obtain rfl := List.mem_singleton.1 g; exact ⟨fun e => .inr ⟨rfl, e⟩, fun e => e.elim (fun e => absurd e (hk p)) (·.2)⟩
  · intro p x hq
    rcases hq with g | ⟨rfl, g⟩
    · obtain ⟨t, h1, h2⟩ := h.all p x g; exact ⟨t, List.mem_append_left _ h1, h2⟩
    · exact ⟨_, List.mem_append_right _ (List.mem_singleton.2 rfl), rfl⟩
theorem sorted_same {α : Type} {r : α -> α -> Prop} (irr : ∀ a, ¬ r a a) (tr : ∀ a b c, r a b -> r b c -> r a c) : ∀ {l m : List α}, l.Pairwise r -> m.Pairwise r -> (∀ a, a ∈ l ↔ a ∈ m) -> l = m
  | [], [], _, _, _ => rfl
  | [], b :: m, _, _, h => by have := (h b).2 (by simp); simp at this
  | a :: l, [], _, _, h => by have := (h a).1 (by simp); simp at this
  | a :: l, b :: m, hl, hm, h => by
    obtain ⟨hl1, hl2⟩ := List.pairwise_cons.1 hl; obtain ⟨hm1, hm2⟩ := List.pairwise_cons.1 hm; have e : a = b := by
      rcases List.mem_cons.1 ((h a).1 (by simp)) with g | g
      · exact g
      · rcases List.mem_cons.1 ((h b).2 (by simp)) with g2 | g2
        · exact g2.symm
        · exact absurd (tr _ _ _ (hl1 b g2) (hm1 a g)) (irr a)
    subst e; rw [sorted_same irr tr hl2 hm2 (fun x => ?_)]; constructor
    · intro hx
      rcases List.mem_cons.1 ((h x).1 (List.mem_cons_of_mem _ hx)) with g | g
      · subst g; exact absurd (hl1 x hx) (irr x)
      · exact g
    · intro hx
      rcases List.mem_cons.1 ((h x).2 (List.mem_cons_of_mem _ hx)) with g | g
      · subst g; exact absurd (hm1 x hx) (irr x)
      · exact g
structure IsLayout (S : List Pt) (c : Nat) (T : List Tl) : Prop where
  order : T.Pairwise (fun t u => t.key.lt u.key)
  tiles : Tiles (fun p k => p ∈ S /\ isAt S c p k) T
theorem tiles_mem {Q : Pt -> Ky -> Prop} {T T' : List Tl} (h : Tiles Q T) (h' : Tiles Q T') (t : Tl) (ht : t ∈ T) : t ∈ T' := by
  obtain ⟨hn, hs⟩ := h.pts t ht; obtain ⟨p, hp⟩ : ∃ p, p ∈ t.pts := List.exists_mem_of_ne_nil _ hn; obtain ⟨u, hu, he⟩ := h'.all p t.key ((h.mem t ht p).1 hp); have e : t.pts = u.pts := sorted_same (r := fun p q : Pt => p.id < q.id) (fun a => by omega) (fun a b c h1 h2 => by omega) hs (h'.pts u hu).2 (fun a => by rw [h.mem t ht a, h'.mem u hu a, he]); have : t = u := by
    cases t; cases u; simp at he e; rw [he, e]
  rw [this]; exact hu
theorem tiles_unique {Q : Pt -> Ky -> Prop} {T T' : List Tl} (h : Tiles Q T) (h' : Tiles Q T') (o : T.Pairwise (fun t u => t.key.lt u.key)) (o' : T'.Pairwise (fun t u => t.key.lt u.key)) : T = T' :=
  sorted_same (r := fun t u : Tl => t.key.lt u.key) (fun _ => Ky.lt_irrefl _) (fun _ _ _ => Ky.lt_trans) o o' (fun t => ⟨tiles_mem h h' t, tiles_mem h' h t⟩)
theorem IsLayout.unique {S : List Pt} {c : Nat} {T T' : List Tl} (h : IsLayout S c T) (h' : IsLayout S c T') : T = T' := tiles_unique h.tiles h'.tiles h.order h'.order
theorem order_strict {Q : Pt -> Ky -> Prop} {T : List Tl} (h : Tiles Q T) (ho : T.Pairwise (fun t u => ¬ u.key.lt t.key)) : T.Pairwise (fun t u => t.key.lt u.key) := by
  refine (h.keys.and ho).imp ?_; rintro a b ⟨h1, h2⟩
  rcases Ky.lt_total h1 with g | g
  · exact g
  · exact absurd g h2
open Go.RowKit
def GoodS (S : List Pt) : Prop := S.Pairwise (fun p q => p.id ≠ q.id) /\ ∀ p ∈ S, 0 <= p.id /\ p.id <= 1152921504606846976
structure LeftAt (S : List Pt) (c l : Nat) (Lf : List Pt) : Prop where
  perm : Lf.Perm (S.filter (here S c l))
  rank : Lf.Pairwise (fun p q => rankV p.id < rankV q.id)
theorem LeftAt.mem {S : List Pt} {c l : Nat} {Lf : List Pt} (h : LeftAt S c l Lf) {p : Pt} : p ∈ Lf ↔ p ∈ S /\ here S c l p = true := by
  rw [h.perm.mem_iff, List.mem_filter]
theorem left_start {S : List Pt} {c : Nat} {Lf : List Pt} (hS : GoodS S) (hp : Lf.Perm S) (hs : Lf.Pairwise (fun p q => ¬ rankV q.id < rankV p.id)) : LeftAt S c 0 Lf := by
  refine ⟨?_, ?_⟩
  · have e : S.filter (here S c 0) = S := List.filter_eq_self.2 (fun _ _ => rfl); rw [e]; exact hp
  · have hd : Lf.Pairwise (fun p q => p.id ≠ q.id) := (hp.pairwise_iff (fun {_ _} e => Ne.symm e)).2 hS.1; have hall : ∀ p ∈ Lf, 0 <= p.id /\ p.id <= 1152921504606846976 := fun p h => hS.2 p (hp.mem_iff.1 h)
    refine List.Pairwise.imp_of_mem ?_ (hd.and hs); rintro a b ha hb ⟨h1, h2⟩; have : rankV a.id ≠ rankV b.id := fun e => h1 (rank_inj (hall a ha) (hall b hb) e)
    omega
theorem LeftAt.next {S : List Pt} {c l : Nat} {Lf : List Pt} (h : LeftAt S c l Lf) : LeftAt S c (l + 1) (Lf.filter (fun q => !takes S c l q)) := by
  refine ⟨?_, h.rank.filter _⟩; refine (h.perm.filter _).trans ?_; rw [List.filter_filter]; refine List.Perm.of_eq (List.filter_congr fun p _ => ?_); rw [here_succ, Bool.and_comm]
theorem LeftAt.count {S : List Pt} {c l i : Nat} {Lf : List Pt} {p : Pt} (h : LeftAt S c l Lf) (hi : Lf[i]? = some p) : S.countP (fun q => here S c l q && lessB l p q) = (Lf.take i).countP (fun q => decide (cellK l q = cellK l p)) := by
  have e1 : S.countP (fun q => here S c l q && lessB l p q) = (S.filter (here S c l)).countP (lessB l p) := by
    rw [List.countP_filter]; exact List.countP_congr (fun q _ => by rw [Bool.and_comm])
  rw [e1, <- h.perm.countP_eq]; obtain ⟨hlt, hel⟩ := List.getElem?_eq_some_iff.1 hi; have hpw := List.pairwise_iff_getElem.1 h.rank; have hsp : (Lf.take i ++ Lf.drop i).countP (lessB l p) = (Lf.take i).countP (fun q => decide (cellK l q = cellK l p)) := by
    rw [List.countP_append]; have z : (Lf.drop i).countP (lessB l p) = 0 := by
      rw [List.countP_eq_zero]; intro q hq; obtain ⟨j, hj, e⟩ := List.mem_iff_getElem.1 hq; rw [List.getElem_drop] at e; simp at hj; have : ¬ rankV q.id < rankV p.id := by
        rw [<- e, <- hel]; by_cases h0 : j = 0
        · subst h0; simp
        · have := hpw i (i + j) hlt (by omega) (by omega); omega
      simp [lessB, this]
    rw [z, Nat.add_zero]; refine List.countP_congr fun q hq => ?_
    obtain ⟨j, hj, e⟩ := List.mem_iff_getElem.1 hq; rw [List.getElem_take] at e; simp at hj; have : rankV q.id < rankV p.id := by
      rw [<- e, <- hel]; exact hpw j i (by omega) hlt (by omega)
    simp [lessB, this]
  rw [List.take_append_drop] at hsp; exact hsp
theorem LeftAt.takes {S : List Pt} {c l i : Nat} {Lf : List Pt} {p : Pt} (h : LeftAt S c l Lf) (hi : Lf[i]? = some p) : takes S c l p = (decide (l = 12) || decide ((Lf.take i).countP (fun q => decide (cellK l q = cellK l p)) < c)) := by
  unfold YtcclpdfmmdonpaaGreat.takes; rw [h.count hi]
def grp (S : List Pt) (c l : Nat) (Lf : List Pt) (i : Nat) (k : Ky) : List Pt := (Lf.take i).filter (fun q => decide (cellK l q = k) && takes S c l q)
def rst (S : List Pt) (c l : Nat) (Lf : List Pt) (i : Nat) : List Pt := (Lf.take i).filter (fun q => !takes S c l q)
theorem take_succ' {Lf : List Pt} {i : Nat} {p : Pt} (hi : Lf[i]? = some p) : Lf.take (i + 1) = Lf.take i ++ [p] := by
  rw [List.take_add_one, hi]; rfl
theorem grp_yes {S : List Pt} {c l i : Nat} {Lf : List Pt} {p : Pt} (hi : Lf[i]? = some p) (ht : takes S c l p = true) : grp S c l Lf (i + 1) (cellK l p) = grp S c l Lf i (cellK l p) ++ [p] := by
  unfold grp; rw [take_succ' hi, List.filter_append]; simp [ht]
theorem grp_other {S : List Pt} {c l i : Nat} {Lf : List Pt} {p : Pt} {k : Ky} (hi : Lf[i]? = some p) (h : takes S c l p = false ∨ cellK l p ≠ k) : grp S c l Lf (i + 1) k = grp S c l Lf i k := by
  unfold grp; rw [take_succ' hi, List.filter_append]
  rcases h with h | h
  · simp [h]
  · simp [h]
theorem rst_yes {S : List Pt} {c l i : Nat} {Lf : List Pt} {p : Pt} (hi : Lf[i]? = some p) (ht : takes S c l p = true) : rst S c l Lf (i + 1) = rst S c l Lf i := by
  unfold rst; rw [take_succ' hi, List.filter_append]; simp [ht]
theorem rst_no {S : List Pt} {c l i : Nat} {Lf : List Pt} {p : Pt} (hi : Lf[i]? = some p) (ht : takes S c l p = false) : rst S c l Lf (i + 1) = rst S c l Lf i ++ [p] := by
  unfold rst; rw [take_succ' hi, List.filter_append]; simp [ht]
theorem grp_len {S : List Pt} {c l : Nat} {Lf : List Pt} (h : LeftAt S c l Lf) (hl : l ≠ 12) (k : Ky) : ∀ i, i <= Lf.length -> (grp S c l Lf i k).length = min c ((Lf.take i).countP (fun q => decide (cellK l q = k)))
  | 0, _ => by simp [grp]
  | i + 1, hi => by
    have ih := grp_len h hl k i (by omega); have hp : Lf[i]? = some Lf[i] := List.getElem?_eq_getElem (by omega); have ht := h.takes hp; simp only [hl, decide_false, Bool.false_or] at ht; rw [take_succ' hp, List.countP_append]; by_cases hk : cellK l Lf[i] = k
    · subst hk; rw [show List.countP (fun q => decide (cellK l q = cellK l Lf[i])) [Lf[i]] = 1 by simp]; by_cases hc : (Lf.take i).countP (fun q => decide (cellK l q = cellK l Lf[i])) < c
      · rw [grp_yes hp (by rw [ht]; exact decide_eq_true hc), List.length_append, ih]; simp; omega
      · rw [grp_other hp (Or.inl (by rw [ht]; exact decide_eq_false hc)), ih]; omega
    · rw [grp_other hp (Or.inr hk), ih, show List.countP (fun q => decide (cellK l q = k)) [Lf[i]] = 0 by simp [hk]]; simp
theorem takes_grp {S : List Pt} {c l i : Nat} {Lf : List Pt} {p : Pt} (h : LeftAt S c l Lf) (hi : Lf[i]? = some p) : takes S c l p = (decide (l = 12) || decide ((grp S c l Lf i (cellK l p)).length < c)) := by
  rw [h.takes hi]; by_cases hl : l = 12
  · simp [hl]
  · rw [grp_len h hl _ i (by have := (List.getElem?_eq_some_iff.1 hi).1; omega)]; simp [hl]; omega
theorem grp_mem {S : List Pt} {c l i : Nat} {Lf : List Pt} {p : Pt} {k : Ky} : p ∈ grp S c l Lf i k ↔ p ∈ Lf.take i /\ cellK l p = k /\ takes S c l p = true := by
  unfold grp; rw [List.mem_filter]; simp
theorem grp_full {S : List Pt} {c l : Nat} {Lf : List Pt} {p : Pt} {k : Ky} (h : LeftAt S c l Lf) (hl : l <= 12) (hk : k.L = l) : p ∈ grp S c l Lf Lf.length k ↔ p ∈ S /\ isAt S c p k := by
  rw [grp_mem, List.take_length, h.mem]; constructor
  · rintro ⟨⟨h1, h2⟩, h3, h4⟩; exact ⟨h1, l, hl, h2, h4, h3.symm⟩
  · rintro ⟨h1, m, _, h3, h4, rfl⟩; have : m = l := by
      have : (m : Int) = l := hk; omega
    subst this; exact ⟨⟨h1, h3⟩, rfl, h4⟩
theorem grp_ids {S : List Pt} {c l i : Nat} {Lf : List Pt} (hS : GoodS S) (h : LeftAt S c l Lf) (k : Ky) : (grp S c l Lf i k).Pairwise (fun p q => p.id ≠ q.id) := by
  have h1 : Lf.Pairwise (fun p q => p.id ≠ q.id) := (h.perm.pairwise_iff (fun {_ _} e => Ne.symm e)).2 (hS.1.filter _); exact (h1.sublist (List.take_sublist ..)).filter _
theorem asc_ids {l l' : List Pt} (hp : l'.Perm l) (hd : l.Pairwise (fun p q => p.id ≠ q.id)) (hs : l'.Pairwise (fun p q => ¬ q.id < p.id)) : l'.Pairwise (fun p q => p.id < q.id) := by
  have h1 : l'.Pairwise (fun p q => p.id ≠ q.id) := (hp.pairwise_iff (fun {_ _} e => Ne.symm e)).2 hd; refine (h1.and hs).imp ?_; rintro a b ⟨h2, h3⟩; omega
theorem LeftAt.none {S : List Pt} {c l : Nat} (h : LeftAt S c l []) {p : Pt} {k : Ky} (hp : p ∈ S) (hk : isAt S c p k) : k.L < l := by
  obtain ⟨m, h1, h2, h3, rfl⟩ := hk; have hn : here S c l p = false := by
    cases hq : here S c l p
    · rfl
    · have := h.mem.2 ⟨hp, hq⟩; simp at this
  show (m : Int) < l
  rcases Nat.lt_or_ge m l with g | g
  · omega
  · rw [here_mono g h2] at hn; cases hn
theorem LeftAt.end13 {S : List Pt} {c : Nat} {Lf : List Pt} (h : LeftAt S c 13 Lf) : Lf = [] := by
  cases Lf with
  | nil => rfl
  | cons p l =>
    have := (h.mem.1 (List.mem_cons_self ..)).2; rw [here_13] at this
    cases this
open Go.RowKit Go.Sort Go.Lib Go.Shelf Go.Proofs
theorem wide_map {α : Type} {enc : α -> List Value} {k : Nat} (hk : ∀ x, (enc x).length = k) (h1 : ∀ x, ∀ v ∈ enc x, v.oneCell' = true) (l : List α) : Wide k (l.map enc) := fun r hr => by
  obtain ⟨x, _, rfl⟩ := List.mem_map.1 hr; exact ⟨hk x, h1 x⟩
theorem wide_len {α : Type} {enc : α -> List Value} {k : Nat} (hk : ∀ x, (enc x).length = k) (l : List α) : ((l.map enc).flatten).length = l.length * k := by
  induction l with
  | nil => simp
  | cons a l ih => rw [List.map_cons, List.flatten_cons, List.length_append, ih, hk, List.length_cons, Nat.add_mul, Nat.one_mul, Nat.add_comm]
section
variable {α : Type} [Inhabited α] {enc : α -> List Value} {k : Nat}
theorem flat_at (hk : ∀ x, (enc x).length = k) : ∀ (l : List α) (i j : Nat), i < l.length -> j < k -> (l.map enc).flatten[i * k + j]? = (enc l[i]!)[j]?
  | [], i, _, h, _ => by simp at h
  | a :: l, 0, j, _, hj => by
    rw [List.map_cons, List.flatten_cons, Nat.zero_mul, Nat.zero_add, List.getElem?_append_left (by rw [hk]; exact hj)]; rfl
  | a :: l, i + 1, j, h, hj => by
    have e : (i + 1) * k + j = k + (i * k + j) := by rw [Nat.add_mul]; omega
    rw [List.map_cons, List.flatten_cons, e, List.getElem?_append_right (by rw [hk]; omega), hk, Nat.add_sub_cancel_left, flat_at hk l i j (by simpa using h) hj]; rfl
theorem flatK_list (hk : ∀ x, (enc x).length = k) (d : Array α) : (flatK enc k d).toList = (d.toList.map enc).flatten := by
  refine List.ext_getElem? fun t => ?_
  by_cases ht : t < d.size * k
  · have k0 : 0 < k := by
      rcases Nat.eq_zero_or_pos k with h | h
      · subst h; simp at ht
      · exact h
    have hd : t / k < d.size := Nat.div_lt_of_lt_mul (by rw [Nat.mul_comm]; exact ht); have hm : t % k < k := Nat.mod_lt _ k0; have e : t / k * k + t % k = t := by rw [Nat.mul_comm]; exact Nat.div_add_mod t k
    have h1 := flat_at hk d.toList (t / k) (t % k) (by simpa using hd) hm; rw [e] at h1; rw [h1, Array.getElem?_toList, Array.getElem?_eq_getElem (by simpa using ht)]; have h2 := get_flatK enc k d t ht; rw [getElem!_pos _ t (by simpa using ht)] at h2; rw [h2]; have h3 : d.toList[t / k]! = d[t / k]! := by
      rw [getElem!_pos d _ hd, getElem!_pos d.toList _ (by simpa using hd)]; simp
    rw [h3, List.getElem?_eq_getElem (by rw [hk]; exact hm), getElem!_pos (enc d[t / k]!) _ (by rw [hk]; exact hm)]
  · rw [List.getElem?_eq_none (by simp; omega), List.getElem?_eq_none (by rw [wide_len hk]; simp; omega)]
theorem own_holds (hk : ∀ x, (enc x).length = k) {W : World} {base t g cap : Nat} {l : List α} (h : OwnR W base t k (.slice (some ⟨g, 0, none⟩) l.length cap) (l.map enc)) : HoldsK enc k W g 0 l.toArray := by
  intro j hj; rw [size_flatK] at hj; simp only [List.size_toArray] at hj; have k0 : 0 < k := by
    rcases Nat.eq_zero_or_pos k with h | h
    · subst h; simp at hj
    · exact h
  have hl : 0 < l.length := by
    rcases Nat.eq_zero_or_pos l.length with h | h
    · rw [h] at hj; simp at hj
    · exact h
  obtain ⟨g', cap', cur, he, _, hc, hr, _⟩ := h.rows (by simpa using hl); injection he with he _ _
  injection he with he
  injection he with he _
  subst he; have hd : j / k < l.length := Nat.div_lt_of_lt_mul (by rw [Nat.mul_comm]; exact hj); have hm : j % k < k := Nat.mod_lt _ k0; have e : 0 + j / k * k + j % k = 0 + j := by rw [Nat.add_assoc]; congr 1; rw [Nat.mul_comm]; exact Nat.div_add_mod j k
  have h1 := hr (j / k) (enc l[j / k]) (by rw [List.getElem?_map, List.getElem?_eq_getElem hd]; rfl) (j % k) hm; rw [e] at h1; refine ⟨?_, ?_⟩
  · rw [h1]; have h2 := get_flatK enc k l.toArray j (by simpa using hj); have h3 : l.toArray[j / k]! = l[j / k] := by rw [getElem!_pos _ _ (by simpa using hd)]; simp
    rw [h3] at h2; show _ = some (id ((flatK enc k l.toArray)[j]!)); rw [h2, List.getElem?_eq_getElem (by rw [hk]; exact hm), getElem!_pos _ _ (by rw [hk]; exact hm)]; rfl
  · simp [World.frozen?, hc]
theorem put_take (F c : Array Value) (h : F.size <= c.size) : (putCells id 0 F c).toList.take F.size = F.toList := by
  refine List.ext_getElem? fun t => ?_
  by_cases ht : t < F.size
  · rw [List.getElem?_take_of_lt ht, Array.getElem?_toList, Array.getElem?_toList]; unfold putCells; rw [Array.getElem?_mapIdx, Array.getElem?_eq_getElem (by omega : t < c.size), Array.getElem?_eq_getElem ht]; simp [ht]
  · rw [List.getElem?_eq_none (by simp; omega), List.getElem?_eq_none (by simp; omega)]
theorem sortWorldK_grownBy (W : World) (g n : Nat) (d : Array α) (os : Array Obj) : W.grownBy (sortWorldK enc k W g 0 n d os) (some g) := by
  refine ⟨rfl, rfl, rfl, ?_, fun j hj hne => ?_⟩
  · unfold sortWorldK; rw [size_grow, size_putRowK]; exact Nat.le_add_right _ _
  · unfold sortWorldK grow; show ((putRowK enc k (Sort.ahead W n) g 0 d).heap ++ os)[j]? = _; have hs : j < (putRowK enc k (Sort.ahead W n) g 0 d).heap.size := by rw [size_putRowK]; exact hj
    rw [Array.getElem?_append_left hs]; show ((Sort.ahead W n).heap.modify g _)[j]? = _; rw [Array.getElem?_modify, if_neg (fun e => hne (by rw [e]))]; rfl
theorem sortWorldK_block {W : World} {g n t : Nat} {cur : Array Value} {d : Array α} {os : Array Obj} (h : W.heap[g]? = some (.cells cur t)) :
    (sortWorldK enc k W g 0 n d os).heap[g]? = some (.cells (putCells id 0 (flatK enc k d) cur) t) := by
  have hg : g < W.heap.size := (Array.getElem?_eq_some_iff.1 h).1; unfold sortWorldK grow; show ((putRowK enc k (Sort.ahead W n) g 0 d).heap ++ os)[g]? = _; rw [Array.getElem?_append_left (by rw [size_putRowK]; exact hg)]; show ((Sort.ahead W n).heap.modify g _)[g]? = _; rw [Array.getElem?_modify, if_pos rfl, show (Sort.ahead W n).heap[g]? = some (.cells cur t) from h]; rfl
theorem own_put (hk : ∀ x, (enc x).length = k) (h1 : ∀ x, ∀ v ∈ enc x, v.oneCell' = true) {W : World} {base t g cap n : Nat} {l : List α} {d : Array α} {os : Array Obj}
    (h : OwnR W base t k (.slice (some ⟨g, 0, none⟩) l.length cap) (l.map enc)) (hd : d.size = l.length) : OwnR (sortWorldK enc k W g 0 n d os) base t k (.slice (some ⟨g, 0, none⟩) l.length cap) (d.toList.map enc) := by
  refine ⟨wide_map hk h1 _, by rw [wide_len hk]; simp, ?_⟩
  rcases h.2.2 with ⟨h2, _⟩ | ⟨g', cap', cur, he, hB, hc, hle, hm, hcs, htk⟩
  · cases h2
  · simp only [List.length_map] at he hle htk; injection he with he _ hcap
    injection he with he
    injection he with he _
    subst he hcap; refine Or.inr ⟨g, cap, _, ?_, hB, sortWorldK_block hc, ?_, hm, ?_, ?_⟩
    · simp [hd]
    · simp; omega
    · unfold putCells; simpa using hcs
    · have hf : (flatK enc k d).size = (d.toList.map enc).length * k := by simp
      rw [<- hf, put_take _ _ (by rw [size_flatK, hcs, hd]; exact Nat.mul_le_mul_right k hle), flatK_list hk]
theorem perm_list {l : List α} {d : Array α} (h : PermIn 0 l.toArray.size l.toArray d) : d.toList.Perm l := by
  obtain ⟨h1, _, h3⟩ := h; have e1 : d.extract 0 l.toArray.size = d := by rw [<- h1]; exact Array.extract_size
  have e2 : l.toArray.extract 0 l.toArray.size = l.toArray := Array.extract_size; rw [e1, e2] at h3; simpa using h3
theorem sorted_list {lt : α -> α -> Bool} {d : Array α} {n : Nat} (hn : d.size = n) (h : SortedIn lt 0 n d) : d.toList.Pairwise (fun x y => lt y x = false) := by
  subst hn; rw [List.pairwise_iff_getElem]; intro i j hi hj hij; have := h i j (Nat.zero_le _) hij (by simpa using hj); rw [getElem!_pos d j (by simpa using hj), getElem!_pos d i (by simpa using hi)] at this; simpa using this
end
theorem sort_own {P : Program} {ρ : Ren} {α : Type} [Inhabited α] (L : SlLaysF0.n6 P ρ) (k : Nat) (aE : ∀ w, (isAgg (ρ.t 24)).run P w = .ok true w) (zE : ∀ w, (Go.sizeOf (ρ.t 24)).run P w = .ok k w) (enc : α -> List Value) (hk : ∀ x, (enc x).length = k)
    (h1 : ∀ x, ∀ v ∈ enc x, v.oneCell' = true) (cf : α -> α -> Int) (hO : SWO (ltOf cf)) (f : Nat) (cb : Array Value) (eg : ∀ args w, (callFunc f args).run P w = .ok (.enter f args) w)
    (hcmp : ∀ g size W, CmpLays P f cb enc k cf g 0 size W) (W : World) (base t : Nat) (v : Value) (l : List α) (h : OwnR W base t k v (l.map enc)) (hsz : l.length < 4611686018427387904) :
    Calls P (ρ.f 6) #[v, .func (.func f) #[] cb] W fun e w' => e = .returned (.tuple #[]) /\ ∃ l' : List α, l'.Perm l /\ l'.Pairwise (fun x y => ltOf cf y x = false) /\ OwnR w' base t k v (l'.map enc) /\ W.grownBy w' v.ownBlock := by
  by_cases hl : l.length = 0
  · obtain rfl := List.eq_nil_of_length_eq_zero hl; obtain ⟨a, cap, rfl⟩ := h.slice; refine (AnyF.slices_SortFunc_none L a cap _ W).mono ?_; rintro e w' ⟨rfl, rfl⟩; exact ⟨rfl, [], List.Perm.refl _, List.Pairwise.nil, h, ⟨rfl, rfl, rfl, Nat.le_refl _, fun _ _ _ => rfl⟩⟩
  · obtain ⟨g, cap, cur, rfl, _, hc, _⟩ := h.rows (by simp; omega); rw [List.length_map] at h ⊢; have hcon := AnyQ.slices_SortFunc L k aE zE enc hk h1 cf hO f cb g 0 cap l.toArray W eg (hcmp g _ W) (own_holds hk h) (Array.getElem?_eq_some_iff.1 hc).1 (by simpa using hsz); rw [List.size_toArray] at hcon; refine hcon.mono ?_; rintro e w' ⟨rfl, d', n, os, hp, hs, rfl⟩; have hd : d'.size = l.length := by have := hp.1; simpa using this
    refine ⟨rfl, d'.toList, perm_list (by simpa using hp), sorted_list hd hs, own_put hk h1 h hd, sortWorldK_grownBy W g n d' os⟩
open Go.Shelf
def sortPtL_ren : Go.Shelf.Ren := ⟨fun | 6 => 59 | 15 => 84 | 14 => 83 | 28 => 115 | 29 => 116 | 20 => 107 | 21 => 108 | 22 => 109 | 23 => 110 | 24 => 111 | 25 => 112 | 26 => 113 | 27 => 114 | 46 => 138 | 47 => 139 | 48 => 140 | 49 => 141 | 50 => 142 | 57 => 149 | n => n, fun | 22 => 35 | 24 => 106 | 25 => 128 | 3 => 3 | 39 => 107 | 0 => 0 | 53 => 181 | 55 => 59 | 4 => 4 | 46 => 174 | 45 => 173 | 50 => 178 | 5 => 5 | 9 => 9 | 66 => 204 | 70 => 208 | 76 => 213 | 77 => 214 | n => n, fun | n => n⟩
theorem sortPtL : Go.Proofs.SlLaysF0.n6 Tryz.prog sortPtL_ren := {
  mixed := by kernel_rfl
  f6 := ⟨Tryz.f59.name, by decide, Tryz.func59.trans (congrArg some (by kernel_rfl))⟩
  f14 := ⟨Tryz.f83.name, by decide, Tryz.func83.trans (congrArg some (by kernel_rfl))⟩
  f15 := Tryz.func84.trans (congrArg some (by kernel_rfl))
  f20 := ⟨Tryz.f107.name, by decide, Tryz.func107.trans (congrArg some (by kernel_rfl))⟩
  f21 := ⟨Tryz.f108.name, by decide, Tryz.func108.trans (congrArg some (by kernel_rfl))⟩
  f22 := ⟨Tryz.f109.name, by decide, Tryz.func109.trans (congrArg some (by kernel_rfl))⟩
  f23 := ⟨Tryz.f110.name, by decide, Tryz.func110.trans (congrArg some (by kernel_rfl))⟩
  f24 := ⟨Tryz.f111.name, by decide, Tryz.func111.trans (congrArg some (by kernel_rfl))⟩
  f25 := ⟨Tryz.f112.name, by decide, Tryz.func112.trans (congrArg some (by kernel_rfl))⟩
  f26 := ⟨Tryz.f113.name, by decide, Tryz.func113.trans (congrArg some (by kernel_rfl))⟩
  f27 := ⟨Tryz.f114.name, by decide, Tryz.func114.trans (congrArg some (by kernel_rfl))⟩
  f28 := Tryz.func115.trans (congrArg some (by kernel_rfl))
  f29 := Tryz.func116.trans (congrArg some (by kernel_rfl))
  f46 := ⟨Tryz.f138.name, by decide, Tryz.func138.trans (congrArg some (by kernel_rfl))⟩
  f47 := Tryz.func139.trans (congrArg some (by kernel_rfl))
  f48 := Tryz.func140.trans (congrArg some (by kernel_rfl))
  f49 := ⟨Tryz.f141.name, by decide, Tryz.func141.trans (congrArg some (by kernel_rfl))⟩
  f50 := ⟨Tryz.f142.name, by decide, Tryz.func142.trans (congrArg some (by kernel_rfl))⟩
  f57 := ⟨Tryz.f149.name, by decide, Tryz.func149.trans (congrArg some (by kernel_rfl))⟩
  t0 := Tryz.underlying0
  a0 := Tryz.isAgg0
  z0 := Tryz.sizeOf0
  v0 := Tryz.zeroValue0
  t3 := Tryz.underlying3
  a3 := Tryz.isAgg3
  z3 := Tryz.sizeOf3
  v3 := Tryz.zeroValue3
  t4 := Tryz.underlying4
  a4 := Tryz.isAgg4
  z4 := Tryz.sizeOf4
  v4 := Tryz.zeroValue4
  t5 := Tryz.underlying5
  a5 := Tryz.isAgg5
  z5 := Tryz.sizeOf5
  v5 := Tryz.zeroValue5
  t9 := Tryz.underlying9
  a9 := Tryz.isAgg9
  z9 := Tryz.sizeOf9
  v9 := Tryz.zeroValue9
  t22 := Tryz.underlying35
  a22 := Tryz.isAgg35
  z22 := Tryz.sizeOf35
  v22 := Tryz.zeroValue35
  t25 := Tryz.underlying128
  a25 := Tryz.isAgg128
  z25 := Tryz.sizeOf128
  v25 := Tryz.zeroValue128
  t39 := Tryz.underlying107
  a39 := Tryz.isAgg107
  z39 := Tryz.sizeOf107
  v39 := Tryz.zeroValue107
  t45 := Tryz.underlying173
  a45 := Tryz.isAgg173
  z45 := Tryz.sizeOf173
  v45 := Tryz.zeroValue173
  t46 := Tryz.underlying174
  a46 := Tryz.isAgg174
  z46 := Tryz.sizeOf174
  v46 := Tryz.zeroValue174
  t50 := Tryz.underlying178
  a50 := Tryz.isAgg178
  z50 := Tryz.sizeOf178
  v50 := Tryz.zeroValue178
  t53 := Tryz.underlying181
  a53 := Tryz.isAgg181
  z53 := Tryz.sizeOf181
  v53 := Tryz.zeroValue181
  t55 := Tryz.underlying59
  a55 := Tryz.isAgg59
  z55 := Tryz.sizeOf59
  v55 := Tryz.zeroValue59
  t66 := Tryz.underlying204
  a66 := Tryz.isAgg204
  z66 := Tryz.sizeOf204
  v66 := Tryz.zeroValue204
  t70 := Tryz.underlying208
  a70 := Tryz.isAgg208
  z70 := Tryz.sizeOf208
  v70 := Tryz.zeroValue208
  t76 := Tryz.underlying213
  a76 := Tryz.isAgg213
  z76 := Tryz.sizeOf213
  v76 := Tryz.zeroValue213
  t77 := Tryz.underlying214
  a77 := Tryz.isAgg214
  z77 := Tryz.sizeOf214
  v77 := Tryz.zeroValue214 }
def sortTlL_ren : Go.Shelf.Ren := ⟨fun | 6 => 66 | 15 => 84 | 14 => 90 | 28 => 115 | 29 => 116 | 20 => 119 | 21 => 120 | 22 => 121 | 23 => 122 | 24 => 123 | 25 => 124 | 26 => 125 | 27 => 126 | 46 => 145 | 47 => 139 | 48 => 140 | 49 => 146 | 50 => 147 | 57 => 151 | n => n, fun | 22 => 45 | 24 => 101 | 25 => 134 | 3 => 3 | 39 => 107 | 0 => 0 | 53 => 181 | 55 => 59 | 4 => 4 | 46 => 174 | 45 => 173 | 50 => 178 | 5 => 5 | 9 => 9 | 66 => 204 | 70 => 208 | 76 => 213 | 77 => 214 | n => n, fun | n => n⟩
theorem sortTlL : Go.Proofs.SlLaysF0.n6 Tryz.prog sortTlL_ren := {
  mixed := by kernel_rfl
  f6 := ⟨Tryz.f66.name, by decide, Tryz.func66.trans (congrArg some (by kernel_rfl))⟩
  f14 := ⟨Tryz.f90.name, by decide, Tryz.func90.trans (congrArg some (by kernel_rfl))⟩
  f15 := Tryz.func84.trans (congrArg some (by kernel_rfl))
  f20 := ⟨Tryz.f119.name, by decide, Tryz.func119.trans (congrArg some (by kernel_rfl))⟩
  f21 := ⟨Tryz.f120.name, by decide, Tryz.func120.trans (congrArg some (by kernel_rfl))⟩
  f22 := ⟨Tryz.f121.name, by decide, Tryz.func121.trans (congrArg some (by kernel_rfl))⟩
  f23 := ⟨Tryz.f122.name, by decide, Tryz.func122.trans (congrArg some (by kernel_rfl))⟩
  f24 := ⟨Tryz.f123.name, by decide, Tryz.func123.trans (congrArg some (by kernel_rfl))⟩
  f25 := ⟨Tryz.f124.name, by decide, Tryz.func124.trans (congrArg some (by kernel_rfl))⟩
  f26 := ⟨Tryz.f125.name, by decide, Tryz.func125.trans (congrArg some (by kernel_rfl))⟩
  f27 := ⟨Tryz.f126.name, by decide, Tryz.func126.trans (congrArg some (by kernel_rfl))⟩
  f28 := Tryz.func115.trans (congrArg some (by kernel_rfl))
  f29 := Tryz.func116.trans (congrArg some (by kernel_rfl))
  f46 := ⟨Tryz.f145.name, by decide, Tryz.func145.trans (congrArg some (by kernel_rfl))⟩
  f47 := Tryz.func139.trans (congrArg some (by kernel_rfl))
  f48 := Tryz.func140.trans (congrArg some (by kernel_rfl))
  f49 := ⟨Tryz.f146.name, by decide, Tryz.func146.trans (congrArg some (by kernel_rfl))⟩
  f50 := ⟨Tryz.f147.name, by decide, Tryz.func147.trans (congrArg some (by kernel_rfl))⟩
  f57 := ⟨Tryz.f151.name, by decide, Tryz.func151.trans (congrArg some (by kernel_rfl))⟩
  t0 := Tryz.underlying0
  a0 := Tryz.isAgg0
  z0 := Tryz.sizeOf0
  v0 := Tryz.zeroValue0
  t3 := Tryz.underlying3
  a3 := Tryz.isAgg3
  z3 := Tryz.sizeOf3
  v3 := Tryz.zeroValue3
  t4 := Tryz.underlying4
  a4 := Tryz.isAgg4
  z4 := Tryz.sizeOf4
  v4 := Tryz.zeroValue4
  t5 := Tryz.underlying5
  a5 := Tryz.isAgg5
  z5 := Tryz.sizeOf5
  v5 := Tryz.zeroValue5
  t9 := Tryz.underlying9
  a9 := Tryz.isAgg9
  z9 := Tryz.sizeOf9
  v9 := Tryz.zeroValue9
  t22 := Tryz.underlying45
  a22 := Tryz.isAgg45
  z22 := Tryz.sizeOf45
  v22 := Tryz.zeroValue45
  t25 := Tryz.underlying134
  a25 := Tryz.isAgg134
  z25 := Tryz.sizeOf134
  v25 := Tryz.zeroValue134
  t39 := Tryz.underlying107
  a39 := Tryz.isAgg107
  z39 := Tryz.sizeOf107
  v39 := Tryz.zeroValue107
  t45 := Tryz.underlying173
  a45 := Tryz.isAgg173
  z45 := Tryz.sizeOf173
  v45 := Tryz.zeroValue173
  t46 := Tryz.underlying174
  a46 := Tryz.isAgg174
  z46 := Tryz.sizeOf174
  v46 := Tryz.zeroValue174
  t50 := Tryz.underlying178
  a50 := Tryz.isAgg178
  z50 := Tryz.sizeOf178
  v50 := Tryz.zeroValue178
  t53 := Tryz.underlying181
  a53 := Tryz.isAgg181
  z53 := Tryz.sizeOf181
  v53 := Tryz.zeroValue181
  t55 := Tryz.underlying59
  a55 := Tryz.isAgg59
  z55 := Tryz.sizeOf59
  v55 := Tryz.zeroValue59
  t66 := Tryz.underlying204
  a66 := Tryz.isAgg204
  z66 := Tryz.sizeOf204
  v66 := Tryz.zeroValue204
  t70 := Tryz.underlying208
  a70 := Tryz.isAgg208
  z70 := Tryz.sizeOf208
  v70 := Tryz.zeroValue208
  t76 := Tryz.underlying213
  a76 := Tryz.isAgg213
  z76 := Tryz.sizeOf213
  v76 := Tryz.zeroValue213
  t77 := Tryz.underlying214
  a77 := Tryz.isAgg214
  z77 := Tryz.sizeOf214
  v77 := Tryz.zeroValue214 }
open Go.RowKit Go.Sort Go.Lib Go.Shelf Go.Proofs
def Pt.row (p : Pt) : List Value := [.int .i64 p.id, .int .i64 p.x, .int .i64 p.y, .int .i64 p.zl, .int .i64 p.zh, .int .i64 p.wd, .int .i64 p.nm, .int .i64 p.of, .int .i64 p.cl]
theorem Pt.row_one (p : Pt) : ∀ v ∈ p.row, v.oneCell' = true := fun v hv => by
  simp [Pt.row] at hv
  rcases hv with rfl | rfl | rfl | rfl | rfl | rfl | rfl | rfl | rfl <;> rfl
theorem Pt.row_at (p : Pt) (j : Nat) (hj : j < 9) : p.row[j]? = some (.int .i64 (p.f j)) := by
  match j, hj with
  | 0, _ | 1, _ | 2, _ | 3, _ | 4, _ | 5, _ | 6, _ | 7, _ | 8, _ => rfl
def Ky.row (k : Ky) : List Value := [.int .i64 k.L, .int .i64 k.x, .int .i64 k.y, .int .i64 k.z]
def Grew (W X : World) : Prop := ∃ q os, X = grow (W.drewN q) os
theorem Grew.refl (W : World) : Grew W W := ⟨0, #[], by rw [grow_empty]; rfl⟩
theorem Grew.alloc {W X : World} (h : Grew W X) (o : Obj) : Grew W (X.alloc o) := by
  obtain ⟨q, os, rfl⟩ := h; exact ⟨q, _, by rw [alloc_eq_grow, grow_grow]⟩
theorem Grew.drewN {W X : World} (h : Grew W X) (n : Nat) : Grew W (X.drewN n) := by
  obtain ⟨q, os, rfl⟩ := h; exact ⟨q + n, os, by show grow ((W.drewN q).drewN n) os = _; rw [World.drewN_drewN]⟩
theorem Grew.trans {W X Y : World} (h : Grew W X) (h2 : Grew X Y) : Grew W Y := by
  obtain ⟨q, os, rfl⟩ := h; obtain ⟨n, os', rfl⟩ := h2; exact ⟨q + n, os ++ os', by show grow (grow ((W.drewN q).drewN n) os) os' = _; rw [grow_grow, World.drewN_drewN]⟩
def cmpR (p q : Pt) : Int := if rankV p.id < rankV q.id then -1 else if rankV q.id < rankV p.id then 1 else 0
set_option maxRecDepth 100000 in
theorem byRank_any (p q : Pt) (W : World) : Calls Tryz.prog 64 #[.agg p.row.toArray, .agg q.row.toArray] W fun e w' => e = .returned (.int .i64 (cmpR p q)) /\ Grew W w' := by
  have hr := fun id W => show Calls Tryz.prog 20 #[.int .i64 id] W fun e w' => e = .returned (.int .u64 (rankV id)) /\ w' = W from (xRank_any id W).mono (by rintro r w' ⟨h, rfl⟩; exact ⟨h, rfl⟩)
  have HV := hid (show cmpR p q = if rankV p.id < rankV q.id then -1 else if rankV q.id < rankV p.id then 1 else 0 from rfl); unfold Pt.row; generalize p.id = a at *; generalize q.id = b at *; go_enter Tryz.func64, Tryz.ntmps64; go_wp2_with fail; generalize hWq : (W.alloc _).alloc _ = Wq; have HG := hid (show Grew W Wq by rw [<- hWq]; exact ((Grew.refl W).alloc _).alloc _); have q0 : Wq.cell? ⟨W.heap.size, 0, none⟩ = some (.int .i64 a) := by rw [<- hWq, cell_row (heap_alloc_past _ _ _ _ (heap_alloc_at _ _ _ rfl))]; rfl
  have q1 : Wq.cell? ⟨W.heap.size + 1, 0, none⟩ = some (.int .i64 b) := by rw [<- hWq, cell_row (heap_alloc_at _ _ _ (by simp))]; rfl
  clear hWq; by_cases h1 : rankV a < rankV b
  · have HX := hid (show cmpR p q = -1 by rw [HV.out, if_pos h1]); have d1 : decide (rankV a < rankV b) = true := decide_eq_true h1
    go_quiet (first | (go_at_call 20; exact Calls.quiet_of_same (hr _ _)))
    go_wp2_with fail; go_ret; exact ⟨by rw [HX.out]; rfl, HG.out.drewN _⟩
  · have d1 : decide (rankV a < rankV b) = false := decide_eq_false h1; by_cases h2 : rankV b < rankV a
    · have HX := hid (show cmpR p q = 1 by rw [HV.out, if_neg h1, if_pos h2]); have d2 : decide (rankV b < rankV a) = true := decide_eq_true h2
      go_quiet (first | (go_at_call 20; exact Calls.quiet_of_same (hr _ _)))
      go_wp2_with fail; go_ret; exact ⟨by rw [HX.out]; rfl, HG.out.drewN _⟩
    · have HX := hid (show cmpR p q = 0 by rw [HV.out, if_neg h1, if_neg h2]); have d2 : decide (rankV b < rankV a) = false := decide_eq_false h2
      go_quiet (first | (go_at_call 20; exact Calls.quiet_of_same (hr _ _)))
      go_wp2_with fail; go_ret; exact ⟨by rw [HX.out]; rfl, HG.out.drewN _⟩
def cmpI (p q : Pt) : Int := wrap64 (p.id - q.id)
set_option maxRecDepth 100000 in
theorem byId_any (p q : Pt) (W : World) : Calls Tryz.prog 60 #[.agg p.row.toArray, .agg q.row.toArray] W fun e w' => e = .returned (.int .i64 (cmpI p q)) /\ Grew W w' := by
  have HV := hid (show cmpI p q = wrap64 (p.id - q.id) from rfl); unfold Pt.row; generalize p.id = a at *; generalize q.id = b at *; go_enter Tryz.func60, Tryz.ntmps60; go_wp2_with fail; go_ret; exact ⟨by rw [HV.out]; rfl, (by repeat' (first | exact Grew.refl _ | refine Grew.alloc ?_ _ | refine Grew.drewN ?_ _))⟩
def cmpK (a b : Ky) : Int := if a.L = b.L then (if a.x = b.x then (if a.y = b.y then (if a.z = b.z then 0 else a.z - b.z) else a.y - b.y) else a.x - b.x) else a.L - b.L
def Ky.small (k : Ky) : Prop := (0 <= k.L /\ k.L <= 12) /\ (0 <= k.x /\ k.x < 4096) /\ (0 <= k.y /\ k.y < 4096) /\ (0 <= k.z /\ k.z < 4096)
theorem idx160_0 (a b c d e f g h : Int) (w : World) : (Instr.index 162 (.agg #[.int .i64 a, .int .i64 b, .int .i64 c, .int .i64 d, .int .i64 e, .int .i64 f, .int .i64 g, .int .i64 h]) (.int .i64 0)).run Tryz.prog w = .ok (.agg #[.int .i64 a, .int .i64 b]) w := by kernel_rfl
theorem idx160_1 (a b c d e f g h : Int) (w : World) : (Instr.index 162 (.agg #[.int .i64 a, .int .i64 b, .int .i64 c, .int .i64 d, .int .i64 e, .int .i64 f, .int .i64 g, .int .i64 h]) (.int .i64 1)).run Tryz.prog w = .ok (.agg #[.int .i64 c, .int .i64 d]) w := by kernel_rfl
theorem idx160_2 (a b c d e f g h : Int) (w : World) : (Instr.index 162 (.agg #[.int .i64 a, .int .i64 b, .int .i64 c, .int .i64 d, .int .i64 e, .int .i64 f, .int .i64 g, .int .i64 h]) (.int .i64 2)).run Tryz.prog w = .ok (.agg #[.int .i64 e, .int .i64 f]) w := by kernel_rfl
theorem idx160_3 (a b c d e f g h : Int) (w : World) : (Instr.index 162 (.agg #[.int .i64 a, .int .i64 b, .int .i64 c, .int .i64 d, .int .i64 e, .int .i64 f, .int .i64 g, .int .i64 h]) (.int .i64 3)).run Tryz.prog w = .ok (.agg #[.int .i64 g, .int .i64 h]) w := by kernel_rfl
set_option maxRecDepth 100000 in
theorem order_any (a b : Ky) (ha : a.small) (hb : b.small) (W : World) : Calls Tryz.prog 68 #[.agg a.row.toArray, .agg b.row.toArray] W fun e w' => e = .returned (.int .i64 (cmpK a b)) /\ Grew W w' := by
  obtain ⟨aL, ax, ay, az⟩ := a; obtain ⟨bL, bx, b_y, bz⟩ := b; have HV := hid (show cmpK ⟨aL, ax, ay, az⟩ ⟨bL, bx, b_y, bz⟩ = if aL = bL then (if ax = bx then (if ay = b_y then (if az = bz then 0 else az - bz) else ay - b_y) else ax - bx) else aL - bL from rfl); simp only [Ky.small] at ha hb; simp only [Ky.row]; have hi0 := idx160_0; have hi1 := idx160_1; have hi2 := idx160_2; have hi3 := idx160_3; go_enter Tryz.func68, Tryz.ntmps68; go_wp2_with fail; refine wp_loop_rounds 5 ?_; rw [rounds_succ]; by_cases h1 : aL = bL
  · subst h1; go_wp2_with fail; rw [rounds_succ]; by_cases h2 : ax = bx
    · subst h2; go_wp2_with fail; rw [rounds_succ]; by_cases h3 : ay = b_y
      · subst h3; go_wp2_with fail; rw [rounds_succ]; by_cases h4 : az = bz
        · subst h4; have HX := hid (show cmpK ⟨aL, ax, ay, az⟩ ⟨aL, ax, ay, az⟩ = 0 by rw [HV.out]; simp); go_wp2_with fail; rw [rounds_succ]; go_wp2_with fail; go_ret; exact ⟨by rw [HX.out]; rfl, (by repeat' (first | exact Grew.refl _ | refine Grew.alloc ?_ _ | refine Grew.drewN ?_ _))⟩
        · have HX := hid (show cmpK ⟨aL, ax, ay, az⟩ ⟨aL, ax, ay, bz⟩ = az - bz by rw [HV.out]; simp [h4]); have d1 : (az == bz) = false := by simp [h4]
          go_wp2_with fail; go_ret; exact ⟨by rw [HX.out]; rfl, (by repeat' (first | exact Grew.refl _ | refine Grew.alloc ?_ _ | refine Grew.drewN ?_ _))⟩
      · have HX := hid (show cmpK ⟨aL, ax, ay, az⟩ ⟨aL, ax, b_y, bz⟩ = ay - b_y by rw [HV.out]; simp [h3]); have d1 : (ay == b_y) = false := by simp [h3]
        go_wp2_with fail; go_ret; exact ⟨by rw [HX.out]; rfl, (by repeat' (first | exact Grew.refl _ | refine Grew.alloc ?_ _ | refine Grew.drewN ?_ _))⟩
    · have HX := hid (show cmpK ⟨aL, ax, ay, az⟩ ⟨aL, bx, b_y, bz⟩ = ax - bx by rw [HV.out]; simp [h2]); have d1 : (ax == bx) = false := by simp [h2]
      go_wp2_with fail; go_ret; exact ⟨by rw [HX.out]; rfl, (by repeat' (first | exact Grew.refl _ | refine Grew.alloc ?_ _ | refine Grew.drewN ?_ _))⟩
  · have HX := hid (show cmpK ⟨aL, ax, ay, az⟩ ⟨bL, bx, b_y, bz⟩ = aL - bL by rw [HV.out, if_neg h1]); have d1 : (aL == bL) = false := by simp [h1]
    go_wp2_with fail; go_ret; exact ⟨by rw [HX.out]; rfl, (by repeat' (first | exact Grew.refl _ | refine Grew.alloc ?_ _ | refine Grew.drewN ?_ _))⟩
structure Te where
  key : Ky
  v : Value
  pts : List Pt
instance : Inhabited Te := ⟨⟨default, .slice none 0 0, []⟩⟩
def Te.row (e : Te) : List Value := e.key.row ++ [e.v]
def Te.tl (e : Te) : Tl := ⟨e.key, e.pts⟩
def Te.ok (e : Te) : Prop := e.key.small /\ e.v.oneCell' = true
set_option maxRecDepth 100000 in
theorem byKey_any (a b : Te) (ha : a.ok) (hb : b.ok) (W : World) : Calls Tryz.prog 67 #[.agg a.row.toArray, .agg b.row.toArray] W fun e w' => e = .returned (.int .i64 (cmpK a.key b.key)) /\ Grew W w' := by
  obtain ⟨⟨aL, ax, ay, az⟩, av, ap⟩ := a; obtain ⟨⟨bL, bx, b_y, bz⟩, bv, bp⟩ := b; have hO := fun W => order_any ⟨aL, ax, ay, az⟩ ⟨bL, bx, b_y, bz⟩ ha.1 hb.1 W
  have h1 := ha.2; have h2 := hb.2; simp only [Ky.row, Te.row, List.cons_append, List.nil_append] at hO h1 h2 ⊢; generalize cmpK ⟨aL, ax, ay, az⟩ ⟨bL, bx, b_y, bz⟩ = r at *; clear ha hb; go_enter Tryz.func67, Tryz.ntmps67; go_wp2_with fail; refine (hO _).mono ?_; rintro e w1 ⟨rfl, hg⟩; have HG := hid (((Grew.refl W).alloc _).alloc _ |>.trans hg); clear hg hO; go_wp2_with fail; go_ret; exact ⟨rfl, HG.out⟩
theorem cmpR_lt (p q : Pt) : ltOf cmpR p q = decide (rankV p.id < rankV q.id) := by
  unfold ltOf cmpR; by_cases h1 : rankV p.id < rankV q.id
  · simp [h1]
  · by_cases h2 : rankV q.id < rankV p.id <;> simp [h1, h2]
theorem cmpR_swo : SWO (ltOf cmpR) where
  irrefl x := by rw [cmpR_lt]; simp
  trans x y z h1 h2 := by rw [cmpR_lt] at *; simp at *; omega
  ntrans x y z h1 h2 := by rw [cmpR_lt] at *; simp at *; omega
theorem cmpK_lt (a b : Ky) : cmpK a b < 0 ↔ a.lt b := by
  unfold cmpK Ky.lt; by_cases h1 : a.L = b.L
  · rw [if_pos h1]; by_cases h2 : a.x = b.x
    · rw [if_pos h2]; by_cases h3 : a.y = b.y
      · rw [if_pos h3]; by_cases h4 : a.z = b.z
        · rw [if_pos h4]; omega
        · rw [if_neg h4]; omega
      · rw [if_neg h3]; omega
    · rw [if_neg h2]; omega
  · rw [if_neg h1]; omega
theorem Ky.not_lt_trans {a b c : Ky} (h : ¬ a.lt b) (h2 : ¬ b.lt c) : ¬ a.lt c := by unfold Ky.lt at *; omega
def PtG : Type := { p : Pt // 0 <= p.id /\ p.id <= 1152921504606846976 }
def TeG : Type := { e : Te // e.ok }
instance : Inhabited PtG := ⟨⟨default, by decide⟩⟩
instance : Inhabited TeG := ⟨⟨default, ⟨by unfold Ky.small; decide, rfl⟩⟩⟩
theorem cmpI_lt (p q : PtG) : ltOf (fun x y : PtG => cmpI x.1 y.1) p q = decide (p.1.id < q.1.id) := by
  obtain ⟨p, hp⟩ := p; obtain ⟨q, hq⟩ := q; have e : cmpI p q = p.id - q.id := by unfold cmpI wrap64; omega
  show decide (cmpI p q < 0) = decide (p.id < q.id); rw [e]; simp; omega
theorem cmpI_swo : SWO (ltOf (fun x y : PtG => cmpI x.1 y.1)) where
  irrefl x := by rw [cmpI_lt]; simp
  trans x y z h1 h2 := by rw [cmpI_lt] at *; simp at *; omega
  ntrans x y z h1 h2 := by rw [cmpI_lt] at *; simp at *; omega
theorem cmpT_lt (a b : TeG) : ltOf (fun x y : TeG => cmpK x.1.key y.1.key) a b = true ↔ a.1.key.lt b.1.key := by
  unfold ltOf; simp [cmpK_lt]
theorem cmpT_swo : SWO (ltOf (fun x y : TeG => cmpK x.1.key y.1.key)) where
  irrefl x := by
    rw [Bool.eq_false_iff, Ne, cmpT_lt]; exact Ky.lt_irrefl _
  trans x y z h1 h2 := by rw [cmpT_lt] at *; exact Ky.lt_trans h1 h2
  ntrans x y z h1 h2 := by
    rw [Bool.eq_false_iff, Ne, cmpT_lt] at *; exact Ky.not_lt_trans h1 h2
theorem pmap_val {α : Type} {p : α -> Prop} : ∀ (l : List α) (h : ∀ a ∈ l, p a), (l.pmap (fun a ha => (⟨a, ha⟩ : { a : α // p a })) h).map (·.1) = l
  | [], _ => rfl
  | a :: l, h => by
    rw [List.pmap_cons, List.map_cons, pmap_val l]
theorem sortRank_any (v : Value) (l : List Pt) (base : Nat) (W : World) (h : OwnR W base 106 9 v (l.map Pt.row)) (hn : l.length < 4611686018427387904) :
    Calls Tryz.prog 59 #[v, .func (.func 64) #[] #[]] W fun e w' => e = .returned (.tuple #[]) /\ ∃ l' : List Pt, l'.Perm l /\ l'.Pairwise (fun p q => ¬ rankV q.id < rankV p.id) /\ OwnR w' base 106 9 v (l'.map Pt.row) /\ W.grownBy w' v.ownBlock := by
  have hc := sort_own sortPtL 9 Tryz.isAgg106 Tryz.sizeOf106 Pt.row (fun _ => rfl) Pt.row_one cmpR cmpR_swo 64 #[] (enters_of Tryz.func64 (by kernel_rfl) rfl) (fun _ _ _ _ _ _ _ x y => byRank_any x y _) W base 106 v l h hn; refine Calls.mono (show Calls Tryz.prog 59 _ _ _ from hc) ?_; rintro e w' ⟨rfl, l', h1, h2, h3, h4⟩; refine ⟨rfl, l', h1, h2.imp ?_, h3, h4⟩; intro a b hab; rw [cmpR_lt] at hab; simpa using hab
theorem sortId_any (v : Value) (l : List Pt) (base : Nat) (W : World) (h : OwnR W base 106 9 v (l.map Pt.row)) (hn : l.length < 4611686018427387904) (hid : ∀ p ∈ l, 0 <= p.id /\ p.id <= 1152921504606846976) :
    Calls Tryz.prog 59 #[v, .func (.func 60) #[] #[]] W fun e w' => e = .returned (.tuple #[]) /\ ∃ l' : List Pt, l'.Perm l /\ l'.Pairwise (fun p q => ¬ q.id < p.id) /\ OwnR w' base 106 9 v (l'.map Pt.row) /\ W.grownBy w' v.ownBlock := by
  obtain ⟨lg, hlg⟩ : ∃ lg : List PtG, lg.map (·.1) = l := ⟨_, pmap_val l hid⟩; subst hlg; rw [List.length_map] at hn; have h' : OwnR W base 106 9 v (lg.map (fun p : PtG => p.1.row)) := by rw [List.map_map] at h; exact h
  have hc := sort_own sortPtL 9 Tryz.isAgg106 Tryz.sizeOf106 (fun p : PtG => p.1.row) (fun _ => rfl) (fun p => Pt.row_one p.1) (fun x y : PtG => cmpI x.1 y.1) cmpI_swo 60 #[] (enters_of Tryz.func60 (by kernel_rfl) rfl) (fun _ _ _ _ _ _ _ x y => byId_any x.1 y.1 _) W base 106 v lg h' hn; refine Calls.mono (show Calls Tryz.prog 59 _ _ _ from hc) ?_; rintro e w' ⟨rfl, l', h1, h2, h3, h4⟩; refine ⟨rfl, l'.map (·.1), h1.map _, ?_, by rw [List.map_map]; exact h3, h4⟩; rw [List.pairwise_map]; refine h2.imp ?_; intro a b hab; rw [cmpI_lt] at hab; simpa using hab
theorem Te.row_one (e : Te) (h : e.ok) : ∀ v ∈ e.row, v.oneCell' = true := fun v hv => by
  simp [Te.row, Ky.row] at hv
  rcases hv with rfl | rfl | rfl | rfl | rfl
  · rfl
  · rfl
  · rfl
  · rfl
  · exact h.2
theorem sortKey_any (v : Value) (l : List Te) (base : Nat) (W : World) (h : OwnR W base 101 5 v (l.map Te.row)) (hn : l.length < 4611686018427387904) (hok : ∀ e ∈ l, e.ok) :
    Calls Tryz.prog 66 #[v, .func (.func 67) #[] #[]] W fun e w' => e = .returned (.tuple #[]) /\ ∃ l' : List Te, l'.Perm l /\ l'.Pairwise (fun a b => ¬ b.key.lt a.key) /\ OwnR w' base 101 5 v (l'.map Te.row) /\ W.grownBy w' v.ownBlock := by
  obtain ⟨lg, hlg⟩ : ∃ lg : List TeG, lg.map (·.1) = l := ⟨_, pmap_val l hok⟩; subst hlg; rw [List.length_map] at hn; have h' : OwnR W base 101 5 v (lg.map (fun p : TeG => p.1.row)) := by rw [List.map_map] at h; exact h
  have hc := sort_own sortTlL 5 Tryz.isAgg101 Tryz.sizeOf101 (fun p : TeG => p.1.row) (fun _ => rfl) (fun p => Te.row_one p.1 p.2) (fun x y : TeG => cmpK x.1.key y.1.key) cmpT_swo 67 #[] (enters_of Tryz.func67 (by kernel_rfl) rfl) (fun _ _ _ _ _ _ _ x y => byKey_any x.1 y.1 x.2 y.2 _) W base 101 v lg h' hn; refine Calls.mono (show Calls Tryz.prog 66 _ _ _ from hc) ?_; rintro e w' ⟨rfl, l', h1, h2, h3, h4⟩; refine ⟨rfl, l'.map (·.1), h1.map _, ?_, by rw [List.map_map]; exact h3, h4⟩; rw [List.pairwise_map]; refine h2.imp ?_; intro a b hab; rw [Bool.eq_false_iff, Ne, cmpT_lt] at hab; exact hab
open Go.RowKit Go.Maps
theorem law39 : Keyed Tryz.prog 99 := Keyed.of_law (deep_law_laid (by kernel_rfl) (m := 2) (by omega) (of_decide_eq_true (by kernel_rfl)) (by kernel_rfl) (by kernel_rfl))
theorem zero22 (w : World) : (zeroValue 35).run Tryz.prog w = .ok (.slice none 0 0) w := by kernel_rfl
theorem made129 (W : World) : (Instr.makeMap 130 none).run Tryz.prog W = .ok (.map (some W.heap.size)) (W.alloc (.map #[] 0)) := by
  simp [Instr.makeMap, newObj]; rfl
theorem RowsAt.one {W : World} {g sz : Nat} {C : Array Value} {t : TypeId} {fr : Nat × Nat} (h : W.heap[g]? = some (.cells C t fr)) : RowsAt W g 0 sz [C.toList] := fun i r hi j hj => by
  cases i with
  | zero =>
    simp at hi; subst hi; rw [cell_row h]; simp only [Nat.zero_mul, Nat.zero_add]; exact Array.getElem?_toList.symm
  | succ i => simp at hi
theorem wide9 (p0 p1 p2 p3 p4 p5 p6 p7 p8 : Int) : Wide 9 [[Value.int .i64 p0, .int .i64 p1, .int .i64 p2, .int .i64 p3, .int .i64 p4, .int .i64 p5, .int .i64 p6, .int .i64 p7, .int .i64 p8]] := by
  refine Wide.one rfl (fun u hu => ?_); simp at hu
  rcases hu with rfl | rfl | rfl | rfl | rfl | rfl | rfl | rfl | rfl <;> rfl
theorem base_alloc {n : Nat} {W : World} (h : n <= W.heap.size) (o : Obj) : n <= (W.alloc o).heap.size := by
  simp; omega
theorem info49 : (Tryz.prog.info? 101).map (fun i => (i.zero, i.size, i.bytes)) = some (some (.agg #[.int .i64 0, .int .i64 0, .int .i64 0, .int .i64 0, .slice none 0 0]), 5, 56) := by kernel_rfl
theorem wide5 (a b c d : Int) (ad : Option Addr) (n m : Nat) : Wide 5 [[Value.int .i64 a, .int .i64 b, .int .i64 c, .int .i64 d, .slice ad n m]] := by
  refine Wide.one rfl (fun u hu => ?_); simp at hu
  rcases hu with rfl | rfl | rfl | rfl | rfl <;> rfl
open Go.RowKit
end Go.Proofs.YtcclpdfmmdonpaaGreat
