/- The range over a level's tiles: what holds between two of its rounds, and that a round keeps it. -/
import Derived.Test.YteanlcefdoigcaaLayE
namespace Go.Proofs.Yteanlcefdoigcaa
open Go.RowKit Go.Maps

/-- tiles in memory of the call's own -/
def TilesIn (W : World) (base : Nat) (v : Value) (E : List Te) : Prop := OwnR W base 49 5 v (E.map Te.row) ∧ ∀ e ∈ E, OwnP W base e.v e.pts
/-- what has been laid above a level -/
def above (S : List Pt) (c : Nat) (l : Nat) : Pt → Ky → Prop := fun p k => p ∈ S ∧ isAt S c p k ∧ k.L < l
/-- what has been laid above a level, and of the level all but what is still to come -/
def aboveL (S : List Pt) (c : Nat) (l : Nat) (left : Lit → Bool) : Pt → Ky → Prop := fun p k => p ∈ S ∧ isAt S c p k ∧ (k.L < l ∨ (k.L = l ∧ left (kLit k) = false))
structure RngAt (W : World) (base bl mb r n : Nat) (get : Lit → Option Value) (left : Lit → Bool) (cnt : Nat) (S : List Pt) (c l : Nat) (Lf : List Pt) (E : List Te) (ov rv : Value) : Prop where
  rng : RangeAt Try.prog W 39 mb r n get left cnt
  has : ∀ kl, left kl = true → (get kl).isSome = true
  own : ∀ k : Ky, k.small → ∀ v, get (kLit k) = some v → left (kLit k) = true → OwnP W bl v (grp S c l Lf Lf.length k)
  tin : TilesIn W base ov E
  til : Tiles (aboveL S c l left) (E.map Te.tl)
  old : ∀ e ∈ E, ∀ g, e.v.ownBlock = some g → g < bl ∨ ∃ k : Ky, k.small ∧ get (kLit k) = some e.v ∧ left (kLit k) = false
  rest : OwnP W bl rv (rst S c l Lf Lf.length)
  keys : ∀ e ∈ E, e.ok
theorem own_iter {W : World} {P : Program} {k b r n cnt g t sz base : Nat} {get : Lit → Option Value} {left : Lit → Bool} {v : Value} {m : List (List Value)} (hm : OwnR W base t sz v m) (h : RangeAt P W k b r n get left cnt) (hg : v.ownBlock = some g) : g ≠ r := fun e => by
  subst e
  obtain ⟨c1, q1⟩ := hm.typed hg
  obtain ⟨D, ⟨es, clock, since, seen, c0, _, _, _, _, h5, _⟩, _⟩ := h
  rw [q1] at h5
  cases h5
theorem own_rmap {W : World} {P : Program} {k b r n cnt g t sz base : Nat} {get : Lit → Option Value} {left : Lit → Bool} {v : Value} {m : List (List Value)} (hm : OwnR W base t sz v m) (h : RangeAt P W k b r n get left cnt) (hg : v.ownBlock = some g) : g ≠ b := fun e => by
  subst e
  obtain ⟨c1, q1⟩ := hm.typed hg
  obtain ⟨D, ⟨es, clock, since, seen, c0, h5, _⟩, _⟩ := h
  rw [q1] at h5
  cases h5
theorem left_gone {left : Lit → Bool} {k k' : Ky} (hk : k.small) (hk' : k'.small) : (left (kLit k') && !(kLit k').sameKey (kLit k)) = false ↔ (left (kLit k') = false ∨ k' = k) := by
  by_cases he : k' = k
  · subst he
    rw [WideAt.sameKey_self (law39.key (key_lit _ hk))]
    simp
  · rw [sameKey_ne (fun e => he (kLit_inj hk' hk e))]
    simp [he]
theorem isAt_small {S : List Pt} {c : Nat} {p : Pt} {k : Ky} (hf : p.fine) (h : isAt S c p k) : k.small := by
  obtain ⟨l, h1, _, _, rfl⟩ := h
  exact cellK_small hf h1
theorem rng_start {W : World} {base bl mb r n cnt c l : Nat} {get : Lit → Option Value} {S Lf : List Pt} {E : List Te} {ov rv : Value} (hf : ∀ p ∈ S, p.fine) (hlf : LeftAt S c l Lf) (hl : l ≤ 12) (hg : Grps W bl get S c l Lf Lf.length) (hr : RangeAt Try.prog W 39 mb r n get (fun kl => (get kl).isSome) cnt)
    (hte : TilesIn W base ov E) (htl : Tiles (above S c l) (E.map Te.tl)) (hbl : ∀ e ∈ E, ∀ g, e.v.ownBlock = some g → g < bl) (hrest : OwnP W bl rv (rst S c l Lf Lf.length)) (hks : ∀ e ∈ E, e.ok) :
    RngAt W base bl mb r n get (fun kl => (get kl).isSome) cnt S c l Lf E ov rv := by
  refine ⟨hr, fun _ h => h, fun k hk v hv _ => (hg.own k hk v hv).1, hte, htl.congr (fun p k => ?_), fun e he g h => Or.inl (hbl e he g h), hrest, hks⟩
  constructor
  · rintro ⟨h1, h2, h3⟩; exact ⟨h1, h2, Or.inl h3⟩
  · rintro ⟨h1, h2, h3 | ⟨h3, h4⟩⟩
    · exact ⟨h1, h2, h3⟩
    · have hn := hg.none k (isAt_small (hf p h1) h2) (by simpa using h4)
      have hm := (grp_full hlf hl h3).2 ⟨h1, h2⟩
      rw [hn] at hm
      simp at hm
theorem RngAt.done {W : World} {base bl mb r n cnt c l : Nat} {get : Lit → Option Value} {left : Lit → Bool} {S Lf : List Pt} {E : List Te} {ov rv : Value} (h : RngAt W base bl mb r n get left cnt S c l Lf E ov rv) (hd : ∀ kl, left kl = false) : Tiles (above S c (l + 1)) (E.map Te.tl) :=
  h.til.congr (fun p k => by
    constructor
    · rintro ⟨h1, h2, h3⟩
      refine ⟨h1, h2, ?_⟩
      rcases h3 with h3 | ⟨h3, _⟩
      · omega
      · omega
    · rintro ⟨h1, h2, h3⟩
      refine ⟨h1, h2, ?_⟩
      obtain ⟨m, _, hm⟩ := isAt_bd h2
      by_cases he : k.L = l
      · exact Or.inr ⟨he, hd _⟩
      · left; omega)
theorem range_end {W0 W W1 W2 W3 W4 W5 : World} {base bl mb r n cnt cnt' c l : Nat} {get : Lit → Option Value} {left : Lit → Bool} {S Lf pts' : List Pt} {E : List Te} {ov ov5 rv v : Value} {k : Ky} (h : RngAt W base bl mb r n get left cnt S c l Lf E ov rv)
    (hS : GoodS S) (hf : ∀ p ∈ S, p.fine) (hlf : LeftAt S c l Lf) (hl : l ≤ 12) (hb : base ≤ bl) (hg : Grps W0 bl get S c l Lf Lf.length) (hap : Apart get rv) (hk : k.small) (hkL : k.L = l) (hlk : left (kLit k) = true) (hv : get (kLit k) = some v)
    (h1 : RangeAt Try.prog W1 39 mb r n get (fun z => left z && !z.sameKey (kLit k)) cnt') (g1 : W.grownBy W1 (some r)) (g2 : Below W1.heap.size W1 W2) (g3 : W2.grownBy W3 v.ownBlock) (hp3 : OwnP W3 bl v pts') (hperm : pts'.Perm (grp S c l Lf Lf.length k)) (hasc : pts'.Pairwise (fun p q => ¬ q.id < p.id))
    (g4 : Below W3.heap.size W3 W4) (g5 : W4.grownBy W5 ov.ownBlock) (hown : OwnR W5 base 49 5 ov5 (E.map Te.row ++ [(⟨k, v, pts'⟩ : Te).row])) (hvo : v.oneCell' = true) :
    RngAt W5 base bl mb r n get (fun z => left z && !z.sameKey (kLit k)) cnt' S c l Lf (E ++ [⟨k, v, pts'⟩]) ov5 rv := by
  have hov := h.own k hk v hv hlk
  have hvb : ∀ g, v.ownBlock = some g → bl ≤ g := fun g hg => OwnR.ownBlock hov g hg
  have t3 : Turned W W3 (fun j => j = r ∨ v.ownBlock = some j) := by
    refine (((turned_grown g1).trans (turned_below g2 (fun j => some j = some r)) (fun _ _ e => e)).trans (T := fun j => some j = some r) (turned_below (Below.refl _ _) _) (fun _ _ e => e)) |> fun t => ?_
    refine (Turned.trans (T := fun j => j = r ∨ v.ownBlock = some j) ⟨t.os, t.tape, t.output, t.size, fun j hj hn => t.block j hj (fun e => hn (Or.inl (by injection e)))⟩ (turned_grown g3) ?_)
    intro j _ e; exact Or.inr e.symm
  have t5 : Turned W W5 (fun j => (j = r ∨ v.ownBlock = some j) ∨ ov.ownBlock = some j) := by
    refine (Turned.trans (T := fun j => (j = r ∨ v.ownBlock = some j) ∨ ov.ownBlock = some j) ⟨t3.os, t3.tape, t3.output, t3.size, fun j hj hn => t3.block j hj (fun e => hn (Or.inl e))⟩ (turned_below g4 (fun _ => False)) (fun _ _ e => e.elim)).trans (turned_grown g5) ?_
    intro j _ e; exact Or.inr e.symm
  have hkeep : ∀ {u : Value} {m : List Pt} {b' : Nat}, OwnP W b' u m → (∀ g, u.ownBlock = some g → v.ownBlock ≠ some g) → OwnP W5 b' u m := fun {u m b'} hu hne => by
    refine OwnR.turned hu t5 (fun g hg e => ?_)
    rcases e with (e | e) | e
    · exact own_iter hu h.rng hg e
    · exact hne g hg e
    · exact own_apart hu h.tin.1 (by decide) hg e
  have hv5 : OwnP W5 bl v pts' := by
    refine OwnR.turned (hp3.turned (turned_below g4 (fun _ => False)) (fun _ _ e => e)) (turned_grown g5) (fun g hg e => ?_)
    exact own_apart hov h.tin.1 (by decide) hg e.symm
  have hmem : ∀ p, p ∈ pts' ↔ p ∈ S ∧ isAt S c p k := fun p => by rw [hperm.mem_iff, grp_full hlf hl hkL]
  refine ⟨?_, fun kl hkl => h.has kl (Bool.and_eq_true_iff.1 hkl).1, fun k' hk' u hu hl' => ?_, ⟨?_, fun e he => ?_⟩, ?_, fun e he g hge => ?_, ?_, fun e he => ?_⟩
  · have h2 := h1.grow g2
    have h3 := h2.kept g3 (fun e => own_rmap hov h.rng e.symm rfl) (fun e => own_iter hov h.rng e.symm rfl)
    have h4 := h3.grow g4
    exact h4.kept g5 (fun e => own_rmap h.tin.1 h.rng e.symm rfl) (fun e => own_iter h.tin.1 h.rng e.symm rfl)
  · obtain ⟨h2, h3⟩ := Bool.and_eq_true_iff.1 hl'
    have hne : k' ≠ k := fun e => by
      subst e
      rw [WideAt.sameKey_self (law39.key (key_lit _ hk))] at h3
      simp at h3
    exact hkeep (h.own k' hk' u hu h2) (fun g hg2 e => hne (hg.apart k' k hk' hk u v g hu hv hg2 e))
  · rw [List.map_append]
    exact hown
  · rcases List.mem_append.1 he with g | g
    · refine hkeep (h.tin.2 e g) (fun j hj e2 => ?_)
      rcases h.old e g j hj with h2 | ⟨k', hk', h3, h4⟩
      · have := hvb j e2; omega
      · have := hg.apart k' k hk' hk e.v v j h3 hv hj e2
        subst this
        rw [hlk] at h4; cases h4
    · obtain rfl := List.mem_singleton.1 g
      exact OwnR.mono hv5 hb
  · rw [List.map_append]
    have hadd := h.til.add (k := k) (pts := pts') (fun p hq => ?_) (fun e => ?_) (asc_ids hperm (grp_ids hS hlf k) hasc)
    · refine hadd.congr (fun p x => ?_)
      constructor
      · rintro (⟨h2, h3, h4 | ⟨h4, h5⟩⟩ | ⟨rfl, h2⟩)
        · exact ⟨h2, h3, Or.inl h4⟩
        · exact ⟨h2, h3, Or.inr ⟨h4, (left_gone hk (isAt_small (hf p h2) h3)).2 (Or.inl h5)⟩⟩
        · obtain ⟨h3, h4⟩ := (hmem p).1 h2
          exact ⟨h3, h4, Or.inr ⟨hkL, (left_gone hk hk).2 (Or.inr rfl)⟩⟩
      · rintro ⟨h2, h3, h4 | ⟨h4, h5⟩⟩
        · exact Or.inl ⟨h2, h3, Or.inl h4⟩
        · rcases (left_gone hk (isAt_small (hf p h2) h3)).1 h5 with h6 | rfl
          · exact Or.inl ⟨h2, h3, Or.inr ⟨h4, h6⟩⟩
          · exact Or.inr ⟨rfl, (hmem p).2 ⟨h2, h3⟩⟩
    · obtain ⟨_, _, h3 | ⟨_, h3⟩⟩ := hq
      · omega
      · rw [hlk] at h3; cases h3
    · subst e
      exact (hg.own k hk v hv).2 (List.Perm.nil_eq hperm).symm
  · rcases List.mem_append.1 he with g' | g'
    · rcases h.old e g' g hge with h2 | ⟨k', hk', h3, h4⟩
      · exact Or.inl h2
      · exact Or.inr ⟨k', hk', h3, (left_gone hk hk').2 (Or.inl h4)⟩
    · obtain rfl := List.mem_singleton.1 g'
      exact Or.inr ⟨k, hk, hv, (left_gone hk hk).2 (Or.inr rfl)⟩
  · exact hkeep h.rest (fun g hg e => hap k v g hk hv e hg)
  · rcases List.mem_append.1 he with g | g
    · exact h.keys e g
    · obtain rfl := List.mem_singleton.1 g
      exact ⟨hk, hvo⟩
theorem RangeAt.left_eq {W : World} {P : Program} {k b r n cnt : Nat} {get : Lit → Option Value} {left : Lit → Bool} (h : RangeAt P W k b r n get left cnt) : W.rangeLeft b r = cnt := by
  obtain ⟨D, h1, _⟩ := h
  exact h1.left_eq
theorem RangeAt.cnt_le {W : World} {P : Program} {k b r n cnt : Nat} {get : Lit → Option Value} {left : Lit → Bool} (h : RangeAt P W k b r n get left cnt) : cnt ≤ n := by
  obtain ⟨D, ⟨es, clock, since, seen, c0, _, _, h3, _, _, _, h7, _⟩, _⟩ := h
  rw [← h7]
  refine Nat.le_trans ?_ h3
  unfold leftOf
  exact Array.size_filter_le
theorem Grps.keep {W W' : World} {bl : Nat} {get : Lit → Option Value} {S : List Pt} {c l i : Nat} {Lf : List Pt} {T : Nat → Prop} (h : Grps W bl get S c l Lf i) (hw : Turned W W' T) (hT : ∀ k, ¬ T k) : Grps W' bl get S c l Lf i :=
  ⟨h.back, fun k hk v hv => ⟨OwnR.turned (h.own k hk v hv).1 hw (fun b _ => hT b), (h.own k hk v hv).2⟩, h.none, h.apart⟩
theorem TilesIn.turned {W W' : World} {base : Nat} {v : Value} {E : List Te} {T : Nat → Prop} (h : TilesIn W base v E) (hw : Turned W W' T) (hT : ∀ k, k < W.heap.size → ¬ T k) : TilesIn W' base v E :=
  ⟨h.1.turned hw (fun b hb => hT b (h.1.lt hb)), fun e he => OwnR.turned (h.2 e he) hw (fun b hb => hT b (OwnR.lt (h.2 e he) hb))⟩
/-- the tiles laid so far, behind the sort of a further one -/
theorem range_own {W W1 W2 W3 W4 : World} {base bl mb r n cnt c l : Nat} {get : Lit → Option Value} {left : Lit → Bool} {S Lf : List Pt} {E : List Te} {ov rv v : Value} {m : List (List Value)} (h : RngAt W base bl mb r n get left cnt S c l Lf E ov rv) (hov : OwnR W bl 36 9 v m)
    (g1 : W.grownBy W1 (some r)) (g2 : Below W1.heap.size W1 W2) (g3 : W2.grownBy W3 v.ownBlock) (g4 : Below W3.heap.size W3 W4) : OwnR W4 base 49 5 ov (E.map Te.row) := by
  have a1 := h.tin.1.turned (turned_grown g1) (fun b hb e => own_iter h.tin.1 h.rng hb (by injection e))
  have a2 := a1.grow g2
  have a3 := a2.turned (turned_grown g3) (fun b hb e => own_apart h.tin.1 hov (by decide) hb e.symm)
  exact a3.grow g4
end Go.Proofs.Yteanlcefdoigcaa
