/- Memory of a layout: slices of points that are the call's own, and what may turn between two worlds. -/
import Derived.Test.YteanlcefdoigcaaKeyL
namespace Go.Proofs.Yteanlcefdoigcaa
open Go.RowKit Go.Maps

/-- W' is W but for new blocks and for the blocks of T -/
structure Turned (W W' : World) (T : Nat → Prop) : Prop where
  os : W'.os = W.os
  tape : W'.tape = W.tape
  output : W'.output = W.output
  size : W.heap.size ≤ W'.heap.size
  block : ∀ k, k < W.heap.size → ¬ T k → W'.heap[k]? = W.heap[k]?
theorem Turned.refl (W : World) (T : Nat → Prop) : Turned W W T := ⟨rfl, rfl, rfl, Nat.le_refl _, fun _ _ _ => rfl⟩
theorem Turned.trans {W W1 W2 : World} {T T' : Nat → Prop} (h : Turned W W1 T) (h2 : Turned W1 W2 T') (ht : ∀ k, k < W.heap.size → T' k → T k) : Turned W W2 T :=
  ⟨h2.os.trans h.os, h2.tape.trans h.tape, h2.output.trans h.output, Nat.le_trans h.size h2.size, fun k hk hn => (h2.block k (Nat.lt_of_lt_of_le hk h.size) (fun e => hn (ht k hk e))).trans (h.block k hk hn)⟩
theorem turned_grown {W W' : World} {row : Option Nat} (h : W.grownBy W' row) : Turned W W' (fun k => some k = row) := ⟨h.os, h.tape, h.output, h.size, fun k hk hn => h.block k hk hn⟩
theorem turned_below {W W' : World} (h : Below W.heap.size W W') (T : Nat → Prop) : Turned W W' T := ⟨h.os, h.tape, h.output, h.size, fun k hk _ => h.block k hk⟩
theorem Turned.below {w W W' : World} {T : Nat → Prop} {B : Nat} (h : Turned W W' T) (hb : Below B w W) (hB : B ≤ W.heap.size) (ht : ∀ k, T k → B ≤ k) : Below B w W' :=
  ⟨h.os.trans hb.os, h.tape.trans hb.tape, h.output.trans hb.output, Nat.le_trans hb.size h.size, fun k hk => (h.block k (Nat.lt_of_lt_of_le hk hB) (fun e => by have := ht k e; omega)).trans (hb.block k hk)⟩
theorem grew_below {W X : World} (h : Grew W X) : Below W.heap.size W X := by
  obtain ⟨q, os, rfl⟩ := h
  refine ⟨rfl, rfl, rfl, ?_, fun k hk => ?_⟩
  · rw [Sort.size_grow]; exact Nat.le_add_right _ _
  · show (W.heap ++ os)[k]? = _
    rw [Array.getElem?_append_left hk]
section
variable {W W' : World} {base t sz : Nat} {v : Value} {l : List (List Value)}
theorem OwnR.turned {T : Nat → Prop} (h : OwnR W base t sz v l) (ht : Turned W W' T) (hne : ∀ b, v.ownBlock = some b → ¬ T b) : OwnR W' base t sz v l := by
  refine ⟨h.1, h.2.1, ?_⟩
  rcases h.2.2 with h1 | ⟨g, cap, cur, h1, hb, h2, h3⟩
  · exact Or.inl h1
  · refine Or.inr ⟨g, cap, cur, h1, hb, ?_, h3⟩
    rw [ht.block g (Array.getElem?_eq_some_iff.1 h2).1 (hne g (by rw [h1]; rfl))]
    exact h2
theorem OwnR.lt (h : OwnR W base t sz v l) {g : Nat} (hg : v.ownBlock = some g) : g < W.heap.size := by
  rcases h.2.2 with ⟨h1, _⟩ | ⟨g', cap, cur, h1, hb, h2, h3⟩
  · rw [h1] at hg; cases hg
  · rw [h1] at hg
    injection hg with hg
    subst hg
    exact (Array.getElem?_eq_some_iff.1 h2).1
theorem OwnR.typed (h : OwnR W base t sz v l) {g : Nat} (hg : v.ownBlock = some g) : ∃ cur, W.heap[g]? = some (.cells cur t) := by
  rcases h.2.2 with ⟨h1, _⟩ | ⟨g', cap, cur, h1, hb, h2, h3⟩
  · rw [h1] at hg; cases hg
  · rw [h1] at hg
    injection hg with hg
    subst hg
    exact ⟨cur, h2⟩
theorem own_apart {b2 t2 s2 : Nat} {u : Value} {m : List (List Value)} (h : OwnR W base t sz v l) (h2 : OwnR W b2 t2 s2 u m) (ht : t ≠ t2) {g : Nat} (hg : v.ownBlock = some g) : u.ownBlock ≠ some g := fun e => by
  obtain ⟨c1, q1⟩ := h.typed hg
  obtain ⟨c2, q2⟩ := h2.typed e
  rw [q1] at q2
  injection q2 with q2
  injection q2 with _ q2
  exact ht q2
theorem own_map {P : Program} {k b n g : Nat} {get : Lit → Option Value} (h : OwnR W base t sz v l) (hm : MapAt P W k b n get) (hg : v.ownBlock = some g) : g ≠ b := fun e => by
  subst e
  obtain ⟨c1, q1⟩ := h.typed hg
  obtain ⟨D, ⟨es, clock, hb, _⟩, _⟩ := hm
  rw [q1] at hb
  cases hb
end
/-- a slice of points of the call's own, from a block on -/
def OwnP (W : World) (base : Nat) (v : Value) (l : List Pt) : Prop := OwnR W base 36 9 v (l.map Pt.row)
theorem OwnP.cells {W : World} {base : Nat} {v : Value} {l : List Pt} (h : OwnP W base v l) (hn : 0 < l.length) : ∃ g cap, v = .slice (some ⟨g, 0, none⟩) l.length cap ∧ base ≤ g ∧ g < W.heap.size ∧ ∀ i p, l[i]? = some p → ∀ j, j < 9 → W.cell? ⟨g, i * 9 + j, none⟩ = some (.int .i64 (p.f j)) := by
  obtain ⟨g, cap, cur, h1, hb, h2, h3, _⟩ := OwnR.rows h (by simpa using hn)
  rw [List.length_map] at h1
  refine ⟨g, cap, h1, hb, (Array.getElem?_eq_some_iff.1 h2).1, fun i p hi j hj => ?_⟩
  have := h3 i p.row (by rw [List.getElem?_map, hi]; rfl) j hj
  rw [Nat.zero_add, Pt.row_at p j hj] at this
  exact this
theorem OwnP.slice {W : World} {base : Nat} {v : Value} {l : List Pt} (h : OwnP W base v l) : ∃ a cap, v = .slice a l.length cap := by
  have := OwnR.slice h
  rwa [List.length_map] at this
/-- the coordinates of a point are within bounds -/
def Pt.fine (p : Pt) : Prop := (0 ≤ p.id ∧ p.id ≤ 1152921504606846976) ∧ (-268435456 ≤ p.x ∧ p.x ≤ 268435456) ∧ (-268435456 ≤ p.y ∧ p.y ≤ 268435456) ∧ (-268435456 ≤ p.zl ∧ p.zl ≤ 268435456)
theorem idxV_bd (n : Int) (h : -268435456 ≤ n ∧ n ≤ 268435456) (l : Nat) (hl : l ≤ 12) : 0 ≤ idxV n l ∧ idxV n l < 4096 := by
  match l, hl with
  | 0, _ | 1, _ | 2, _ | 3, _ | 4, _ | 5, _ | 6, _ | 7, _ | 8, _ | 9, _ | 10, _ | 11, _ | 12, _ =>
    simp [idxV]
    omega
theorem cellK_small {p : Pt} (h : p.fine) {l : Nat} (hl : l ≤ 12) : (cellK l p).small :=
  ⟨⟨by show (0 : Int) ≤ (l : Int); omega, by show (l : Int) ≤ 12; omega⟩, idxV_bd _ h.2.1 l hl, idxV_bd _ h.2.2.1 l hl, idxV_bd _ h.2.2.2 l hl⟩
/-- the map of a level's tiles, behind i points -/
structure Grps (W : World) (bl : Nat) (get : Lit → Option Value) (S : List Pt) (c l : Nat) (Lf : List Pt) (i : Nat) : Prop where
  back : ∀ kl v, get kl = some v → ∃ k : Ky, k.small ∧ k.L = l ∧ kl = kLit k
  own : ∀ k : Ky, k.small → ∀ v, get (kLit k) = some v → OwnP W bl v (grp S c l Lf i k) ∧ grp S c l Lf i k ≠ []
  none : ∀ k : Ky, k.small → get (kLit k) = none → grp S c l Lf i k = []
  apart : ∀ k k' : Ky, k.small → k'.small → ∀ v v' g, get (kLit k) = some v → get (kLit k') = some v' → v.ownBlock = some g → v'.ownBlock = some g → k = k'
theorem Grps.start (W : World) (bl : Nat) (S : List Pt) (c l : Nat) (Lf : List Pt) : Grps W bl (fun _ => Option.none) S c l Lf 0 :=
  ⟨fun _ _ h => (by cases h), fun _ _ _ h => (by cases h), fun _ _ _ => (by simp [grp]), fun _ _ _ _ _ _ _ h => (by cases h)⟩
/-- a point that no tile takes -/
theorem Grps.pass {W W' : World} {bl : Nat} {get : Lit → Option Value} {S : List Pt} {c l i : Nat} {Lf : List Pt} {p : Pt} {T : Nat → Prop} (h : Grps W bl get S c l Lf i) (hi : Lf[i]? = some p) (ht : takes S c l p = false) (hw : Turned W W' T)
    (hT : ∀ k v g, k.small → get (kLit k) = some v → v.ownBlock = some g → ¬ T g) : Grps W' bl get S c l Lf (i + 1) := by
  refine ⟨h.back, fun k hk v hv => ?_, fun k hk hn => ?_, h.apart⟩
  · rw [grp_other hi (Or.inl ht)]
    obtain ⟨h1, h2⟩ := h.own k hk v hv
    exact ⟨OwnR.turned h1 hw (fun b hb => hT k v b hk hv hb), h2⟩
  · rw [grp_other hi (Or.inl ht)]
    exact h.none k hk hn
theorem putG_twice (get : Lit → Option Value) (k : Lit) (u v : Value) : putG (putG get k u) k v = putG get k v := by
  funext x
  unfold putG
  by_cases h : x.sameKey k = true
  · simp [h]
  · simp [h]
/-- a point that its tile takes: the tile's new slice lies in its old block or in a new one -/
theorem Grps.take {W W' : World} {bl : Nat} {get : Lit → Option Value} {S : List Pt} {c l i : Nat} {Lf : List Pt} {p : Pt} {T : Nat → Prop} {v' : Value} (h : Grps W bl get S c l Lf i) (hi : Lf[i]? = some p) (ht : takes S c l p = true) (hf : p.fine) (hl : l ≤ 12) (hw : Turned W W' T)
    (hT : ∀ k v g, k.small → k ≠ cellK l p → get (kLit k) = some v → v.ownBlock = some g → ¬ T g) (hv : OwnP W' bl v' (grp S c l Lf i (cellK l p) ++ [p])) (hb : ∀ g, v'.ownBlock = some g → W.heap.size ≤ g ∨ ∃ v, get (kLit (cellK l p)) = some v ∧ v.ownBlock = some g) :
    Grps W' bl (putG get (kLit (cellK l p)) v') S c l Lf (i + 1) := by
  have hks := cellK_small hf hl
  have hkey : WideAt.IsKeyLit (kLit (cellK l p)) := law39.key (key_lit _ hks)
  have hother : ∀ k : Ky, k.small → k ≠ cellK l p → putG get (kLit (cellK l p)) v' (kLit k) = get (kLit k) := fun k hk hne => putG_other (fun e => hne (kLit_inj hk hks e))
  refine ⟨fun kl v hv => ?_, fun k hk v hv2 => ?_, fun k hk hn => ?_, fun k k' hk hk' v u g hv2 hu hg hg' => ?_⟩
  · by_cases he : kl = kLit (cellK l p)
    · exact ⟨_, hks, rfl, he⟩
    · rw [putG_other he] at hv
      exact h.back kl v hv
  · by_cases he : k = cellK l p
    · subst he
      rw [putG_same hkey] at hv2
      injection hv2 with hv2
      subst hv2
      rw [grp_yes hi ht]
      exact ⟨hv, by simp⟩
    · rw [hother k hk he] at hv2
      rw [grp_other hi (Or.inr (fun e => he e.symm))]
      obtain ⟨h1, h2⟩ := h.own k hk v hv2
      exact ⟨OwnR.turned h1 hw (fun b hb => hT k v b hk he hv2 hb), h2⟩
  · by_cases he : k = cellK l p
    · subst he
      rw [putG_same hkey] at hn
      cases hn
    · rw [hother k hk he] at hn
      rw [grp_other hi (Or.inr (fun e => he e.symm))]
      exact h.none k hk hn
  · have hold : ∀ k : Ky, k.small → k ≠ cellK l p → ∀ v g, get (kLit k) = some v → v.ownBlock = some g → v'.ownBlock ≠ some g := fun k hk hne v g hv hg e => by
      rcases hb g e with h1 | ⟨v2, h2, h3⟩
      · have := OwnR.lt (h.own k hk v hv).1 hg
        omega
      · exact hne (h.apart k (cellK l p) hk hks v v2 g hv h2 hg h3)
    by_cases he : k = cellK l p
    · by_cases he' : k' = cellK l p
      · rw [he, he']
      · subst he
        rw [putG_same hkey] at hv2
        injection hv2 with hv2
        subst hv2
        rw [hother k' hk' he'] at hu
        exact absurd hg (hold k' hk' he' u g hu hg')
    · rw [hother k hk he] at hv2
      by_cases he' : k' = cellK l p
      · subst he'
        rw [putG_same hkey] at hu
        injection hu with hu
        subst hu
        exact absurd hg' (hold k hk he v g hv2 hg)
      · rw [hother k' hk' he'] at hu
        exact h.apart k k' hk hk' v u g hv2 hu hg hg'
end Go.Proofs.Yteanlcefdoigcaa
