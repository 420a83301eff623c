/- The ends of a round of the layout's inner loop: a point that its tile takes, a point that is left to the next level. -/
import Derived.Test.YteanlcefdoigcaaLayW
namespace Go.Proofs.Yteanlcefdoigcaa
open Go.RowKit Go.Maps

/-- no tile's slice lies where the rest lies -/
def Apart (get : Lit → Option Value) (rv : Value) : Prop := ∀ (k : Ky) (v : Value) (g : Nat), k.small → get (kLit k) = some v → v.ownBlock = some g → rv.ownBlock ≠ some g
theorem take_end {W3 wr W5 W6 W7 W8 : World} {bl mb n i c l : Nat} {get : Lit → Option Value} {S Lf : List Pt} {p : Pt} {rv v v7 : Value} (hbl : W3.heap.size = bl) (hgr : Grps wr bl get S c l Lf i) (hor : OwnP wr bl rv (rst S c l Lf i)) (hap : Apart get rv)
    (htu : Turned W3 wr (fun k => k = mb)) (hm : MapAt Try.prog wr 39 mb n get) (hi : Lf[i]? = some p) (ht : takes S c l p = true) (hf : p.fine) (hl : l ≤ 12) (hov : OwnP wr bl v (grp S c l Lf i (cellK l p)))
    (hget : ∀ g, v.ownBlock = some g → get (kLit (cellK l p)) = some v) (h5 : Below wr.heap.size wr W5) (h6 : W5.grownBy W6 (some mb)) (h7 : W6.grownBy W7 v.ownBlock) (h8 : W7.grownBy W8 (some mb))
    (hown : OwnR W7 bl 36 9 v7 ((grp S c l Lf i (cellK l p)).map Pt.row ++ [p.row])) (halt : v7.ownBlock = v.ownBlock ∨ v7.ownBlock = some W6.heap.size) :
    Grps W8 bl (putG get (kLit (cellK l p)) v7) S c l Lf (i + 1) ∧ OwnP W8 bl rv (rst S c l Lf (i + 1)) ∧ Apart (putG get (kLit (cellK l p)) v7) rv ∧ Turned W3 W8 (fun k => k = mb) := by
  have hks := cellK_small hf hl
  have hkey : WideAt.IsKeyLit (kLit (cellK l p)) := law39.key (key_lit _ hks)
  have hmb := hm.lt
  have z5 := h5.size
  have z6 := h6.size
  have z7 := h7.size
  have t8 : Turned wr W8 (fun k => k = mb ∨ v.ownBlock = some k) := by
    refine (((turned_below h5 (fun k => k = mb ∨ v.ownBlock = some k)).trans (turned_grown h6) ?_).trans (turned_grown h7) ?_).trans (turned_grown h8) ?_
    · intro k _ e; injection e with e; exact Or.inl e
    · intro k _ e; exact Or.inr e.symm
    · intro k _ e; injection e with e; exact Or.inl e
  have hvb : ∀ g, v.ownBlock = some g → bl ≤ g := fun g hg => OwnR.ownBlock hov g hg
  have hnew : ∀ g, v7.ownBlock = some g → g ≠ mb := fun g hg => by
    rcases halt with h | h
    · rw [h] at hg; exact own_map hov hm hg
    · rw [h] at hg; injection hg with hg; omega
  have hv8 : OwnP W8 bl v7 (grp S c l Lf i (cellK l p) ++ [p]) := by
    have e : (grp S c l Lf i (cellK l p) ++ [p]).map Pt.row = (grp S c l Lf i (cellK l p)).map Pt.row ++ [p.row] := by simp
    unfold OwnP
    rw [e]
    exact hown.turned (turned_grown h8) (fun b hb e => hnew b hb (by injection e))
  have hrest : ∀ g, rv.ownBlock = some g → ¬ (g = mb ∨ v.ownBlock = some g) := fun g hg e => by
    rcases e with e | e
    · exact own_map hor hm hg e
    · exact hap _ v g hks (hget g e) e hg
  refine ⟨hgr.take hi ht hf hl t8 ?_ hv8 ?_, ?_, ?_, ?_⟩
  · rintro k u g hk hne hu hg (e | e)
    · exact own_map (hgr.own k hk u hu).1 hm hg e
    · exact hne (hgr.apart k _ hk hks u v g hu (hget g e) hg e)
  · intro g hg
    rcases halt with h | h
    · rw [h] at hg
      exact Or.inr ⟨v, hget g hg, hg⟩
    · rw [h] at hg; injection hg with hg; left; omega
  · rw [rst_yes hi ht]
    exact OwnR.turned hor t8 hrest
  · intro k u g hk hu hg hrg
    by_cases he : k = cellK l p
    · subst he
      rw [putG_same hkey] at hu
      injection hu with hu
      subst hu
      rcases halt with h | h
      · rw [h] at hg
        exact hap _ v g hks (hget g hg) hg hrg
      · rw [h] at hg; injection hg with hg
        have := OwnR.lt hor hrg
        omega
    · rw [putG_other (fun e => he (kLit_inj hk hks e))] at hu
      exact hap k u g hk hu hg hrg
  · refine htu.trans t8 ?_
    rintro k hk (e | e)
    · exact e
    · have := hvb k e; omega
theorem rest_end {W3 wr W5 W6 : World} {bl mb n i c l : Nat} {get : Lit → Option Value} {S Lf : List Pt} {p : Pt} {rv v6 : Value} (hbl : W3.heap.size = bl) (hgr : Grps wr bl get S c l Lf i) (hor : OwnP wr bl rv (rst S c l Lf i)) (hap : Apart get rv)
    (htu : Turned W3 wr (fun k => k = mb)) (hm : MapAt Try.prog wr 39 mb n get) (hi : Lf[i]? = some p) (ht : takes S c l p = false) (h5 : Below wr.heap.size wr W5) (h6 : W5.grownBy W6 rv.ownBlock)
    (hown : OwnR W6 bl 36 9 v6 ((rst S c l Lf i).map Pt.row ++ [p.row])) (halt : v6.ownBlock = rv.ownBlock ∨ v6.ownBlock = some W5.heap.size) :
    MapAt Try.prog W6 39 mb n get ∧ Grps W6 bl get S c l Lf (i + 1) ∧ OwnP W6 bl v6 (rst S c l Lf (i + 1)) ∧ Apart get v6 ∧ Turned W3 W6 (fun k => k = mb) := by
  have z5 := h5.size
  have t6 : Turned wr W6 (fun k => rv.ownBlock = some k) := (turned_below h5 _).trans (turned_grown h6) (fun k _ e => e.symm)
  have hm6 : MapAt Try.prog W6 39 mb n get := (hm.grow h5).kept h6 (fun e => own_map hor hm e.symm rfl)
  refine ⟨hm6, hgr.pass hi ht t6 (fun k u g hk hu hg e => hap k u g hk hu hg e), ?_, ?_, ?_⟩
  · have e : (rst S c l Lf (i + 1)).map Pt.row = (rst S c l Lf i).map Pt.row ++ [p.row] := by rw [rst_no hi ht]; simp
    unfold OwnP
    rw [e]
    exact hown
  · intro k u g hk hu hg hrg
    rcases halt with h | h
    · rw [h] at hrg
      exact hap k u g hk hu hg hrg
    · rw [h] at hrg; injection hrg with hrg
      have := OwnR.lt (hgr.own k hk u hu).1 hg
      omega
  · refine htu.trans t6 ?_
    intro k hk e
    have := OwnR.ownBlock hor k e
    omega
end Go.Proofs.Yteanlcefdoigcaa
