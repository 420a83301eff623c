/- What Layout returns, of whatever points and capacity: the program's (15) and the reference's (16). -/
import Derived.Test.YteanlcefdoigcaaRLay
import Derived.Test.YteanlcefdoigcaaLawL
namespace Go.Proofs.Yteanlcefdoigcaa
open Go.RowKit

def layErr (S : List Pt) (c : Int) : Int := if goodL S = true then (if inB 1 64 c = true then 0 else 2) else 70
/-- tiles, and the error: a layout, or none -/
structure LayRes (S : List Pt) (c : Int) (e : Int) (E : List Te) : Prop where
  err : e = layErr S c
  lay : layErr S c = 0 → IsLayout S c.toNat (E.map Te.tl)
  bad : layErr S c ≠ 0 → E = []
  pts : ∀ t ∈ E, t.pts.length ≤ 1024
  len : E.length ≤ 1024
theorem LayRes.same {S : List Pt} {c e f : Int} {E F : List Te} (h : LayRes S c e E) (h' : LayRes S c f F) : E.map Te.tl = F.map Te.tl := by
  by_cases h0 : layErr S c = 0
  · exact (h.lay h0).unique (h'.lay h0)
  · rw [h.bad h0, h'.bad h0]
theorem tilesV_nil (W : World) (a : Option Addr) (c : Nat) : TilesV W (.slice a 0 c) [] := ⟨⟨a, c, rfl, Or.inl rfl⟩, fun e he => by simp at he⟩
theorem layRes_bad {S : List Pt} {c e : Int} (h : e = layErr S c) (h0 : e ≠ 0) : LayRes S c e [] := ⟨h, fun h1 => absurd (h.trans h1) h0, fun _ => rfl, fun t ht => by simp at ht, by simp⟩
theorem layRes_good {S : List Pt} {c : Nat} {E : List Te} (hg : goodL S = true) (hc : 1 ≤ c ∧ c ≤ 64) (h : IsLayout S c (E.map Te.tl)) : LayRes S (c : Int) 0 E := by
  have h0 : layErr S c = 0 := by
    unfold layErr inB
    rw [if_pos hg, if_pos (by simp; omega)]
  have hl := h.lens (goodL_facts hg).2.2
  exact ⟨h0.symm, fun _ => by rw [Int.toNat_natCast]; exact h, fun h1 => absurd h0 h1, hl.1, hl.2⟩
set_option maxRecDepth 100000 in
theorem xlayout_any (pv : Value) (S : List Pt) (c : Int) (w : World) (hp : PtsV w pv S) (hn : S.length ≤ maxLen) :
    Calls Try.prog 15 #[pv, .int .i64 c] w fun r w' => (∃ v e E, r = .returned (.tuple #[v, .int .i64 e]) ∧ TilesV w' v E ∧ LayRes S c e E) ∧ Below w.heap.size w w' := by
  have HP := hid hp
  have HN := hid hn
  clear hn
  cases hg : goodL S
  · have HG := hid hg
    have HR := hid (show 70 = layErr S c by unfold layErr; rw [hg]; rfl)
    clear hp hg
    go_enter Try.func15, Try.ntmps15
    go_wp2_with fail
    refine (good_list pv S w HP.out HN.out).mono ?_
    rintro r w1 ⟨rfl, hb1⟩
    rw [HG.out]
    go_wp2_with fail
    go_ret2
    exact ⟨⟨_, _, [], rfl, tilesV_nil _ _ _, layRes_bad HR.out (by decide)⟩, hb1⟩
  · by_cases hc : 1 ≤ c ∧ c ≤ 64
    · obtain ⟨c', rfl⟩ : ∃ c' : Nat, c = (c' : Int) := ⟨c.toNat, by omega⟩
      refine (layout_good pv S c' w hp hg (by omega)).mono ?_
      rintro r w' ⟨⟨v, E, rfl, h1, h2, h3, h4⟩, hb⟩
      exact ⟨⟨v, 0, E, rfl, h1, layRes_good hg (by omega) h2⟩, hb⟩
    · have HG := hid hg
      have HR := hid (show 2 = layErr S c by
        unfold layErr inB
        rw [if_pos hg, if_neg (by simp; omega)])
      clear hp hg
      by_cases h1 : c < 1
      · have d1 : decide (c < 1) = true := decide_eq_true h1
        go_enter Try.func15, Try.ntmps15
        go_wp2_with fail
        refine (good_list pv S w HP.out HN.out).mono ?_
        rintro r w1 ⟨rfl, hb1⟩
        rw [HG.out]
        go_wp2_with fail
        go_ret2
        exact ⟨⟨_, _, [], rfl, tilesV_nil _ _ _, layRes_bad HR.out (by decide)⟩, hb1⟩
      · have d1 : decide (c < 1) = false := decide_eq_false h1
        have d2 : decide (64 < c) = true := decide_eq_true (by omega)
        go_enter Try.func15, Try.ntmps15
        go_wp2_with fail
        refine (good_list pv S w HP.out HN.out).mono ?_
        rintro r w1 ⟨rfl, hb1⟩
        rw [HG.out]
        go_wp2_with fail
        go_ret2
        exact ⟨⟨_, _, [], rfl, tilesV_nil _ _ _, layRes_bad HR.out (by decide)⟩, hb1⟩
set_option maxRecDepth 100000 in
theorem rlayout_any (pv : Value) (S : List Pt) (c : Int) (w : World) (hp : PtsV w pv S) (hp0 : NilV pv) :
    Calls Try.prog 16 #[pv, .int .i64 c] w fun r w' => (∃ v e E, r = .returned (.tuple #[v, .int .i64 e]) ∧ TilesV w' v E ∧ LayRes S c e E) ∧ Below w.heap.size w w' := by
  have HP := hid hp
  have HP0 := hid hp0
  cases hg : goodL S
  · have HG := hid hg
    have HR := hid (show 70 = layErr S c by unfold layErr; rw [hg]; rfl)
    clear hp hp0 hg
    go_enter Try.func16, Try.ntmps16
    go_wp2_with fail
    refine (rvalid_list pv S w HP.out).mono ?_
    rintro r w1 ⟨rfl, hb1⟩
    rw [HG.out]
    go_wp2_with fail
    go_ret2
    exact ⟨⟨_, _, [], rfl, tilesV_nil _ _ _, layRes_bad HR.out (by decide)⟩, hb1⟩
  · have HG := hid hg
    obtain ⟨hS, hf, hl⟩ := goodL_facts hg
    have HS := hid hS
    have HF := hid hf
    have HL := hid hl
    cases hc : inB 1 64 c
    · have HC := hid hc
      have HR := hid (show 2 = layErr S c by unfold layErr; rw [hg, hc]; rfl)
      clear hp hp0 hg hc hS hf hl
      go_enter Try.func16, Try.ntmps16
      go_wp2_with fail
      refine (rvalid_list pv S w HP.out).mono ?_
      rintro r w1 ⟨rfl, hb1⟩
      rw [HG.out]
      have HB1 := hid hb1
      clear hb1
      go_wp2_with fail
      refine (from_any _ _ _ _).mono ?_
      rintro r w2 ⟨rfl, rfl⟩
      rw [HC.out]
      go_wp2_with fail
      go_ret2
      exact ⟨⟨_, _, [], rfl, tilesV_nil _ _ _, layRes_bad HR.out (by decide)⟩, HB1.out⟩
    · have HC := hid hc
      have hc2 : 1 ≤ c ∧ c ≤ 64 := by unfold inB at hc; simpa using hc
      obtain ⟨c', rfl⟩ : ∃ c' : Nat, c = (c' : Int) := ⟨c.toNat, by omega⟩
      have HC2 := hid (show 1 ≤ c' ∧ c' ≤ 64 by omega)
      clear hp hp0 hg hc hS hf hl hc2
      go_enter Try.func16, Try.ntmps16
      go_wp2_with fail
      refine (rvalid_list pv S w HP.out).mono ?_
      rintro r w1 ⟨rfl, hb1⟩
      rw [HG.out]
      have HB1 := hid hb1
      clear hb1
      go_wp2_with fail
      refine (from_any _ _ _ _).mono ?_
      rintro r w2 ⟨rfl, rfl⟩
      rw [HC.out]
      go_wp2_with fail
      refine (rlay_any pv S c' _ (HP.out.still HB1.out) HP0.out HS.out HF.out (by have := HL.out; omega)).mono ?_
      rintro r w3 ⟨⟨v, E, rfl, ht, hlay⟩, hb3⟩
      have HT := hid ht
      have HLAY := hid hlay
      have HB3 := hid (HB1.out.trans (hb3.mono HB1.out.size))
      clear ht hlay hb3
      go_wp2_with fail
      go_ret2
      exact ⟨⟨_, _, E, rfl, HT.out, layRes_good HG.out HC2.out HLAY.out⟩, HB3.out⟩
end Go.Proofs.Yteanlcefdoigcaa
