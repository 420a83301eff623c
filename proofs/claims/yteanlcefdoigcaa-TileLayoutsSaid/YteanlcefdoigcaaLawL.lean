/- Which lists of points are good, as lists; what Layout returns of good points. -/
import Derived.Test.YteanlcefdoigcaaSameT
import Derived.Test.YteanlcefdoigcaaRValid
import Derived.Test.YteanlcefdoigcaaCellOf
namespace Go.Proofs.Yteanlcefdoigcaa
open Go.RowKit Go.Maps

def goodL (S : List Pt) : Bool := goodV (fun i j => (S[i]!).f j) S.length
def okP (p : Pt) : Bool := inB 0 255 p.cl && pointB p.id p.x p.y p.zl p.zh p.wd p.nm p.of
theorem goodL_iff (S : List Pt) : goodL S = true ↔ S.length ≤ 1024 ∧ (∀ p ∈ S, okP p = true) ∧ S.Pairwise (fun p q => p.id ≠ q.id) := by
  unfold goodL goodV validV
  simp only [Bool.and_eq_true, allN_iff, decide_eq_true_eq]
  have hf : ∀ i (h : i < S.length), S[i]! = S[i] := fun i h => getElem!_pos S i h
  constructor
  · rintro ⟨h1, h2, h3⟩
    refine ⟨h2, fun p hp => ?_, ?_⟩
    · obtain ⟨i, hi, rfl⟩ := List.mem_iff_getElem.1 hp
      have a1 := h1 i hi
      have a2 := h3 i hi
      unfold clsB at a1
      unfold newB ptB at a2
      simp only [hf i hi, Bool.and_eq_true] at a1 a2
      unfold okP
      rw [Bool.and_eq_true]
      exact ⟨a1, a2.1⟩
    · rw [List.pairwise_iff_getElem]
      intro i j hi hj hij e
      have a2 := h3 j hj
      unfold newB at a2
      simp only [Bool.and_eq_true, Bool.not_eq_true', List.any_eq_false] at a2
      have := a2.2 i (List.mem_range.2 hij)
      simp only [hf i hi, hf j hj] at this
      exact this (by simp [Pt.f, e])
  · rintro ⟨h1, h2, h3⟩
    refine ⟨fun i hi => ?_, h1, fun i hi => ?_⟩
    · have a := h2 S[i] (List.getElem_mem hi)
      unfold okP at a
      rw [Bool.and_eq_true] at a
      simp only [clsB, hf i hi]
      exact a.1
    · have a := h2 S[i] (List.getElem_mem hi)
      unfold okP at a
      rw [Bool.and_eq_true] at a
      simp only [newB, ptB, hf i hi, Bool.and_eq_true, Bool.not_eq_true', List.any_eq_false]
      refine ⟨a.2, fun j hj => ?_⟩
      have hji := List.mem_range.1 hj
      simp only [hf j (by omega)]
      have := List.pairwise_iff_getElem.1 h3 j i (by omega) hi hji
      simpa [Pt.f] using this
theorem goodL_perm {S S' : List Pt} (h : S.Perm S') (hg : goodL S = true) : goodL S' = true := by
  rw [goodL_iff] at *
  obtain ⟨h1, h2, h3⟩ := hg
  exact ⟨by rw [← h.length_eq]; exact h1, fun p hp => h2 p (h.mem_iff.2 hp), (h.pairwise_iff (fun {_ _} e => Ne.symm e)).1 h3⟩
theorem okP_fine {p : Pt} (h : okP p = true) : p.fine := by
  unfold okP at h
  have h1 := point_coords (cl := p.cl) (show (pointB p.id p.x p.y p.zl p.zh p.wd p.nm p.of && inB 0 255 p.cl) = true by rw [Bool.and_comm]; exact h)
  rw [Bool.and_eq_true] at h
  have h2 := @pointB_id p.f h.2
  exact ⟨h2, h1⟩
theorem goodL_facts {S : List Pt} (h : goodL S = true) : GoodS S ∧ (∀ p ∈ S, p.fine) ∧ S.length ≤ 1024 := by
  rw [goodL_iff] at h
  obtain ⟨h1, h2, h3⟩ := h
  exact ⟨⟨h3, fun p hp => (okP_fine (h2 p hp)).1⟩, fun p hp => okP_fine (h2 p hp), h1⟩
theorem rows_recs {W : World} {b off : Nat} {S : List Pt} (h : RowsAt W b off 9 (S.map Pt.row)) : recs9 W b off S.length (fun i j => (S[i]!).f j) := fun i hi j hj => by
  have := h i (S[i]!).row (by rw [List.getElem?_map, List.getElem?_eq_getElem hi, getElem!_pos S i hi]; rfl) j hj
  rw [Pt.row_at _ j hj] at this
  exact this
theorem good_list (pv : Value) (S : List Pt) (w : World) (hp : PtsV w pv S) (hn : S.length ≤ maxLen) : Calls Try.prog 48 #[pv] w fun r w' => r = .returned (.bool (goodL S)) ∧ Below w.heap.size w w' := by
  obtain ⟨a, cap, rfl, h⟩ := hp
  by_cases hl : S = []
  · subst hl
    exact good_none a cap w
  · obtain ⟨b, off, rfl, hb, hr⟩ := h.resolve_left hl
    exact good_any b off S.length cap _ w (List.length_pos_iff.2 hl) hn hb (rows_recs hr)
theorem rvalid_list (pv : Value) (S : List Pt) (w : World) (hp : PtsV w pv S) : Calls Try.prog 18 #[pv] w fun r w' => r = .returned (.bool (goodL S)) ∧ Below w.heap.size w w' := by
  obtain ⟨a, cap, rfl, h⟩ := hp
  by_cases hl : S = []
  · subst hl
    exact rValid_none a cap w
  · obtain ⟨b, off, rfl, hb, hr⟩ := h.resolve_left hl
    exact rValid_any b off S.length cap _ w (List.length_pos_iff.2 hl) hb (rows_recs hr)
/-- different lists within one: no more than it has members -/
theorem sub_len {α : Type} [DecidableEq α] : ∀ {l m : List α}, l.Pairwise (· ≠ ·) → (∀ a ∈ l, a ∈ m) → l.length ≤ m.length
  | [], _, _, _ => Nat.zero_le _
  | a :: l, m, hd, hs => by
    obtain ⟨h1, h2⟩ := List.pairwise_cons.1 hd
    have ha := hs a (List.mem_cons_self ..)
    have := sub_len (m := m.erase a) h2 (fun b hb => (List.mem_erase_of_ne (Ne.symm (h1 b hb))).2 (hs b (List.mem_cons_of_mem _ hb)))
    rw [List.length_erase_of_mem ha] at this
    have hp : 0 < m.length := List.length_pos_of_mem ha
    simp
    omega
theorem IsLayout.lens {S : List Pt} {c : Nat} {E : List Te} (h : IsLayout S c (E.map Te.tl)) (hl : S.length ≤ 1024) : (∀ e ∈ E, e.pts.length ≤ 1024) ∧ E.length ≤ 1024 := by
  refine ⟨fun e he => ?_, ?_⟩
  · have hm : e.tl ∈ E.map Te.tl := List.mem_map.2 ⟨e, he, rfl⟩
    have h1 := (h.tiles.pts e.tl hm).2
    have h2 : ∀ i ∈ e.pts.map Pt.id, i ∈ S.map Pt.id := fun i hi => by
      obtain ⟨p, hp, rfl⟩ := List.mem_map.1 hi
      exact List.mem_map.2 ⟨p, ((h.tiles.mem e.tl hm p).1 hp).1, rfl⟩
    have h3 := sub_len (l := e.pts.map Pt.id) (m := S.map Pt.id) (by rw [List.pairwise_map]; exact h1.imp (fun h => by omega)) h2
    simp at h3
    omega
  · have hne : ∀ e ∈ E, e.pts ≠ [] := fun e he => (h.tiles.pts e.tl (List.mem_map.2 ⟨e, he, rfl⟩)).1
    have hhd : ∀ e ∈ E, (e.pts.headD default) ∈ e.pts := fun e he => by
      cases hp : e.pts with
      | nil => exact absurd hp (hne e he)
      | cons p l => simp
    have hin : ∀ e ∈ E, (e.pts.headD default) ∈ S ∧ isAt S c (e.pts.headD default) e.key := fun e he => (h.tiles.mem e.tl (List.mem_map.2 ⟨e, he, rfl⟩) _).1 (hhd e he)
    have h2 : ∀ i ∈ E.map (fun e => e.key), i ∈ S.map (fun p => Classical.choose (isAt_ex S c p)) := fun i hi => by
      obtain ⟨e, he, rfl⟩ := List.mem_map.1 hi
      obtain ⟨h3, h4⟩ := hin e he
      exact List.mem_map.2 ⟨_, h3, isAt_un (Classical.choose_spec (isAt_ex S c _)) h4⟩
    have hk := h.tiles.keys
    rw [List.pairwise_map] at hk
    have h3 := sub_len (l := E.map (fun e => e.key)) (by rw [List.pairwise_map]; exact hk) h2
    simp at h3
    omega
set_option maxRecDepth 100000 in
theorem layout_good (pv : Value) (S : List Pt) (c : Nat) (w : World) (hp : PtsV w pv S) (hg : goodL S = true) (hc : 1 ≤ c ∧ c ≤ 64) :
    Calls Try.prog 15 #[pv, .int .i64 c] w fun r w' => (∃ v E, r = .returned (.tuple #[v, .int .i64 0]) ∧ TilesV w' v E ∧ IsLayout S c (E.map Te.tl) ∧ (∀ e ∈ E, e.pts.length ≤ 1024) ∧ E.length ≤ 1024) ∧ Below w.heap.size w w' := by
  obtain ⟨hS, hf, hl⟩ := goodL_facts hg
  have HP := hid hp
  have HS := hid hS
  have HF := hid hf
  have HG := hid hg
  have HL := hid hl
  have d1 : decide ((c : Int) < 1) = false := decide_eq_false (by omega)
  have d2 : decide ((64 : Int) < (c : Int)) = false := decide_eq_false (by omega)
  clear hp hS hf hg hl
  go_enter Try.func15, Try.ntmps15
  go_wp2_with fail
  refine (good_list pv S w HP.out (by have := HL.out; unfold maxLen; omega)).mono ?_
  rintro r w1 ⟨rfl, hb1⟩
  rw [HG.out]
  have HB1 := hid hb1
  have HP1 := hid (HP.out.still hb1)
  clear hb1
  go_wp2_with fail
  refine (lay_pts pv S c w1 HS.out HF.out (by have := HL.out; omega) HP1.out).mono ?_
  rintro r w2 ⟨⟨v, E, rfl, ht, hlay⟩, hb2⟩
  have HB2 := hid (HB1.out.trans (hb2.mono HB1.out.size))
  have HT := hid ht.tilesV
  have HLY := hid hlay
  clear hb2 ht hlay
  go_wp2_with fail
  go_ret2
  exact ⟨⟨v, E, rfl, HT.out, HLY.out, HLY.out.lens HL.out⟩, HB2.out⟩
end Go.Proofs.Yteanlcefdoigcaa
