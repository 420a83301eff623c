/- Difference 26 of the program. (Printed by wip/gen_xdiff.py.) -/
import Derived.Test.YtpablkmdpoombaaRDiff
import Derived.Test.YtpablkmdpoombaaByt
namespace Go.Proofs.Ytpablkmdpoombaa
open Go.ChangeShapes Go.WideShapes Go.RowKit Go.Maps Go.Sort

/-- what the map of the old points answers for a point's Id -/
theorem look_old {O : List Pt} (hO : O.Pairwise (fun p q => p.id ≠ q.id)) (p : Pt) :
    (p ∈ O ∧ ptG O.reverse (.int .i64 p.id) = some (.agg p.row.toArray)) ∨ (p ∉ O ∧ (ptG O.reverse (.int .i64 p.id) = none ∨ ∃ q, q ≠ p ∧ ptG O.reverse (.int .i64 p.id) = some (.agg q.row.toArray))) := by
  rw [ptG_int]
  cases hf : O.reverse.find? (fun q => q.id == p.id) with
  | none =>
    refine Or.inr ⟨fun h => ?_, Or.inl rfl⟩
    have := List.find?_eq_none.1 hf p (List.mem_reverse.2 h)
    simp at this
  | some q =>
    have h1 := List.mem_reverse.1 (List.mem_of_find?_eq_some hf)
    have h2 : q.id = p.id := by have := List.find?_some hf; simpa using this
    by_cases hp : p ∈ O
    · refine Or.inl ⟨hp, ?_⟩
      rw [id_inj hO h1 hp h2]; rfl
    · exact Or.inr ⟨hp, Or.inr ⟨q, fun e => hp (e ▸ h1), rfl⟩⟩
theorem own_apart {W W' : World} {base t sz g : Nat} {v : Value} {l : List (List Value)} (h : OwnR W base t sz v l) (hg : W.grownBy W' (some g)) (hb : g < base) : OwnR W' base t sz v l :=
  OwnR.heap h fun k x hx hk => by
    have h1 := hg.block k (Array.getElem?_eq_some_iff.1 hx).1 (fun e => by injection e with e; omega)
    rw [h1]; exact hx
theorem keep_skip {O L : List Pt} {i : Nat} {p : Pt} (hp : L[i]? = some p) (h : p ∈ O) : (L.take (i + 1)).filter (notIn O) = (L.take i).filter (notIn O) := notIn_skip hp (decide_eq_true h)
def inO (O : List Pt) (p : Pt) : Bool := decide (p ∈ O)
theorem inO_push {O L : List Pt} {i : Nat} {p : Pt} (hp : L[i]? = some p) (h : p ∈ O) : ((L.take (i + 1)).filter (inO O)).map Pt.id = ((L.take i).filter (inO O)).map Pt.id ++ [p.id] := by
  rw [take_next hp, List.filter_append, List.filter_cons_of_pos (by unfold inO; exact decide_eq_true h)]; simp
theorem inO_skip {O L : List Pt} {i : Nat} {p : Pt} (hp : L[i]? = some p) (h : p ∉ O) : ((L.take (i + 1)).filter (inO O)).map Pt.id = ((L.take i).filter (inO O)).map Pt.id := by
  rw [take_next hp, List.filter_append, List.filter_cons_of_neg (by unfold inO; rw [decide_eq_false h]; decide)]; simp
theorem same_any {O P : List Pt} {p : Pt} (hO : O.Pairwise (fun p q => p.id ≠ q.id)) (hp : p ∈ O) : ((P.filter (inO O)).map Pt.id).any (fun z => z == p.id) = decide (p ∈ P) := by
  by_cases h : p ∈ P
  · rw [decide_eq_true h]
    exact List.any_eq_true.2 ⟨p.id, List.mem_map.2 ⟨p, List.mem_filter.2 ⟨h, decide_eq_true hp⟩, rfl⟩, by simp⟩
  · rw [decide_eq_false h, List.any_eq_false]
    intro z hz e
    obtain ⟨q, hq, rfl⟩ := List.mem_map.1 hz
    obtain ⟨h1, h2⟩ := List.mem_filter.1 hq
    have h3 : q ∈ O := of_decide_eq_true h2
    exact h (id_inj hO h3 hp (by simpa using e) ▸ h1)
theorem own_ne {W W' : World} {base t sz : Nat} {v : Value} {l : List (List Value)} {row : Option Nat} (h : OwnR W base t sz v l) (hg : W.grownBy W' row) (hne : ∀ b, v.ownBlock = some b → some b ≠ row) : OwnR W' base t sz v l := by
  refine ⟨h.1, h.2.1, ?_⟩
  rcases h.2.2 with ⟨a, b⟩ | ⟨g, cap, cur, h1, hB, hc, hr⟩
  · exact Or.inl ⟨a, b⟩
  · exact Or.inr ⟨g, cap, cur, h1, hB, by rw [hg.block g (Array.getElem?_eq_some_iff.1 hc).1 (hne g (by rw [h1]; rfl))]; exact hc, hr⟩
theorem DiffRes.sorted {O P A : List Pt} {D : List Int} (hO : validL O = true) (hP : validL P = true) (h1 : A.Perm (addL O P)) (h2 : A.Pairwise (fun p q => ¬ q.id < p.id)) (hD : D = (remL O P).mergeSort fun x y => decide (x ≤ y)) : DiffRes O P 0 A D := by
  refine ⟨by rw [hO, hP]; rfl, fun h => absurd rfl h, fun _ => ⟨h1, h2⟩, fun _ => ⟨by rw [hD]; exact List.mergeSort_perm _ _, ?_⟩⟩
  rw [hD]
  refine (List.pairwise_mergeSort (le := fun x y : Int => decide (x ≤ y)) (fun a b c h1 h2 => by simp at *; omega) (fun a b => by simp; omega) _).imp (fun {_ _} h => by simpa using h)
theorem zero78d (W : World) : (zeroValue 78).run Try.prog W = .ok (.agg #[.int .i64 0, .int .i64 0, .int .i64 0, .int .i64 0, .int .i64 0, .int .i64 0, .int .i64 0, .int .i64 0, .int .i64 0]) W := Try.zeroValue78 W
set_option maxRecDepth 100000 in
set_option maxHeartbeats 6400000 in
theorem xdiff_any (ov pv : Value) (O P : List Pt) (w : World) (hO : PtsV w ov O) (hP : PtsV w pv P) :
    Calls Try.prog 26 #[ov, pv] w fun r w' => (∃ av dv e A D, r = .returned (.tuple #[av, dv, .int .i64 e]) ∧ OwnP w' w.heap.size av A ∧ OwnI w' w.heap.size dv D ∧ DiffRes O P e A D) ∧ Below w.heap.size w w' := by
  obtain ⟨vo, hvo⟩ : ∃ b, b = validL O := ⟨_, rfl⟩
  obtain ⟨vp, hvp⟩ : ∃ b, b = validL P := ⟨_, rfl⟩
  have HCO := hid (fun W (hb : Below w.heap.size w W) => hvo ▸ xvalid_list ov O W (hO.still hb))
  have HCP := hid (fun W (hb : Below w.heap.size w W) => hvp ▸ xvalid_list pv P W (hP.still hb))
  have HVO1 := hid hvo.symm
  have HVP1 := hid hvp.symm
  have HO := hid hO
  have HPp := hid hP
  clear hvo hvp
  obtain ⟨oa, oc, rfl, hor⟩ := hO
  obtain ⟨pa, pc, rfl, hpr⟩ := hP
  have HORw := hid hor
  have HPRw := hid hpr
  clear hor hpr
  obtain ⟨n, hn⟩ : ∃ n, n = O.length := ⟨_, rfl⟩
  obtain ⟨m, hm⟩ : ∃ m, m = P.length := ⟨_, rfl⟩
  rw [← hn] at HCO HO ⊢
  rw [← hm] at HCP HPp ⊢
  have HNn := hid hn
  have HNm := hid hm
  clear hn hm
  obtain ⟨i0, hi, hz0, hz1, hz2⟩ := info_parts info36
  have HI := hid hi
  have HZ0 := hid hz0
  have HZ1 := hid hz1
  have HZ2 := hid hz2
  clear hi hz0 hz1 hz2
  obtain ⟨j0, hi, hz0, hz1, hz2⟩ := info_parts info3d
  have JI := hid hi
  have JZ0 := hid hz0
  have JZ1 := hid hz1
  have JZ2 := hid hz2
  clear hi hz0 hz1 hz2
  have hmk := fun (W : World) => (show (Instr.makeMap 114 none).run Try.prog W = .ok (.map (some W.heap.size)) (W.alloc (.map #[] 0)) by simp [Instr.makeMap, newObj]; rfl)
  have hmk2 := fun (W : World) => (show (Instr.makeMap 99 none).run Try.prog W = .ok (.map (some W.heap.size)) (W.alloc (.map #[] 0)) by simp [Instr.makeMap, newObj]; rfl)
  go_enter Try.func26, Try.ntmps26
  go_wp2_with fail
  refine (HCO.out _ (Below.refl _ _)).mono ?_
  rintro r w0 ⟨rfl, hb0⟩
  have HBW0 := hid hb0
  clear hb0
  cases vo
  · have HR := hid (DiffRes.bad (P := P) (Or.inl HVO1.out))
    go_wp2_with fail
    go_ret3
    exact ⟨⟨_, _, _, [], [], rfl, OwnR.nil _ _ _ _, OwnR.nil _ _ _ _, HR.out⟩, HBW0.out⟩
  go_wp2_with fail
  refine (HCP.out _ HBW0.out).mono ?_
  rintro r w1 ⟨rfl, hb⟩
  have HBW1 := hid (HBW0.out.trans (hb.mono HBW0.out.size))
  clear hb HBW0
  cases vp
  · have HR := hid (DiffRes.bad (O := O) (Or.inr HVP1.out))
    go_wp2_with fail
    go_ret3
    exact ⟨⟨_, _, _, [], [], rfl, OwnR.nil _ _ _ _, OwnR.nil _ _ _ _, HR.out⟩, HBW1.out⟩
  have HVO0 := hid (show validL O = true from HVO1.out)
  have HVP0 := hid (show validL P = true from HVP1.out)
  have HFO := hid (validL_facts HVO0.out)
  have HFP := hid (validL_facts HVP0.out)
  have hn9 : n ≤ 1024 := by rw [HNn.out]; exact HFO.out.1
  have hm9 : m ≤ 1024 := by rw [HNm.out]; exact HFP.out.1
  go_upto_region 4 with fail
  refine gen_world (fun W1 hW1 => ?_)
  have HM1 := hid (show MapZ Try.prog W1 3 w1.heap.size 0 0 (ptG []) by rw [hW1]; exact MapZ.made w1)
  have HB1 := hid (show Below w.heap.size w W1 by rw [hW1]; exact HBW1.out.alloc HBW1.out.size _)
  have hmb : w1.heap.size < W1.heap.size := by rw [hW1]; simp
  have hwm : w.heap.size ≤ w1.heap.size := HBW1.out.size
  clear hW1 HBW1
  obtain ⟨gm, hgm⟩ : ∃ g, g = w1.heap.size := ⟨_, rfl⟩
  rw [← hgm] at HM1 hmb hwm ⊢
  clear hgm
  go_wp2_with fail
  go_loopw [28] (fun iv W => ∃ i : Nat, i ≤ n ∧ iv = .int .i64 (i : Int) ∧ MapZ Try.prog W 3 gm i i (ptG (O.take i).reverse) ∧ Below w.heap.size w W ∧ gm < W.heap.size) (fun iv _ => n - (intOf iv).toNat)
  case atStart => exact ⟨0, by omega, rfl, HM1.out, HB1.out, hmb⟩
  case round =>
    obtain ⟨i, hi, rfl, hmap, hB, hmw⟩ := hrel
    have HMP := hid hmap
    have HB4 := hid hB
    have hz4 := hB.size
    clear hmap hB
    by_cases hlt : i < n
    · have d1 : decide ((i : Int) < (n : Int)) = true := decide_eq_true (by omega)
      obtain ⟨p, hp⟩ : ∃ p, O[i]? = some p := ⟨_, List.getElem?_eq_getElem (by rw [← HNn.out]; exact hlt)⟩
      obtain ⟨b, off, rfl, hbw, hrows⟩ := HORw.out.resolve_left (fun h => by rw [h] at hp; simp at hp)
      have hcs : ∀ j, j < 9 → wr.cell? ⟨b, off + i * 9 + j, none⟩ = p.row[j]? := fun j hj => by
        rw [HB4.out.cell hbw, hrows i p.row (by rw [List.getElem?_map, hp]; rfl) j hj]
      have HFI := hid (okQ_id (HFO.out.2.1 p (List.mem_of_getElem? hp)))
      have HNW := hid (show ptG (O.take i).reverse (.int .i64 p.id) = none from ptG_none (fun u hu e => by
        rw [List.mem_reverse] at hu
        obtain ⟨j, hj, ej⟩ := mem_take hu
        exact pw_not hj ej hp (fun g => g e) HFO.out.2.2))
      have HPT := hid (show putG (ptG (O.take i).reverse) (.int .i64 p.id) (.agg p.row.toArray) = ptG (O.take (i + 1)).reverse by
        rw [ptG_put, take_next hp, List.reverse_append]
        rfl)
      clear hp hrows hbw
      obtain ⟨p0, p1, p2, p3, p4, p5, p6, p7, p8⟩ := p
      simp only [Pt.row] at HPT hcs
      have HKEY := hid (keyOf_int_mk (P := Try.prog) Try.underlying3 (show (Lit.int .i64 p0).wf = true from WalkArith.wf_i64 (by have := HFI.out; simp only at this; omega)))
      have c0 : wr.cell? ⟨b, off + i * 9, none⟩ = some (.int .i64 p0) := hcs 0 (by decide)
      have c1 : wr.cell? ⟨b, off + i * 9 + 1, none⟩ = some (.int .i64 p1) := hcs 1 (by decide)
      have c2 : wr.cell? ⟨b, off + i * 9 + 2, none⟩ = some (.int .i64 p2) := hcs 2 (by decide)
      have c3 : wr.cell? ⟨b, off + i * 9 + 3, none⟩ = some (.int .i64 p3) := hcs 3 (by decide)
      have c4 : wr.cell? ⟨b, off + i * 9 + 4, none⟩ = some (.int .i64 p4) := hcs 4 (by decide)
      have c5 : wr.cell? ⟨b, off + i * 9 + 5, none⟩ = some (.int .i64 p5) := hcs 5 (by decide)
      have c6 : wr.cell? ⟨b, off + i * 9 + 6, none⟩ = some (.int .i64 p6) := hcs 6 (by decide)
      have c7 : wr.cell? ⟨b, off + i * 9 + 7, none⟩ = some (.int .i64 p7) := hcs 7 (by decide)
      have c8 : wr.cell? ⟨b, off + i * 9 + 8, none⟩ = some (.int .i64 p8) := hcs 8 (by decide)
      clear hcs
      go_upto_region 7 with fail
      refine gen_world (fun W5 hW5 => ?_)
      have HP5 := hid (show W5.heap[wr.heap.size]? = some (.cells #[.int .i64 p0, .int .i64 p1, .int .i64 p2, .int .i64 p3, .int .i64 p4, .int .i64 p5, .int .i64 p6, .int .i64 p7, .int .i64 p8] 78) by rw [hW5]; exact heap_alloc_at _ _ _ rfl)
      have hb5 : Below wr.heap.size wr W5 := by rw [hW5]; exact (Below.refl _ _).alloc (Nat.le_refl _) _
      have HBX := hid (HB4.out.trans (hb5.mono hz4))
      have HM5 := hid (HMP.out.grow hb5)
      have hmw5 := Nat.lt_of_lt_of_le hmw hb5.size
      clear hW5 hb5 c0 c1 c2 c3 c4 c5 c6 c7 c8 HMP
      obtain ⟨g, hg⟩ : ∃ g, g = wr.heap.size := ⟨_, rfl⟩
      rw [← hg] at HP5 ⊢
      clear hg
      have b0 : W5.cell? ⟨g, 0, none⟩ = some (.int .i64 p0) := (cell_row (j := 0) HP5.out).trans rfl
      have b1 : W5.cell? ⟨g, 1, none⟩ = some (.int .i64 p1) := (cell_row (j := 1) HP5.out).trans rfl
      have b2 : W5.cell? ⟨g, 2, none⟩ = some (.int .i64 p2) := (cell_row (j := 2) HP5.out).trans rfl
      have b3 : W5.cell? ⟨g, 3, none⟩ = some (.int .i64 p3) := (cell_row (j := 3) HP5.out).trans rfl
      have b4 : W5.cell? ⟨g, 4, none⟩ = some (.int .i64 p4) := (cell_row (j := 4) HP5.out).trans rfl
      have b5 : W5.cell? ⟨g, 5, none⟩ = some (.int .i64 p5) := (cell_row (j := 5) HP5.out).trans rfl
      have b6 : W5.cell? ⟨g, 6, none⟩ = some (.int .i64 p6) := (cell_row (j := 6) HP5.out).trans rfl
      have b7 : W5.cell? ⟨g, 7, none⟩ = some (.int .i64 p7) := (cell_row (j := 7) HP5.out).trans rfl
      have b8 : W5.cell? ⟨g, 8, none⟩ = some (.int .i64 p8) := (cell_row (j := 8) HP5.out).trans rfl
      have hml : i < maxLen := by unfold maxLen; omega
      go_wp2_with (at_mapUpdate; refine wpList_putZ rfl (.tmp 32) (.tmp 34) (.tmp 35) 114 rfl law3 Try.underlying114 rfl HM5.out hml (.int .i64 p0) (.agg #[.int .i64 p0, .int .i64 p1, .int .i64 p2, .int .i64 p3, .int .i64 p4, .int .i64 p5, .int .i64 p6, .int .i64 p7, .int .i64 p8]) (.int .i64 p0) rfl rfl HKEY.out HNW.out ?_; intro w8 hm8 hg8)
      rw [HPT.out] at hm8
      have hs8 := hg8.size
      exact ⟨⟨i + 1, by omega, by go_num, hm8, HBX.out.grown hg8 HBX.out.size (fun j hj => by injection hj with hj; omega), by omega⟩, by simp [intOf]; omega⟩
    · obtain rfl : i = n := by omega
      have d1 : decide ((i : Int) < (i : Int)) = false := by simp
      have HMO := hid (show MapZ Try.prog wr 3 gm i i (ptG O.reverse) by have h1 := HMP.out; rwa [HNn.out, List.take_length, ← HNn.out] at h1)
      clear HMP
      go_upto_region 10 with fail
      refine gen_world (fun W2 hW2 => ?_)
      have hb2 : Below wr.heap.size wr W2 := by rw [hW2]; exact (Below.refl _ _).alloc (Nat.le_refl _) _
      have HMO2 := hid (HMO.out.grow hb2)
      have HMS2 := hid (show MapAt Try.prog W2 3 wr.heap.size 0 (seenI []) by rw [hW2]; exact MapAt.made wr)
      have HB2 := hid (HB4.out.trans (hb2.mono hz4))
      have hgs2 : wr.heap.size < W2.heap.size := by rw [hW2]; simp
      have hzwr : w.heap.size ≤ wr.heap.size := hz4
      clear hW2 hb2 HMO HB4 hmk hmk2
      obtain ⟨gs, hgs⟩ : ∃ g, g = wr.heap.size := ⟨_, rfl⟩
      rw [← hgs] at HMS2 hgs2 hzwr hmw ⊢
      clear hgs hz4
      go_wp2_with fail
      go_loopw [4, 40] (fun ov' iv W => ∃ (j : Nat) (ov : Value), ov = ov' ∧ j ≤ m ∧ iv = .int .i64 (j : Int) ∧ OwnP W W2.heap.size ov ((P.take j).filter (notIn O)) ∧ MapZ Try.prog W 3 gm i i (ptG O.reverse) ∧ MapAt Try.prog W 3 gs j (seenI (((P.take j).filter (inO O)).map Pt.id)) ∧ Below w.heap.size w W ∧ W2.heap.size ≤ W.heap.size) (fun _ iv _ => m - (intOf iv).toNat)
      case atStart => exact ⟨0, _, rfl, by omega, rfl, OwnR.nil _ _ _ _, HMO2.out, HMS2.out, HB2.out, Nat.le_refl _⟩
      case round =>
        obtain ⟨j, ov, rfl, hj, rfl, hov, hmo, hms, hB, hW2s⟩ := hrel
        have HOV := hid hov
        have HMO := hid hmo
        have HMS := hid hms
        have HB4 := hid hB
        have hz4 := hB.size
        clear hov hmo hms hB HMO2 HMS2
        by_cases hlt : j < m
        · have d2 : decide ((j : Int) < (m : Int)) = true := decide_eq_true (by omega)
          obtain ⟨p, hp⟩ : ∃ p, P[j]? = some p := ⟨_, List.getElem?_eq_getElem (by rw [← HNm.out]; exact hlt)⟩
          obtain ⟨b, off, rfl, hbw, hrows⟩ := HPRw.out.resolve_left (fun h => by rw [h] at hp; simp at hp)
          have hcs : ∀ k, k < 9 → wr.cell? ⟨b, off + j * 9 + k, none⟩ = p.row[k]? := fun k hk => by
            rw [HB4.out.cell hbw, hrows j p.row (by rw [List.getElem?_map, hp]; rfl) k hk]
          have HP := hid hp
          have HFI := hid (okQ_id (HFP.out.2.1 p (List.mem_of_getElem? hp)))
          have HLK := hid (look_old HFO.out.2.2 p)
          have heq := fun (q : Pt) W => eqPt q p W
          clear hrows hp
          obtain ⟨p0, p1, p2, p3, p4, p5, p6, p7, p8⟩ := p
          simp only [Pt.row] at hcs HLK heq
          have HKEY := hid (keyOf_int_mk (P := Try.prog) Try.underlying3 (show (Lit.int .i64 p0).wf = true from WalkArith.wf_i64 (by have := HFI.out; simp only at this; omega)))
          have c0 : wr.cell? ⟨b, off + j * 9, none⟩ = some (.int .i64 p0) := hcs 0 (by decide)
          have c1 : wr.cell? ⟨b, off + j * 9 + 1, none⟩ = some (.int .i64 p1) := hcs 1 (by decide)
          have c2 : wr.cell? ⟨b, off + j * 9 + 2, none⟩ = some (.int .i64 p2) := hcs 2 (by decide)
          have c3 : wr.cell? ⟨b, off + j * 9 + 3, none⟩ = some (.int .i64 p3) := hcs 3 (by decide)
          have c4 : wr.cell? ⟨b, off + j * 9 + 4, none⟩ = some (.int .i64 p4) := hcs 4 (by decide)
          have c5 : wr.cell? ⟨b, off + j * 9 + 5, none⟩ = some (.int .i64 p5) := hcs 5 (by decide)
          have c6 : wr.cell? ⟨b, off + j * 9 + 6, none⟩ = some (.int .i64 p6) := hcs 6 (by decide)
          have c7 : wr.cell? ⟨b, off + j * 9 + 7, none⟩ = some (.int .i64 p7) := hcs 7 (by decide)
          have c8 : wr.cell? ⟨b, off + j * 9 + 8, none⟩ = some (.int .i64 p8) := hcs 8 (by decide)
          clear hcs
          go_upto_region 13 with fail
          refine gen_world (fun W5 hW5 => ?_)
          have HP5 := hid (show W5.heap[wr.heap.size]? = some (.cells #[.int .i64 p0, .int .i64 p1, .int .i64 p2, .int .i64 p3, .int .i64 p4, .int .i64 p5, .int .i64 p6, .int .i64 p7, .int .i64 p8] 78) by rw [hW5]; exact heap_alloc_at _ _ _ rfl)
          have hb5 : Below wr.heap.size wr W5 := by rw [hW5]; exact (Below.refl _ _).alloc (Nat.le_refl _) _
          have HB5 := hid (HB4.out.trans (hb5.mono hz4))
          have HO5 := hid (OwnR.grow' HOV.out hb5)
          have HMO5 := hid (HMO.out.grow hb5)
          have HMS5 := hid (HMS.out.grow hb5)
          have hs5 : W2.heap.size ≤ W5.heap.size := Nat.le_trans hW2s hb5.size
          have hg5 : wr.heap.size < W5.heap.size := (Array.getElem?_eq_some_iff.1 HP5.out).1
          clear hW5 hb5 c0 c1 c2 c3 c4 c5 c6 c7 c8 HOV HMO HMS HB4
          obtain ⟨g, hg⟩ : ∃ g, g = wr.heap.size := ⟨_, rfl⟩
          rw [← hg] at HP5 hg5 ⊢
          have hW2g : W2.heap.size ≤ g := by rw [hg]; exact hW2s
          clear hg
          have b0 : W5.cell? ⟨g, 0, none⟩ = some (.int .i64 p0) := (cell_row (j := 0) HP5.out).trans rfl
          have b1 : W5.cell? ⟨g, 1, none⟩ = some (.int .i64 p1) := (cell_row (j := 1) HP5.out).trans rfl
          have b2 : W5.cell? ⟨g, 2, none⟩ = some (.int .i64 p2) := (cell_row (j := 2) HP5.out).trans rfl
          have b3 : W5.cell? ⟨g, 3, none⟩ = some (.int .i64 p3) := (cell_row (j := 3) HP5.out).trans rfl
          have b4 : W5.cell? ⟨g, 4, none⟩ = some (.int .i64 p4) := (cell_row (j := 4) HP5.out).trans rfl
          have b5 : W5.cell? ⟨g, 5, none⟩ = some (.int .i64 p5) := (cell_row (j := 5) HP5.out).trans rfl
          have b6 : W5.cell? ⟨g, 6, none⟩ = some (.int .i64 p6) := (cell_row (j := 6) HP5.out).trans rfl
          have b7 : W5.cell? ⟨g, 7, none⟩ = some (.int .i64 p7) := (cell_row (j := 7) HP5.out).trans rfl
          have b8 : W5.cell? ⟨g, 8, none⟩ = some (.int .i64 p8) := (cell_row (j := 8) HP5.out).trans rfl
          have hlook := HMO5.out.look_ok law3 Try.underlying114 (zero78d W5) HKEY.out
          rcases HLK.out with ⟨hin, hget⟩ | ⟨hin, hget⟩
          · rw [hget] at hlook
            have heq1 := heq (⟨p0, p1, p2, p3, p4, p5, p6, p7, p8⟩ : Pt)
            simp only [decide_true] at heq1
            have HIN := hid hin
            clear hin hget heq
            go_upto_region 15 with fail
            refine gen_world (fun W6 hW6 => ?_)
            have hb6 : Below W5.heap.size W5 W6 := by rw [hW6]; exact (Below.refl _ _).alloc (Nat.le_refl _) _
            have HB6 := hid (HB5.out.trans (hb6.mono HB5.out.size))
            have HO6 := hid (OwnR.grow' HO5.out hb6)
            have HMO6 := hid (HMO5.out.grow hb6)
            have HMS6 := hid (HMS5.out.grow hb6)
            have HP6 := hid (heap_still hb6 HP5.out)
            have hs6 : W2.heap.size ≤ W6.heap.size := Nat.le_trans hs5 hb6.size
            clear hW6 hb6 b0 b1 b2 b3 b4 b5 b6 b7 b8 HO5 HMO5 HMS5 HB5 HP5
            have b0 : W6.cell? ⟨g, 0, none⟩ = some (.int .i64 p0) := (cell_row (j := 0) HP6.out).trans rfl
            have b1 : W6.cell? ⟨g, 1, none⟩ = some (.int .i64 p1) := (cell_row (j := 1) HP6.out).trans rfl
            have b2 : W6.cell? ⟨g, 2, none⟩ = some (.int .i64 p2) := (cell_row (j := 2) HP6.out).trans rfl
            have b3 : W6.cell? ⟨g, 3, none⟩ = some (.int .i64 p3) := (cell_row (j := 3) HP6.out).trans rfl
            have b4 : W6.cell? ⟨g, 4, none⟩ = some (.int .i64 p4) := (cell_row (j := 4) HP6.out).trans rfl
            have b5 : W6.cell? ⟨g, 5, none⟩ = some (.int .i64 p5) := (cell_row (j := 5) HP6.out).trans rfl
            have b6 : W6.cell? ⟨g, 6, none⟩ = some (.int .i64 p6) := (cell_row (j := 6) HP6.out).trans rfl
            have b7 : W6.cell? ⟨g, 7, none⟩ = some (.int .i64 p7) := (cell_row (j := 7) HP6.out).trans rfl
            have b8 : W6.cell? ⟨g, 8, none⟩ = some (.int .i64 p8) := (cell_row (j := 8) HP6.out).trans rfl
            have HKS := hid (keep_skip HP.out HIN.out)
            have HIP := hid (inO_push HP.out HIN.out)
            have hml : j < maxLen := by unfold maxLen; omega
            go_wp2_with (at_mapUpdate; refine wpList_put rfl (.tmp 57) (.tmp 59) (.const (.bool true)) 99 rfl law3 Try.underlying99 rfl HMS6.out hml (.int .i64 p0) (.bool true) (.int .i64 p0) rfl rfl HKEY.out ?_; intro w8 hm8 hg8)
            rw [seenI_put, ← HIP.out] at hm8
            have hs8 := hg8.size
            exact ⟨⟨j + 1, _, rfl, by omega, by go_num, by rw [HKS.out]; exact own_apart HO6.out hg8 hgs2, HMO6.out.kept hg8 (by intro e; injection e with e; omega), hm8, HB6.out.grown hg8 HB6.out.size (fun k hk => by injection hk with hk; omega), by omega⟩, by simp [intOf]; omega⟩
          · have HIN := hid hin
            have HPU := hid (notIn_push HP.out (decide_eq_false hin))
            have HSK := hid (inO_skip HP.out hin)
            rcases hget with hget | ⟨q, hqp, hget⟩
            · rw [hget] at hlook
              clear hin hget heq
              go_upto_region 16 with fail
              refine gen_world (fun W6 hW6 => ?_)
              have hb6 : Below W5.heap.size W5 W6 := by rw [hW6]; exact (Below.refl _ _).alloc (Nat.le_refl _) _
              have HB6 := hid (HB5.out.trans (hb6.mono HB5.out.size))
              have HO6 := hid (OwnR.grow' HO5.out hb6)
              have HMO6 := hid (HMO5.out.grow hb6)
              have HMS6 := hid (HMS5.out.grow hb6)
              have HP6 := hid (heap_still hb6 HP5.out)
              have hs6 : W2.heap.size ≤ W6.heap.size := Nat.le_trans hs5 hb6.size
              clear hW6 hb6 b0 b1 b2 b3 b4 b5 b6 b7 b8 HO5 HMO5 HMS5 HB5 HP5
              have b0 : W6.cell? ⟨g, 0, none⟩ = some (.int .i64 p0) := (cell_row (j := 0) HP6.out).trans rfl
              have b1 : W6.cell? ⟨g, 1, none⟩ = some (.int .i64 p1) := (cell_row (j := 1) HP6.out).trans rfl
              have b2 : W6.cell? ⟨g, 2, none⟩ = some (.int .i64 p2) := (cell_row (j := 2) HP6.out).trans rfl
              have b3 : W6.cell? ⟨g, 3, none⟩ = some (.int .i64 p3) := (cell_row (j := 3) HP6.out).trans rfl
              have b4 : W6.cell? ⟨g, 4, none⟩ = some (.int .i64 p4) := (cell_row (j := 4) HP6.out).trans rfl
              have b5 : W6.cell? ⟨g, 5, none⟩ = some (.int .i64 p5) := (cell_row (j := 5) HP6.out).trans rfl
              have b6 : W6.cell? ⟨g, 6, none⟩ = some (.int .i64 p6) := (cell_row (j := 6) HP6.out).trans rfl
              have b7 : W6.cell? ⟨g, 7, none⟩ = some (.int .i64 p7) := (cell_row (j := 7) HP6.out).trans rfl
              have b8 : W6.cell? ⟨g, 8, none⟩ = some (.int .i64 p8) := (cell_row (j := 8) HP6.out).trans rfl
              have HRK := hid (RowsAt.one (heap_alloc_at W6 _ _ rfl) : RowsAt (W6.alloc (.cells #[.int .i64 p0, .int .i64 p1, .int .i64 p2, .int .i64 p3, .int .i64 p4, .int .i64 p5, .int .i64 p6, .int .i64 p7, .int .i64 p8] 78)) W6.heap.size 0 9 [[.int .i64 p0, .int .i64 p1, .int .i64 p2, .int .i64 p3, .int .i64 p4, .int .i64 p5, .int .i64 p6, .int .i64 p7, .int .i64 p8]])
              have hba : Below W6.heap.size W6 (W6.alloc (.cells #[.int .i64 p0, .int .i64 p1, .int .i64 p2, .int .i64 p3, .int .i64 p4, .int .i64 p5, .int .i64 p6, .int .i64 p7, .int .i64 p8] 78)) := (Below.refl _ _).alloc (Nat.le_refl _) _
              have HOA := hid (OwnR.grow' HO6.out hba : OwnR (W6.alloc (.cells #[.int .i64 p0, .int .i64 p1, .int .i64 p2, .int .i64 p3, .int .i64 p4, .int .i64 p5, .int .i64 p6, .int .i64 p7, .int .i64 p8] 78)) W2.heap.size 78 9 ov (((P.take j).filter (notIn O)).map Pt.row))
              have HMOA := hid (HMO6.out.grow hba)
              have HMSA := hid (HMS6.out.grow hba)
              have HBA := hid (HB6.out.trans (hba.mono HB6.out.size))
              have hsA : W2.heap.size ≤ (W6.alloc (.cells #[.int .i64 p0, .int .i64 p1, .int .i64 p2, .int .i64 p3, .int .i64 p4, .int .i64 p5, .int .i64 p6, .int .i64 p7, .int .i64 p8] 78)).heap.size := Nat.le_trans hs6 hba.size
              have hle := notIn_len (O := O) (L := P) (i := j)
              have HL1 := hid (show (((P.take j).filter (notIn O)).map Pt.row).length + 1 ≤ maxLen by rw [List.length_map]; unfold maxLen; omega)
              have HL2 := hid (show ((((P.take j).filter (notIn O)).map Pt.row).length + 1) * 72 ≤ 140737488355328 by rw [List.length_map]; omega)
              have HSA := hid hsA
              clear hle HO6 hba HMO6 HMS6 hsA
              go_wp2_with (first
                | (at_builtin
                   refine wpList_append_rows rfl (.tmp 60) (.tmp 62) 22 rfl W2.heap.size 78 i0 _ 9 72 Try.underlying22 HI.out HZ0.out HZ1.out HZ2.out rfl (by decide) _ (((P.take j).filter (notIn O)).map Pt.row) [[.int .i64 p0, .int .i64 p1, .int .i64 p2, .int .i64 p3, .int .i64 p4, .int .i64 p5, .int .i64 p6, .int .i64 p7, .int .i64 p8]] rfl HOA.out W6.heap.size 0 1 1 rfl rfl HRK.out (wide9d _ _ _ _ _ _ _ _ _) HL1.out HL2.out HSA.out ?_
                   intro v7 W7 hown7 hg7 z7
                   clear z7
                   have HO7 := hid (show OwnP W7 W2.heap.size v7 ((P.take (j + 1)).filter (notIn O)) by unfold OwnP; rw [HPU.out, List.map_append]; exact hown7)
                   have HB7 := hid (show Below w.heap.size w W7 from HBA.out.grown hg7 HBA.out.size (fun k hk => Nat.le_trans (Nat.le_trans hzwr (Nat.le_of_lt hgs2)) (OwnR.ownBlock HOA.out k hk)))
                   have HMO7 := hid (HMOA.out.kept hg7 (fun e => by have := OwnR.ownBlock HOA.out _ e.symm; omega))
                   have HMS7 := hid (HMSA.out.kept hg7 (fun e => by have := OwnR.ownBlock HOA.out _ e.symm; omega))
                   have HS7 := hid (Nat.le_trans HSA.out hg7.size)
                   clear hown7 hg7)
                | (refine wpList_load_at rfl 78 (.tmp 12) rfl rfl HP6.out Try.underlying78 rfl size78d rfl ?_))
              exact ⟨⟨j + 1, _, rfl, by omega, by go_num, HO7.out, HMO7.out, by rw [HSK.out]; exact HMS7.out.mono (by omega), HB7.out, HS7.out⟩, by simp [intOf]; omega⟩
            · rw [hget] at hlook
              have heq1 := heq q
              rw [decide_eq_false hqp] at heq1
              obtain ⟨q0, q1, q2, q3, q4, q5, q6, q7, q8⟩ := q
              simp only at heq1 hlook
              clear hin hget heq hqp
              go_upto_region 16 with fail
              refine gen_world (fun W6 hW6 => ?_)
              have hb6 : Below W5.heap.size W5 W6 := by rw [hW6]; exact (Below.refl _ _).alloc (Nat.le_refl _) _
              have HB6 := hid (HB5.out.trans (hb6.mono HB5.out.size))
              have HO6 := hid (OwnR.grow' HO5.out hb6)
              have HMO6 := hid (HMO5.out.grow hb6)
              have HMS6 := hid (HMS5.out.grow hb6)
              have HP6 := hid (heap_still hb6 HP5.out)
              have hs6 : W2.heap.size ≤ W6.heap.size := Nat.le_trans hs5 hb6.size
              clear hW6 hb6 b0 b1 b2 b3 b4 b5 b6 b7 b8 HO5 HMO5 HMS5 HB5 HP5
              have b0 : W6.cell? ⟨g, 0, none⟩ = some (.int .i64 p0) := (cell_row (j := 0) HP6.out).trans rfl
              have b1 : W6.cell? ⟨g, 1, none⟩ = some (.int .i64 p1) := (cell_row (j := 1) HP6.out).trans rfl
              have b2 : W6.cell? ⟨g, 2, none⟩ = some (.int .i64 p2) := (cell_row (j := 2) HP6.out).trans rfl
              have b3 : W6.cell? ⟨g, 3, none⟩ = some (.int .i64 p3) := (cell_row (j := 3) HP6.out).trans rfl
              have b4 : W6.cell? ⟨g, 4, none⟩ = some (.int .i64 p4) := (cell_row (j := 4) HP6.out).trans rfl
              have b5 : W6.cell? ⟨g, 5, none⟩ = some (.int .i64 p5) := (cell_row (j := 5) HP6.out).trans rfl
              have b6 : W6.cell? ⟨g, 6, none⟩ = some (.int .i64 p6) := (cell_row (j := 6) HP6.out).trans rfl
              have b7 : W6.cell? ⟨g, 7, none⟩ = some (.int .i64 p7) := (cell_row (j := 7) HP6.out).trans rfl
              have b8 : W6.cell? ⟨g, 8, none⟩ = some (.int .i64 p8) := (cell_row (j := 8) HP6.out).trans rfl
              have HRK := hid (RowsAt.one (heap_alloc_at W6 _ _ rfl) : RowsAt (W6.alloc (.cells #[.int .i64 p0, .int .i64 p1, .int .i64 p2, .int .i64 p3, .int .i64 p4, .int .i64 p5, .int .i64 p6, .int .i64 p7, .int .i64 p8] 78)) W6.heap.size 0 9 [[.int .i64 p0, .int .i64 p1, .int .i64 p2, .int .i64 p3, .int .i64 p4, .int .i64 p5, .int .i64 p6, .int .i64 p7, .int .i64 p8]])
              have hba : Below W6.heap.size W6 (W6.alloc (.cells #[.int .i64 p0, .int .i64 p1, .int .i64 p2, .int .i64 p3, .int .i64 p4, .int .i64 p5, .int .i64 p6, .int .i64 p7, .int .i64 p8] 78)) := (Below.refl _ _).alloc (Nat.le_refl _) _
              have HOA := hid (OwnR.grow' HO6.out hba : OwnR (W6.alloc (.cells #[.int .i64 p0, .int .i64 p1, .int .i64 p2, .int .i64 p3, .int .i64 p4, .int .i64 p5, .int .i64 p6, .int .i64 p7, .int .i64 p8] 78)) W2.heap.size 78 9 ov (((P.take j).filter (notIn O)).map Pt.row))
              have HMOA := hid (HMO6.out.grow hba)
              have HMSA := hid (HMS6.out.grow hba)
              have HBA := hid (HB6.out.trans (hba.mono HB6.out.size))
              have hsA : W2.heap.size ≤ (W6.alloc (.cells #[.int .i64 p0, .int .i64 p1, .int .i64 p2, .int .i64 p3, .int .i64 p4, .int .i64 p5, .int .i64 p6, .int .i64 p7, .int .i64 p8] 78)).heap.size := Nat.le_trans hs6 hba.size
              have hle := notIn_len (O := O) (L := P) (i := j)
              have HL1 := hid (show (((P.take j).filter (notIn O)).map Pt.row).length + 1 ≤ maxLen by rw [List.length_map]; unfold maxLen; omega)
              have HL2 := hid (show ((((P.take j).filter (notIn O)).map Pt.row).length + 1) * 72 ≤ 140737488355328 by rw [List.length_map]; omega)
              have HSA := hid hsA
              clear hle HO6 hba HMO6 HMS6 hsA
              go_wp2_with (first
                | (at_builtin
                   refine wpList_append_rows rfl (.tmp 60) (.tmp 62) 22 rfl W2.heap.size 78 i0 _ 9 72 Try.underlying22 HI.out HZ0.out HZ1.out HZ2.out rfl (by decide) _ (((P.take j).filter (notIn O)).map Pt.row) [[.int .i64 p0, .int .i64 p1, .int .i64 p2, .int .i64 p3, .int .i64 p4, .int .i64 p5, .int .i64 p6, .int .i64 p7, .int .i64 p8]] rfl HOA.out W6.heap.size 0 1 1 rfl rfl HRK.out (wide9d _ _ _ _ _ _ _ _ _) HL1.out HL2.out HSA.out ?_
                   intro v7 W7 hown7 hg7 z7
                   clear z7
                   have HO7 := hid (show OwnP W7 W2.heap.size v7 ((P.take (j + 1)).filter (notIn O)) by unfold OwnP; rw [HPU.out, List.map_append]; exact hown7)
                   have HB7 := hid (show Below w.heap.size w W7 from HBA.out.grown hg7 HBA.out.size (fun k hk => Nat.le_trans (Nat.le_trans hzwr (Nat.le_of_lt hgs2)) (OwnR.ownBlock HOA.out k hk)))
                   have HMO7 := hid (HMOA.out.kept hg7 (fun e => by have := OwnR.ownBlock HOA.out _ e.symm; omega))
                   have HMS7 := hid (HMSA.out.kept hg7 (fun e => by have := OwnR.ownBlock HOA.out _ e.symm; omega))
                   have HS7 := hid (Nat.le_trans HSA.out hg7.size)
                   clear hown7 hg7)
                | (refine wpList_load_at rfl 78 (.tmp 12) rfl rfl HP6.out Try.underlying78 rfl size78d rfl ?_))
              exact ⟨⟨j + 1, _, rfl, by omega, by go_num, HO7.out, HMO7.out, by rw [HSK.out]; exact HMS7.out.mono (by omega), HB7.out, HS7.out⟩, by simp [intOf]; omega⟩
        · obtain rfl : j = m := by omega
          have d2 : decide ((j : Int) < (j : Int)) = false := by simp
          have HAA := hid (show OwnP wr W2.heap.size ov (P.filter (notIn O)) by have h1 := HOV.out; rwa [HNm.out, List.take_length] at h1)
          have HMS9 := hid (show MapAt Try.prog wr 3 gs j (seenI ((P.filter (inO O)).map Pt.id)) by have h1 := HMS.out; rwa [HNm.out, List.take_length, ← HNm.out] at h1)
          clear HOV HMS HMO
          go_wp2_with fail
          obtain ⟨W3, hW3⟩ : ∃ W3, W3 = wr := ⟨_, rfl⟩
          rw [← hW3] at HAA HMS9 HB4 hW2s hz4 ⊢
          clear hW3
          go_loopw [5, 67] (fun dv' kv W => ∃ (k : Nat) (dv : Value), dv = dv' ∧ k ≤ i ∧ kv = .int .i64 (k : Int) ∧ OwnI W W3.heap.size dv (((O.take k).filter (notIn P)).map Pt.id) ∧ Below W3.heap.size W3 W) (fun _ kv _ => i - (intOf kv).toNat)
          case atStart => exact ⟨0, _, rfl, by omega, rfl, OwnR.nil _ _ _ _, Below.refl _ _⟩
          case round =>
            obtain ⟨k, dv, rfl, hk, rfl, hdv, hB⟩ := hrel
            have HOV := hid hdv
            have HB8 := hid hB
            have hz8 := hB.size
            clear hdv hB
            by_cases hlt : k < i
            · have d2 : decide ((k : Int) < (i : Int)) = true := decide_eq_true (by omega)
              obtain ⟨p, hp⟩ : ∃ p, O[k]? = some p := ⟨_, List.getElem?_eq_getElem (by rw [← HNn.out]; exact hlt)⟩
              obtain ⟨b, off, rfl, hbw, hrows⟩ := HORw.out.resolve_left (fun h => by rw [h] at hp; simp at hp)
              have hcs : ∀ y, y < 9 → wr.cell? ⟨b, off + k * 9 + y, none⟩ = p.row[y]? := fun y hy => by
                rw [HB8.out.cell (Nat.lt_of_lt_of_le hbw hz4), HB4.out.cell hbw, hrows k p.row (by rw [List.getElem?_map, hp]; rfl) y hy]
              have HP := hid hp
              have hpO := List.mem_of_getElem? hp
              have HFI := hid (okQ_id (HFO.out.2.1 p hpO))
              have HSA := hid (same_any (P := P) HFO.out.2.2 hpO)
              clear hrows hp hpO
              obtain ⟨p0, p1, p2, p3, p4, p5, p6, p7, p8⟩ := p
              simp only [Pt.row] at hcs
              have HKEY := hid (keyOf_int_mk (P := Try.prog) Try.underlying3 (show (Lit.int .i64 p0).wf = true from WalkArith.wf_i64 (by have := HFI.out; simp only at this; omega)))
              have c0 : wr.cell? ⟨b, off + k * 9, none⟩ = some (.int .i64 p0) := hcs 0 (by decide)
              have c1 : wr.cell? ⟨b, off + k * 9 + 1, none⟩ = some (.int .i64 p1) := hcs 1 (by decide)
              have c2 : wr.cell? ⟨b, off + k * 9 + 2, none⟩ = some (.int .i64 p2) := hcs 2 (by decide)
              have c3 : wr.cell? ⟨b, off + k * 9 + 3, none⟩ = some (.int .i64 p3) := hcs 3 (by decide)
              have c4 : wr.cell? ⟨b, off + k * 9 + 4, none⟩ = some (.int .i64 p4) := hcs 4 (by decide)
              have c5 : wr.cell? ⟨b, off + k * 9 + 5, none⟩ = some (.int .i64 p5) := hcs 5 (by decide)
              have c6 : wr.cell? ⟨b, off + k * 9 + 6, none⟩ = some (.int .i64 p6) := hcs 6 (by decide)
              have c7 : wr.cell? ⟨b, off + k * 9 + 7, none⟩ = some (.int .i64 p7) := hcs 7 (by decide)
              have c8 : wr.cell? ⟨b, off + k * 9 + 8, none⟩ = some (.int .i64 p8) := hcs 8 (by decide)
              clear hcs
              go_upto_region 21 with fail
              refine gen_world (fun W5 hW5 => ?_)
              have HP5 := hid (show W5.heap[wr.heap.size]? = some (.cells #[.int .i64 p0, .int .i64 p1, .int .i64 p2, .int .i64 p3, .int .i64 p4, .int .i64 p5, .int .i64 p6, .int .i64 p7, .int .i64 p8] 78) by rw [hW5]; exact heap_alloc_at _ _ _ rfl)
              have hb5 : Below wr.heap.size wr W5 := by rw [hW5]; exact (Below.refl _ _).alloc (Nat.le_refl _) _
              have HB6 := hid (HB8.out.trans (hb5.mono hz8))
              have HO6 := hid (OwnR.grow' HOV.out hb5)
              have HMS5 := hid (HMS9.out.grow HB6.out)
              clear hW5 hb5 c0 c1 c2 c3 c4 c5 c6 c7 c8 HOV
              obtain ⟨g, hg⟩ : ∃ g, g = wr.heap.size := ⟨_, rfl⟩
              rw [← hg] at HP5 ⊢
              clear hg
              have b0 : W5.cell? ⟨g, 0, none⟩ = some (.int .i64 p0) := (cell_row (j := 0) HP5.out).trans rfl
              have b1 : W5.cell? ⟨g, 1, none⟩ = some (.int .i64 p1) := (cell_row (j := 1) HP5.out).trans rfl
              have b2 : W5.cell? ⟨g, 2, none⟩ = some (.int .i64 p2) := (cell_row (j := 2) HP5.out).trans rfl
              have b3 : W5.cell? ⟨g, 3, none⟩ = some (.int .i64 p3) := (cell_row (j := 3) HP5.out).trans rfl
              have b4 : W5.cell? ⟨g, 4, none⟩ = some (.int .i64 p4) := (cell_row (j := 4) HP5.out).trans rfl
              have b5 : W5.cell? ⟨g, 5, none⟩ = some (.int .i64 p5) := (cell_row (j := 5) HP5.out).trans rfl
              have b6 : W5.cell? ⟨g, 6, none⟩ = some (.int .i64 p6) := (cell_row (j := 6) HP5.out).trans rfl
              have b7 : W5.cell? ⟨g, 7, none⟩ = some (.int .i64 p7) := (cell_row (j := 7) HP5.out).trans rfl
              have b8 : W5.cell? ⟨g, 8, none⟩ = some (.int .i64 p8) := (cell_row (j := 8) HP5.out).trans rfl
              have hlook := HMS5.out.look law3 Try.underlying99 (zero4 W5) HKEY.out
              rw [seenI_look, show ((P.filter (inO O)).map Pt.id).any (fun z => z == p0) = decide ((⟨p0, p1, p2, p3, p4, p5, p6, p7, p8⟩ : Pt) ∈ P) from HSA.out] at hlook
              by_cases hin : (⟨p0, p1, p2, p3, p4, p5, p6, p7, p8⟩ : Pt) ∈ P
              · rw [decide_eq_true hin] at hlook
                have HKS := hid (keep_skip HP.out hin)
                go_wp2_with fail
                exact ⟨⟨k + 1, _, rfl, by omega, by go_num, by rw [HKS.out]; exact HO6.out, HB6.out⟩, by simp [intOf]; omega⟩
              · rw [decide_eq_false hin] at hlook
                have HPU := hid (notIn_push HP.out (decide_eq_false hin))
                clear hin
                have HRK := hid (RowsAt.one (heap_alloc_at W5 _ _ rfl) : RowsAt (W5.alloc (.cells #[.int .i64 p0] 3)) W5.heap.size 0 1 [[.int .i64 p0]])
                have HOA := hid (OwnR.grow' HO6.out ((Below.refl _ _).alloc (Nat.le_refl _) _) : OwnR (W5.alloc (.cells #[.int .i64 p0] 3)) W3.heap.size 3 1 dv ((((O.take k).filter (notIn P)).map Pt.id).map iRow))
                have HBA := hid (HB6.out.alloc HB6.out.size _ : Below W3.heap.size W3 (W5.alloc (.cells #[.int .i64 p0] 3)))
                have hle := notIn_len (O := P) (L := O) (i := k)
                have HL1 := hid (show ((((O.take k).filter (notIn P)).map Pt.id).map iRow).length + 1 ≤ maxLen by rw [List.length_map, List.length_map]; unfold maxLen; omega)
                have HL2 := hid (show (((((O.take k).filter (notIn P)).map Pt.id).map iRow).length + 1) * 8 ≤ 140737488355328 by rw [List.length_map, List.length_map]; omega)
                clear hle HO6
                go_wp2_with (first
                  | (at_builtin
                     refine wpList_append_rows rfl (.tmp 76) (.tmp 79) 36 rfl W3.heap.size 3 j0 _ 1 8 Try.underlying36 JI.out JZ0.out JZ1.out JZ2.out rfl (by decide) _ ((((O.take k).filter (notIn P)).map Pt.id).map iRow) [[.int .i64 p0]] rfl HOA.out W5.heap.size 0 1 1 rfl rfl HRK.out (iRow_wide [p0]) HL1.out HL2.out HBA.out.size ?_
                     intro v7 W7 hown7 hg7 z7
                     clear z7
                     have HO7 := hid (show OwnI W7 W3.heap.size v7 (((O.take (k + 1)).filter (notIn P)).map Pt.id) by unfold OwnI; rw [HPU.out, List.map_append, List.map_append]; exact hown7)
                     have HB7 := hid (show Below W3.heap.size W3 W7 from HBA.out.grown hg7 HBA.out.size (fun k hk => OwnR.ownBlock HOA.out k hk))
                     clear hown7 hg7))
                exact ⟨⟨k + 1, _, rfl, by omega, by go_num, HO7.out, HB7.out⟩, by simp [intOf]; omega⟩
            · obtain rfl : k = i := by omega
              have d2 : decide ((k : Int) < (k : Int)) = false := by simp
              have HDA := hid (show OwnI wr W3.heap.size dv ((O.filter (notIn P)).map Pt.id) by have h1 := HOV.out; rwa [HNn.out, List.take_length] at h1)
              have HAX := hid (OwnR.grow' HAA.out HB8.out)
              have hpl : (P.filter (notIn O)).length ≤ 1024 := Nat.le_trans (List.length_filter_le _ _) HFP.out.1
              have hol : ((O.filter (notIn P)).map Pt.id).length ≤ 1024 := by rw [List.length_map]; exact Nat.le_trans (List.length_filter_le _ _) HFO.out.1
              have HPL := hid hpl
              have HOL := hid hol
              clear HOV hpl hol
              go_wp2_with fail
              refine (psortId_any ov _ W2.heap.size wr HAX.out (by have := HPL.out; omega) (fun p hp => okQ_id (HFP.out.2.1 p (List.mem_filter.1 hp).1))).mono ?_
              rintro r w6 ⟨rfl, A, hperm, hasc, hown, hg6⟩
              have HPM := hid hperm
              have HAS := hid (hasc.imp (S := fun p q : Pt => ¬ q.id < p.id) (fun {_ _} h => by omega))
              have HA6 := hid hown
              have HD6 := hid (own_ne HDA.out hg6 (fun b hb e => by have h1 := OwnR.ownBlock HDA.out b hb; have h2 := OwnR.lt HAA.out e.symm; omega))
              have HB6 := hid ((HB4.out.trans (HB8.out.mono hz4)).grown hg6 (HB4.out.trans (HB8.out.mono hz4)).size (fun b hb => by have := OwnR.ownBlock HAA.out b hb; omega))
              clear hperm hasc hown hg6 HAX HDA
              go_wp2_with fail
              refine (sortI_any w6 W3.heap.size dv _ HD6.out (by have := HOL.out; omega)).mono ?_
              rintro r w7 ⟨rfl, hown7, hg7⟩
              have HD7 := hid hown7
              have HA7 := hid (own_ne HA6.out hg7 (fun b hb e => by have h1 := OwnR.ownBlock HD6.out b e.symm; have h2 := OwnR.lt HAA.out hb; omega))
              have HB7 := hid (HB6.out.grown hg7 HB6.out.size (fun b hb => by have := OwnR.ownBlock HD6.out b hb; omega))
              clear hown7 hg7
              go_wp2_with fail
              go_ret3
              exact ⟨⟨_, _, _, _, _, rfl, OwnR.mono HA7.out (by omega), OwnR.mono HD7.out hz4, DiffRes.sorted HVO0.out HVP0.out HPM.out (HAS.out.imp (fun {_ _} h => by omega)) rfl⟩, HB7.out⟩
end Go.Proofs.Ytpablkmdpoombaa
