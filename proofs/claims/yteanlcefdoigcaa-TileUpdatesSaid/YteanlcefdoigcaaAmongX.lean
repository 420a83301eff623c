/- A point is found among points; a tile is lacking in a list just if it is not there (reference). -/
import Derived.Test.YteanlcefdoigcaaSameX
namespace Go.Proofs.Yteanlcefdoigcaa
open Go.ChangeShapes Go.WideShapes Go.RowKit Go.Maps Go.Sort

instance : DecidableEq Tl := fun a b => decidable_of_iff (a.key = b.key ∧ a.pts = b.pts) ⟨fun h => by cases a; cases b; cases h.1; cases h.2; rfl, fun h => h ▸ ⟨rfl, rfl⟩⟩
theorem not_take {α : Type} {P : List α} {i : Nat} {p q : α} (h : p ∉ P.take i) (hq : P[i]? = some q) (hne : q ≠ p) : p ∉ P.take (i + 1) := fun hm => by
  rw [take_next hq] at hm
  rcases List.mem_append.1 hm with g | g
  · exact h g
  · exact hne (List.mem_singleton.1 g).symm
set_option maxRecDepth 100000 in
set_option maxHeartbeats 1600000 in
theorem among_any (va : Value) (P : List Pt) (p : Pt) (w : World) (ha : PtsV w va P) (hn : P.length ≤ maxLen) (hp : p ∈ P) :
    Calls Try.prog 27 #[va, .agg p.row.toArray] w fun e w' => e = .returned (.bool true) ∧ Below w.heap.size w w' := by
  obtain ⟨aa, ca, rfl, ha2⟩ := ha
  obtain ⟨n, hnl⟩ : ∃ n, n = P.length := ⟨_, rfl⟩
  rw [← hnl] at hn ⊢
  have HNL := hid hnl
  have HA := hid ha2
  have HPM := hid hp
  have hn63 : n ≤ 9223372036854775807 := by unfold maxLen at hn; omega
  have heq := fun q W => eqPt q p W
  clear hnl ha2 hn hp
  obtain ⟨p0, p1, p2, p3, p4, p5, p6, p7, p8⟩ := p
  simp only [Pt.row] at heq ⊢
  go_enter Try.func27, Try.ntmps27
  go_upto_region 2 with fail
  refine gen_world (fun W1 hW1 => ?_)
  have HP1 := hid (show W1.heap[w.heap.size]? = some (.cells #[.int .i64 p0, .int .i64 p1, .int .i64 p2, .int .i64 p3, .int .i64 p4, .int .i64 p5, .int .i64 p6, .int .i64 p7, .int .i64 p8] 36) by rw [hW1]; exact heap_alloc_at _ _ _ rfl)
  have HB1 := hid (show Below w.heap.size w W1 by rw [hW1]; exact (Below.refl _ _).alloc (Nat.le_refl _) _)
  clear hW1
  obtain ⟨g, hg⟩ : ∃ g, g = w.heap.size := ⟨_, rfl⟩
  rw [← hg] at HP1 ⊢
  have HG := hid hg
  clear hg
  go_loopw [8] (fun iv W => ∃ k : Nat, k ≤ n ∧ iv = .int .i64 (k : Int) ∧ (⟨p0, p1, p2, p3, p4, p5, p6, p7, p8⟩ : Pt) ∉ P.take k ∧ Below W1.heap.size W1 W) (fun iv _ => n - (intOf iv).toNat)
  case atStart => exact ⟨0, by omega, rfl, by simp, Below.refl _ _⟩
  case round =>
    obtain ⟨k, hk, rfl, hnot, hB⟩ := hrel
    have HNT := hid hnot
    have HBW := hid hB
    have hzw := hB.size
    clear hnot hB
    by_cases hlt : k < n
    · obtain ⟨q, hq⟩ : ∃ q, P[k]? = some q := ⟨_, List.getElem?_eq_getElem (by rw [← HNL.out]; exact hlt)⟩
      obtain ⟨b1, o1, rfl, hb1, hr1⟩ := HA.out.resolve_left (fun h => by rw [h] at hq; simp at hq)
      have hc1 : ∀ j, j < 9 → wr.cell? ⟨b1, o1 + k * 9 + j, none⟩ = some (.int .i64 (q.f j)) := fun j hj => by
        rw [HBW.out.cell (Nat.lt_of_lt_of_le hb1 HB1.out.size), HB1.out.cell hb1, hr1 k q.row (by rw [List.getElem?_map, hq]; rfl) j hj, Pt.row_at q j hj]
      have hc2 : wr.heap[g]? = some (.cells #[.int .i64 p0, .int .i64 p1, .int .i64 p2, .int .i64 p3, .int .i64 p4, .int .i64 p5, .int .i64 p6, .int .i64 p7, .int .i64 p8] 36) := heap_still HBW.out HP1.out
      have HC2 := hid hc2
      clear hc2
      have HQX := hid hq
      have hqe := heq q
      have HBN := hid (fun h : decide (q = (⟨p0, p1, p2, p3, p4, p5, p6, p7, p8⟩ : Pt)) = false => not_take HNT.out HQX.out (of_decide_eq_false h))
      clear hq hr1 hb1 heq
      obtain ⟨q0, q1, q2, q3, q4, q5, q6, q7, q8⟩ := q
      simp only at hqe
      generalize decide ((⟨q0, q1, q2, q3, q4, q5, q6, q7, q8⟩ : Pt) = ⟨p0, p1, p2, p3, p4, p5, p6, p7, p8⟩) = bq at hqe HBN
      have d3 : decide ((k : Int) < (n : Int)) = true := decide_eq_true (by omega)
      have hk0 : (0 : Int) ≤ (k : Int) := by omega
      have a0 := fun d os => cell_regrown (show wr.cell? ⟨b1, o1 + k * 9, none⟩ = some (.int .i64 q0) from hc1 0 (by decide)) d os
      have a1 := fun d os => cell_regrown (show wr.cell? ⟨b1, o1 + k * 9 + 1, none⟩ = some (.int .i64 q1) from hc1 1 (by decide)) d os
      have a2 := fun d os => cell_regrown (show wr.cell? ⟨b1, o1 + k * 9 + 2, none⟩ = some (.int .i64 q2) from hc1 2 (by decide)) d os
      have a3 := fun d os => cell_regrown (show wr.cell? ⟨b1, o1 + k * 9 + 3, none⟩ = some (.int .i64 q3) from hc1 3 (by decide)) d os
      have a4 := fun d os => cell_regrown (show wr.cell? ⟨b1, o1 + k * 9 + 4, none⟩ = some (.int .i64 q4) from hc1 4 (by decide)) d os
      have a5 := fun d os => cell_regrown (show wr.cell? ⟨b1, o1 + k * 9 + 5, none⟩ = some (.int .i64 q5) from hc1 5 (by decide)) d os
      have a6 := fun d os => cell_regrown (show wr.cell? ⟨b1, o1 + k * 9 + 6, none⟩ = some (.int .i64 q6) from hc1 6 (by decide)) d os
      have a7 := fun d os => cell_regrown (show wr.cell? ⟨b1, o1 + k * 9 + 7, none⟩ = some (.int .i64 q7) from hc1 7 (by decide)) d os
      have a8 := fun d os => cell_regrown (show wr.cell? ⟨b1, o1 + k * 9 + 8, none⟩ = some (.int .i64 q8) from hc1 8 (by decide)) d os
      have b0 := fun d os => cell_regrown (show wr.cell? ⟨g, 0, none⟩ = some (.int .i64 p0) from (cell_row (j := 0) HC2.out).trans rfl) d os
      have b1' := fun d os => cell_regrown (show wr.cell? ⟨g, 1, none⟩ = some (.int .i64 p1) from (cell_row (j := 1) HC2.out).trans rfl) d os
      have b2' := fun d os => cell_regrown (show wr.cell? ⟨g, 2, none⟩ = some (.int .i64 p2) from (cell_row (j := 2) HC2.out).trans rfl) d os
      have b3 := fun d os => cell_regrown (show wr.cell? ⟨g, 3, none⟩ = some (.int .i64 p3) from (cell_row (j := 3) HC2.out).trans rfl) d os
      have b4 := fun d os => cell_regrown (show wr.cell? ⟨g, 4, none⟩ = some (.int .i64 p4) from (cell_row (j := 4) HC2.out).trans rfl) d os
      have b5 := fun d os => cell_regrown (show wr.cell? ⟨g, 5, none⟩ = some (.int .i64 p5) from (cell_row (j := 5) HC2.out).trans rfl) d os
      have b6 := fun d os => cell_regrown (show wr.cell? ⟨g, 6, none⟩ = some (.int .i64 p6) from (cell_row (j := 6) HC2.out).trans rfl) d os
      have b7 := fun d os => cell_regrown (show wr.cell? ⟨g, 7, none⟩ = some (.int .i64 p7) from (cell_row (j := 7) HC2.out).trans rfl) d os
      have b8 := fun d os => cell_regrown (show wr.cell? ⟨g, 8, none⟩ = some (.int .i64 p8) from (cell_row (j := 8) HC2.out).trans rfl) d os
      clear hc1
      cases bq
      · have HF := hid (HBN.out rfl)
        clear HBN
        go_wp2_with fail
        refine wp_region_quiet_below (by kernel_rfl) (by kernel_rfl) ?_
        repeat (first | go_big_quiet_step (fail) | quiet_step (fail))
        refine wpQuiet_nil ?_
        intro _ hw'
        obtain ⟨⟨dqV, osV⟩, hw2⟩ := hw'
        subst hw2
        have HQV := hid (below_regrown wr dqV osV)
        generalize Sort.grow (redrawn wr dqV) osV = V at HQV ⊢
        have hsV := HQV.out.size
        have HB3 := hid (HBW.out.trans (HQV.out.mono hzw))
        clear a0 a1 a2 a3 a4 a5 a6 a7 a8 b0 b1' b2' b3 b4 b5 b6 b7 b8
        go_wp2_with fail
        exact ⟨⟨k + 1, by omega, by go_num, HF.out, HB3.out⟩, by simp [intOf]; omega⟩
      · clear HBN
        go_wp2_with fail
        refine wp_region_quiet_below (by kernel_rfl) (by kernel_rfl) ?_
        repeat (first | go_big_quiet_step (fail) | quiet_step (fail))
        refine wpQuiet_nil ?_
        intro _ hw'
        obtain ⟨⟨dqV, osV⟩, hw2⟩ := hw'
        subst hw2
        have HQV := hid (below_regrown wr dqV osV)
        generalize Sort.grow (redrawn wr dqV) osV = V at HQV ⊢
        have hsV := HQV.out.size
        have HB3 := hid (HBW.out.trans (HQV.out.mono hzw))
        clear a0 a1 a2 a3 a4 a5 a6 a7 a8 b0 b1' b2' b3 b4 b5 b6 b7 b8
        go_wp2_with fail
        go_ret
        exact ⟨rfl, HB1.out.trans (HB3.out.mono HB1.out.size)⟩
    · obtain rfl : k = n := by omega
      exact absurd HPM.out (by have := HNT.out; rwa [HNL.out, List.take_length] at this)
set_option maxRecDepth 100000 in
set_option maxHeartbeats 3200000 in
theorem lacks_any (va ev : Value) (E : List Te) (ek : Ky) (Q : List Pt) (w : World) (ha : TilesV w va E) (hq : PtsV w ev Q) (hn : E.length ≤ 1000000) (hp : ∀ e ∈ E, e.pts.length ≤ maxLen) :
    Calls Try.prog 105 #[va, .agg #[.int .i64 ek.L, .int .i64 ek.x, .int .i64 ek.y, .int .i64 ek.z, ev]] w fun e w' => e = .returned (.bool (decide ((⟨ek, Q⟩ : Tl) ∉ E.map Te.tl))) ∧ Below w.heap.size w w' := by
  obtain ⟨z, hz⟩ : ∃ z, z = decide ((⟨ek, Q⟩ : Tl) ∉ E.map Te.tl) := ⟨_, rfl⟩
  rw [← hz]
  have HYES := hid (fun h : (⟨ek, Q⟩ : Tl) ∉ E.map Te.tl => show z = true by rw [hz]; exact decide_eq_true h)
  have HNO := hid (fun h : (⟨ek, Q⟩ : Tl) ∈ E.map Te.tl => show z = false by rw [hz]; exact decide_eq_false (fun g => g h))
  clear hz
  obtain ⟨⟨aa, ca, rfl, ha2⟩, hpv⟩ := ha
  obtain ⟨n, hnl⟩ : ∃ n, n = E.length := ⟨_, rfl⟩
  rw [← hnl] at hn ⊢
  have HNL := hid hnl
  have HA := hid ha2
  have HPV := hid hpv
  have HPL := hid hp
  have HQ := hid hq
  obtain ⟨qa, qc, rfl, _⟩ := hq
  obtain ⟨m, hm⟩ : ∃ m, m = Q.length := ⟨_, rfl⟩
  rw [← hm] at HQ ⊢
  have heq := fun a W => eqKy a ek W
  clear hnl ha2 hpv hp hm
  have HEK := hid (show ek = ek from rfl)
  obtain ⟨k0, k1, k2, k3⟩ := ek
  simp only [Ky.row] at heq
  go_enter Try.func105, Try.ntmps105
  go_upto_region 2 with fail
  refine gen_world (fun W1 hW1 => ?_)
  have HP1 := hid (show W1.heap[w.heap.size]? = some (.cells #[.int .i64 k0, .int .i64 k1, .int .i64 k2, .int .i64 k3, .slice qa m qc] 49) by rw [hW1]; exact heap_alloc_at _ _ _ rfl)
  have HB1 := hid (show Below w.heap.size w W1 by rw [hW1]; exact (Below.refl _ _).alloc (Nat.le_refl _) _)
  clear hW1
  obtain ⟨g, hg⟩ : ∃ g, g = w.heap.size := ⟨_, rfl⟩
  rw [← hg] at HP1 ⊢
  have HG := hid hg
  clear hg
  go_loopw [8] (fun iv W => ∃ k : Nat, k ≤ n ∧ iv = .int .i64 (k : Int) ∧ (⟨⟨k0, k1, k2, k3⟩, Q⟩ : Tl) ∉ (E.map Te.tl).take k ∧ Below W1.heap.size W1 W) (fun iv _ => n - (intOf iv).toNat)
  case atStart => exact ⟨0, by omega, rfl, by simp, Below.refl _ _⟩
  case round =>
    obtain ⟨k, hk, rfl, hnot, hB⟩ := hrel
    have HNT := hid hnot
    have HBW := hid hB
    have hzw := hB.size
    clear hnot hB
    by_cases hlt : k < n
    · obtain ⟨e, he⟩ : ∃ e, E[k]? = some e := ⟨_, List.getElem?_eq_getElem (by rw [← HNL.out]; exact hlt)⟩
      have HTI := hid (show (E.map Te.tl)[k]? = some e.tl by rw [List.getElem?_map, he]; rfl)
      obtain ⟨b1, o1, rfl, hb1, hr1⟩ := HA.out.resolve_left (fun h => by rw [h] at he; simp at he)
      have hcs : ∀ j, j < 5 → wr.cell? ⟨b1, o1 + k * 5 + j, none⟩ = e.row[j]? := fun j hj => by
        rw [HBW.out.cell (Nat.lt_of_lt_of_le hb1 HB1.out.size), HB1.out.cell hb1, hr1 k e.row (by rw [List.getElem?_map, he]; rfl) j hj]
      have HC2 := hid (show wr.heap[g]? = some (.cells #[.int .i64 k0, .int .i64 k1, .int .i64 k2, .int .i64 k3, .slice qa m qc] 49) from heap_still HBW.out HP1.out)
      have hpe := HPV.out e (List.mem_of_getElem? he)
      have HPX := hid (HPL.out e (List.mem_of_getElem? he))
      have hke := heq e.key
      clear he hr1 hb1 heq
      obtain ⟨⟨e0, e1, e2, e3⟩, ev, P⟩ := e
      have HPE := hid hpe
      obtain ⟨ea, ec, hev, _⟩ := hpe
      obtain rfl : ev = .slice ea P.length ec := hev
      obtain ⟨l, hl⟩ : ∃ l, l = P.length := ⟨_, rfl⟩
      simp only [Te.row, Ky.row, ← hl] at hcs HPE hke
      clear hl
      have HPE2 := hid (show PtsV wr (.slice ea l ec) P from (HPE.out.still HB1.out).still HBW.out)
      have HQ2 := hid (show PtsV wr (.slice qa m qc) Q from (HQ.out.still HB1.out).still HBW.out)
      have HBK := hid (fun h : decide ((⟨e0, e1, e2, e3⟩ : Ky) = ⟨k0, k1, k2, k3⟩) = true => of_decide_eq_true h)
      have HBN := hid (fun h : decide ((⟨e0, e1, e2, e3⟩ : Ky) = ⟨k0, k1, k2, k3⟩) = false => not_take HNT.out HTI.out (fun g => of_decide_eq_false h (congrArg Tl.key g)))
      generalize decide ((⟨e0, e1, e2, e3⟩ : Ky) = ⟨k0, k1, k2, k3⟩) = bk at hke HBK HBN
      have d3 : decide ((k : Int) < (n : Int)) = true := decide_eq_true (by omega)
      have hk0 : (0 : Int) ≤ (k : Int) := by omega
      have a0 := fun d os => cell_regrown (show wr.cell? ⟨b1, o1 + k * 5, none⟩ = some (.int .i64 e0) from hcs 0 (by decide)) d os
      have a1 := fun d os => cell_regrown (show wr.cell? ⟨b1, o1 + k * 5 + 1, none⟩ = some (.int .i64 e1) from hcs 1 (by decide)) d os
      have a2 := fun d os => cell_regrown (show wr.cell? ⟨b1, o1 + k * 5 + 2, none⟩ = some (.int .i64 e2) from hcs 2 (by decide)) d os
      have a3 := fun d os => cell_regrown (show wr.cell? ⟨b1, o1 + k * 5 + 3, none⟩ = some (.int .i64 e3) from hcs 3 (by decide)) d os
      have a4 := fun d os => cell_regrown (show wr.cell? ⟨b1, o1 + k * 5 + 4, none⟩ = some (.slice ea l ec) from hcs 4 (by decide)) d os
      have b0 := fun d os => cell_regrown (show wr.cell? ⟨g, 0, none⟩ = some (.int .i64 k0) from (cell_row (j := 0) HC2.out).trans rfl) d os
      have b1' := fun d os => cell_regrown (show wr.cell? ⟨g, 1, none⟩ = some (.int .i64 k1) from (cell_row (j := 1) HC2.out).trans rfl) d os
      have b2' := fun d os => cell_regrown (show wr.cell? ⟨g, 2, none⟩ = some (.int .i64 k2) from (cell_row (j := 2) HC2.out).trans rfl) d os
      have b3 := fun d os => cell_regrown (show wr.cell? ⟨g, 3, none⟩ = some (.int .i64 k3) from (cell_row (j := 3) HC2.out).trans rfl) d os
      have b4 := fun d os => cell_regrown (show wr.cell? ⟨g, 4, none⟩ = some (.slice qa m qc) from (cell_row (j := 4) HC2.out).trans rfl) d os
      clear hcs
      cases bk
      · have HF := hid (HBN.out rfl)
        clear HBN HBK
        go_wp2_with fail
        refine wp_region_quiet_below (by kernel_rfl) (by kernel_rfl) ?_
        repeat (first | go_big_quiet_step (fail) | quiet_step (fail))
        refine wpQuiet_nil ?_
        intro _ hw'
        obtain ⟨⟨dqV, osV⟩, hw2⟩ := hw'
        subst hw2
        have HQV := hid (below_regrown wr dqV osV)
        generalize Sort.grow (redrawn wr dqV) osV = V at HQV ⊢
        have hsV := HQV.out.size
        have HB3 := hid (HBW.out.trans (HQV.out.mono hzw))
        clear a0 a1 a2 a3 a4 b0 b1' b2' b3 b4
        go_wp2_with fail
        exact ⟨⟨k + 1, by omega, by go_num, HF.out, HB3.out⟩, by simp [intOf]; omega⟩
      · have HKE := hid (HBK.out rfl)
        clear HBN HBK
        obtain ⟨bs, hbs⟩ : ∃ bs, bs = decide (P = Q) := ⟨_, rfl⟩
        have HSC := hid (fun d os => (show Calls Try.prog 28 #[.slice ea l ec, .slice qa m qc] (grow (redrawn wr d) os) fun r w' => r = .returned (.bool bs) ∧ Below (grow (redrawn wr d) os).heap.size (grow (redrawn wr d) os) w' from hbs ▸ same28 _ _ P Q (grow (redrawn wr d) os) (HPE2.out.still (below_regrown wr d os)) (HQ2.out.still (below_regrown wr d os)) HPX.out))
        have HBS := hid (fun h : bs = true => of_decide_eq_true (show decide (P = Q) = true from hbs ▸ h))
        have HBF := hid (fun h : bs = false => of_decide_eq_false (show decide (P = Q) = false from hbs ▸ h))
        clear hbs
        cases bs
        · have HF := hid (not_take HNT.out HTI.out (fun g => HBF.out rfl (congrArg Tl.pts g)))
          clear HBS HBF
          go_wp2_with fail
          refine wp_region_quiet_below (by kernel_rfl) (by kernel_rfl) ?_
          repeat (first | go_big_quiet_step ((go_at_call 28; with_reducible exact Calls.regrown_of (HSC.out _ _))) | quiet_step ((go_at_call 28; with_reducible exact Calls.regrown_of (HSC.out _ _))))
          refine wpQuiet_nil ?_
          intro _ hw'
          obtain ⟨⟨dqV, osV⟩, hw2⟩ := hw'
          subst hw2
          have HQV := hid (below_regrown wr dqV osV)
          generalize Sort.grow (redrawn wr dqV) osV = V at HQV ⊢
          have hsV := HQV.out.size
          have HB3 := hid (HBW.out.trans (HQV.out.mono hzw))
          clear a0 a1 a2 a3 a4 b0 b1' b2' b3 b4
          go_wp2_with fail
          exact ⟨⟨k + 1, by omega, by go_num, HF.out, HB3.out⟩, by simp [intOf]; omega⟩
        · have HF := hid (HNO.out (by
            have h1 := List.mem_of_getElem? HTI.out
            have h2 : P = Q := HBS.out rfl
            have h3 := HKE.out
            rw [← h3, ← h2]
            exact h1))
          clear HBS HBF
          go_wp2_with fail
          refine wp_region_quiet_below (by kernel_rfl) (by kernel_rfl) ?_
          repeat (first | go_big_quiet_step ((go_at_call 28; with_reducible exact Calls.regrown_of (HSC.out _ _))) | quiet_step ((go_at_call 28; with_reducible exact Calls.regrown_of (HSC.out _ _))))
          refine wpQuiet_nil ?_
          intro _ hw'
          obtain ⟨⟨dqV, osV⟩, hw2⟩ := hw'
          subst hw2
          have HQV := hid (below_regrown wr dqV osV)
          generalize Sort.grow (redrawn wr dqV) osV = V at HQV ⊢
          have hsV := HQV.out.size
          have HB3 := hid (HBW.out.trans (HQV.out.mono hzw))
          clear a0 a1 a2 a3 a4 b0 b1' b2' b3 b4
          go_wp2_with fail
          go_ret
          exact ⟨by rw [HF.out]; rfl, HB1.out.trans (HB3.out.mono HB1.out.size)⟩
    · obtain rfl : k = n := by omega
      have d3 : decide ((k : Int) < (k : Int)) = false := by simp
      have HF := hid (HYES.out (by have := HNT.out; rwa [HNL.out, List.take_of_length_le (by rw [List.length_map]; exact Nat.le_refl _)] at this))
      go_wp2_with fail
      go_ret
      exact ⟨by rw [HF.out]; rfl, HB1.out.trans (HBW.out.mono HB1.out.size)⟩
end Go.Proofs.Yteanlcefdoigcaa
