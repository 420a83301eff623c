/- has 69 of the reference: whether a point is among points (turned from seat 2: AmongX). -/
import Derived.Test.YtpablkmdpoombaaDiffM
import Derived.Lib.QuietBelow
namespace Go.Proofs.Ytpablkmdpoombaa
open Go.RowKit Go.Sort

theorem not_take {α : Type} {P : List α} {i : Nat} {p q : α} (h : p ∉ P.take i) (hq : P[i]? = some q) (hne : q ≠ p) : p ∉ P.take (i + 1) := fun hm => by
  rw [take_next hq] at hm
  rcases List.mem_append.1 hm with g | g
  · exact h g
  · exact hne (List.mem_singleton.1 g).symm
set_option maxRecDepth 100000 in
set_option maxHeartbeats 1600000 in
theorem has_any (va : Value) (P : List Pt) (p : Pt) (w : World) (ha : PtsV w va P) (hn : P.length ≤ maxLen) :
    Calls Try.prog 69 #[va, .agg p.row.toArray] w fun e w' => e = .returned (.bool (decide (p ∈ P))) ∧ Below w.heap.size w w' := by
  obtain ⟨pb, hpb⟩ : ∃ pb, pb = decide (p ∈ P) := ⟨_, rfl⟩
  rw [← hpb]
  obtain ⟨aa, ca, rfl, ha2⟩ := ha
  obtain ⟨n, hnl⟩ : ∃ n, n = P.length := ⟨_, rfl⟩
  rw [← hnl] at hn ⊢
  have HNL := hid hnl
  have HA := hid ha2
  have HYE := hid (fun h : p ∈ P => show pb = true by rw [hpb]; exact decide_eq_true h)
  have HNE := hid (fun h : p ∉ P => show pb = false by rw [hpb]; exact decide_eq_false h)
  have hn63 : n ≤ 9223372036854775807 := by unfold maxLen at hn; omega
  have heq := fun q W => eqPt q p W
  clear hnl ha2 hn hpb
  obtain ⟨p0, p1, p2, p3, p4, p5, p6, p7, p8⟩ := p
  simp only [Pt.row] at heq ⊢
  go_enter Try.func69, Try.ntmps69
  go_upto_region 2 with fail
  refine gen_world (fun W1 hW1 => ?_)
  have HP1 := hid (show W1.heap[w.heap.size]? = some (.cells #[.int .i64 p0, .int .i64 p1, .int .i64 p2, .int .i64 p3, .int .i64 p4, .int .i64 p5, .int .i64 p6, .int .i64 p7, .int .i64 p8] 78) by rw [hW1]; exact heap_alloc_at _ _ _ rfl)
  have HB1 := hid (show Below w.heap.size w W1 by rw [hW1]; exact (Below.refl _ _).alloc (Nat.le_refl _) _)
  clear hW1
  obtain ⟨g, hg⟩ : ∃ g, g = w.heap.size := ⟨_, rfl⟩
  rw [← hg] at HP1 ⊢
  have HG := hid hg
  clear hg
  go_loopw [8] (fun iv W => ∃ k : Nat, k ≤ n ∧ iv = .int .i64 (k : Int) ∧ (⟨p0, p1, p2, p3, p4, p5, p6, p7, p8⟩ : Pt) ∉ P.take k ∧ Below W1.heap.size W1 W) (fun iv _ => n - (intOf iv).toNat)
  case atStart => exact ⟨0, by omega, rfl, by simp, Below.refl _ _⟩
  case round =>
    obtain ⟨k, hk, rfl, hnot, hB⟩ := hrel
    have HNT := hid hnot
    have HBW := hid hB
    have hzw := hB.size
    clear hnot hB
    by_cases hlt : k < n
    · obtain ⟨q, hq⟩ : ∃ q, P[k]? = some q := ⟨_, List.getElem?_eq_getElem (by rw [← HNL.out]; exact hlt)⟩
      obtain ⟨b1, o1, rfl, hb1, hr1⟩ := HA.out.resolve_left (fun h => by rw [h] at hq; simp at hq)
      have hc1 : ∀ j, j < 9 → wr.cell? ⟨b1, o1 + k * 9 + j, none⟩ = some (.int .i64 (q.f j)) := fun j hj => by
        rw [HBW.out.cell (Nat.lt_of_lt_of_le hb1 HB1.out.size), HB1.out.cell hb1, hr1 k q.row (by rw [List.getElem?_map, hq]; rfl) j hj, Pt.row_at q j hj]
      have hc2 : wr.heap[g]? = some (.cells #[.int .i64 p0, .int .i64 p1, .int .i64 p2, .int .i64 p3, .int .i64 p4, .int .i64 p5, .int .i64 p6, .int .i64 p7, .int .i64 p8] 78) := heap_still HBW.out HP1.out
      have HC2 := hid hc2
      clear hc2
      have HQX := hid hq
      have hqe := heq q
      have HBY := hid (fun h : decide (q = (⟨p0, p1, p2, p3, p4, p5, p6, p7, p8⟩ : Pt)) = true => HYE.out ((of_decide_eq_true h) ▸ List.mem_of_getElem? hq))
      have HBN := hid (fun h : decide (q = (⟨p0, p1, p2, p3, p4, p5, p6, p7, p8⟩ : Pt)) = false => not_take HNT.out HQX.out (of_decide_eq_false h))
      clear hq hr1 hb1 heq
      obtain ⟨q0, q1, q2, q3, q4, q5, q6, q7, q8⟩ := q
      simp only at hqe
      generalize decide ((⟨q0, q1, q2, q3, q4, q5, q6, q7, q8⟩ : Pt) = ⟨p0, p1, p2, p3, p4, p5, p6, p7, p8⟩) = bq at hqe HBN HBY
      have d3 : decide ((k : Int) < (n : Int)) = true := decide_eq_true (by omega)
      have hk0 : (0 : Int) ≤ (k : Int) := by omega
      have a0 := fun d os => cell_regrown (show wr.cell? ⟨b1, o1 + k * 9, none⟩ = some (.int .i64 q0) from hc1 0 (by decide)) d os
      have a1 := fun d os => cell_regrown (show wr.cell? ⟨b1, o1 + k * 9 + 1, none⟩ = some (.int .i64 q1) from hc1 1 (by decide)) d os
      have a2 := fun d os => cell_regrown (show wr.cell? ⟨b1, o1 + k * 9 + 2, none⟩ = some (.int .i64 q2) from hc1 2 (by decide)) d os
      have a3 := fun d os => cell_regrown (show wr.cell? ⟨b1, o1 + k * 9 + 3, none⟩ = some (.int .i64 q3) from hc1 3 (by decide)) d os
      have a4 := fun d os => cell_regrown (show wr.cell? ⟨b1, o1 + k * 9 + 4, none⟩ = some (.int .i64 q4) from hc1 4 (by decide)) d os
      have a5 := fun d os => cell_regrown (show wr.cell? ⟨b1, o1 + k * 9 + 5, none⟩ = some (.int .i64 q5) from hc1 5 (by decide)) d os
      have a6 := fun d os => cell_regrown (show wr.cell? ⟨b1, o1 + k * 9 + 6, none⟩ = some (.int .i64 q6) from hc1 6 (by decide)) d os
      have a7 := fun d os => cell_regrown (show wr.cell? ⟨b1, o1 + k * 9 + 7, none⟩ = some (.int .i64 q7) from hc1 7 (by decide)) d os
      have a8 := fun d os => cell_regrown (show wr.cell? ⟨b1, o1 + k * 9 + 8, none⟩ = some (.int .i64 q8) from hc1 8 (by decide)) d os
      have b0 := fun d os => cell_regrown (show wr.cell? ⟨g, 0, none⟩ = some (.int .i64 p0) from (cell_row (j := 0) HC2.out).trans rfl) d os
      have b1' := fun d os => cell_regrown (show wr.cell? ⟨g, 1, none⟩ = some (.int .i64 p1) from (cell_row (j := 1) HC2.out).trans rfl) d os
      have b2' := fun d os => cell_regrown (show wr.cell? ⟨g, 2, none⟩ = some (.int .i64 p2) from (cell_row (j := 2) HC2.out).trans rfl) d os
      have b3 := fun d os => cell_regrown (show wr.cell? ⟨g, 3, none⟩ = some (.int .i64 p3) from (cell_row (j := 3) HC2.out).trans rfl) d os
      have b4 := fun d os => cell_regrown (show wr.cell? ⟨g, 4, none⟩ = some (.int .i64 p4) from (cell_row (j := 4) HC2.out).trans rfl) d os
      have b5 := fun d os => cell_regrown (show wr.cell? ⟨g, 5, none⟩ = some (.int .i64 p5) from (cell_row (j := 5) HC2.out).trans rfl) d os
      have b6 := fun d os => cell_regrown (show wr.cell? ⟨g, 6, none⟩ = some (.int .i64 p6) from (cell_row (j := 6) HC2.out).trans rfl) d os
      have b7 := fun d os => cell_regrown (show wr.cell? ⟨g, 7, none⟩ = some (.int .i64 p7) from (cell_row (j := 7) HC2.out).trans rfl) d os
      have b8 := fun d os => cell_regrown (show wr.cell? ⟨g, 8, none⟩ = some (.int .i64 p8) from (cell_row (j := 8) HC2.out).trans rfl) d os
      clear hc1
      cases bq
      · have HF := hid (HBN.out rfl)
        clear HBN HBY
        go_wp2_with fail
        refine wp_region_quiet_below (by kernel_rfl) (by kernel_rfl) ?_
        repeat (first | go_big_quiet_step (fail) | quiet_step (fail))
        refine wpQuiet_nil ?_
        intro _ hw'
        obtain ⟨⟨dqV, osV⟩, hw2⟩ := hw'
        subst hw2
        have HQV := hid (below_regrown wr dqV osV)
        generalize Sort.grow (redrawn wr dqV) osV = V at HQV ⊢
        have hsV := HQV.out.size
        have HB3 := hid (HBW.out.trans (HQV.out.mono hzw))
        clear a0 a1 a2 a3 a4 a5 a6 a7 a8 b0 b1' b2' b3 b4 b5 b6 b7 b8
        go_wp2_with fail
        exact ⟨⟨k + 1, by omega, by go_num, HF.out, HB3.out⟩, by simp [intOf]; omega⟩
      · have HT := hid (HBY.out rfl)
        clear HBN HBY
        go_wp2_with fail
        refine wp_region_quiet_below (by kernel_rfl) (by kernel_rfl) ?_
        repeat (first | go_big_quiet_step (fail) | quiet_step (fail))
        refine wpQuiet_nil ?_
        intro _ hw'
        obtain ⟨⟨dqV, osV⟩, hw2⟩ := hw'
        subst hw2
        have HQV := hid (below_regrown wr dqV osV)
        generalize Sort.grow (redrawn wr dqV) osV = V at HQV ⊢
        have hsV := HQV.out.size
        have HB3 := hid (HBW.out.trans (HQV.out.mono hzw))
        clear a0 a1 a2 a3 a4 a5 a6 a7 a8 b0 b1' b2' b3 b4 b5 b6 b7 b8
        go_wp2_with fail
        go_ret
        exact ⟨by rw [HT.out]; rfl, HB1.out.trans (HB3.out.mono HB1.out.size)⟩
    · obtain rfl : k = n := by omega
      have HF := hid (HNE.out (by have := HNT.out; rwa [HNL.out, List.take_length] at this))
      have d3 : decide ((k : Int) < (k : Int)) = false := by simp
      go_wp2_with fail
      go_ret
      exact ⟨by rw [HF.out]; rfl, HB1.out.trans (HBW.out.mono HB1.out.size)⟩
end Go.Proofs.Ytpablkmdpoombaa
