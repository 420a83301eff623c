/- Two lists of points are found the same just if they are (the reference); '==' on points and on keys. -/
import Derived.Test.YteanlcefdoigcaaTileM
namespace Go.Proofs.Yteanlcefdoigcaa
open Go.RowKit Go.Maps Go.Sort

def Pt.ns (p : Pt) : List Int := [p.id, p.x, p.y, p.zl, p.zh, p.wd, p.nm, p.of, p.cl]
theorem Pt.ns_iff {p q : Pt} : p.ns = q.ns ↔ p = q := by
  constructor
  · intro h
    obtain ⟨⟩ := p
    obtain ⟨⟩ := q
    simp [Pt.ns] at h
    simp [h]
  · rintro rfl
    rfl
instance : DecidableEq Pt := fun _ _ => decidable_of_iff _ Pt.ns_iff
set_option maxRecDepth 100000 in
theorem eqPt (p q : Pt) (W : World) : (Op.equalIn 10000 36 (.agg p.row.toArray) (.agg q.row.toArray)).run Try.prog W = .ok (decide (p = q)) W := by
  obtain ⟨p0, p1, p2, p3, p4, p5, p6, p7, p8⟩ := p
  obtain ⟨q0, q1, q2, q3, q4, q5, q6, q7, q8⟩ := q
  have h := equal_struct Try.underlying36 flat36e (ints [p0, p1, p2, p3, p4, p5, p6, p7, p8]) (ints [q0, q1, q2, q3, q4, q5, q6, q7, q8]) rfl rfl W
  rw [sameL_ints (by rfl)] at h
  refine Eq.trans (show _ = _ from h) ?_
  congr 1
  rw [Bool.eq_iff_iff, decide_eq_true_eq, beq_iff_eq]
  exact Pt.ns_iff (p := ⟨p0, p1, p2, p3, p4, p5, p6, p7, p8⟩) (q := ⟨q0, q1, q2, q3, q4, q5, q6, q7, q8⟩)
set_option maxRecDepth 100000 in
theorem eqKy (a b : Ky) (W : World) : (Op.equalIn 10000 39 (.agg a.row.toArray) (.agg b.row.toArray)).run Try.prog W = .ok (decide (a = b)) W := by
  obtain ⟨a0, a1, a2, a3⟩ := a
  obtain ⟨b0, b1, b2, b3⟩ := b
  have h := equal_struct Try.underlying39 flat39k (ints [a0, a1, a2, a3]) (ints [b0, b1, b2, b3]) rfl rfl W
  rw [sameL_ints (by rfl)] at h
  refine Eq.trans (show _ = _ from h) ?_
  congr 1
  rw [Bool.eq_iff_iff, decide_eq_true_eq, beq_iff_eq]
  simp
theorem take_same {α : Type} {P Q : List α} {k : Nat} {p : α} (h : P.take k = Q.take k) (hp : P[k]? = some p) (hq : Q[k]? = some p) : P.take (k + 1) = Q.take (k + 1) := by
  rw [take_next hp, take_next hq, h]
theorem take_differ {α : Type} {P Q : List α} {k : Nat} {p q : α} (hp : P[k]? = some p) (hq : Q[k]? = some q) (h : p ≠ q) : P ≠ Q := fun e => h (by
  rw [e, hq] at hp
  exact (Option.some.inj hp).symm)
theorem take_whole {α : Type} {P Q : List α} {n : Nat} (h : P.take n = Q.take n) (h1 : n = P.length) (h2 : n = Q.length) : P = Q := by
  rw [h1, List.take_length, ← h1, h2, List.take_length] at h
  exact h
set_option maxRecDepth 100000 in
set_option maxHeartbeats 3200000 in
theorem same28 (va vb : Value) (P Q : List Pt) (w : World) (ha : PtsV w va P) (hb : PtsV w vb Q) (hn : P.length ≤ maxLen) :
    Calls Try.prog 28 #[va, vb] w fun e w' => e = .returned (.bool (decide (P = Q))) ∧ Below w.heap.size w w' := by
  obtain ⟨z, hz⟩ : ∃ z, z = decide (P = Q) := ⟨_, rfl⟩
  rw [← hz]
  have HYES := hid (fun h : P = Q => show z = true by rw [hz]; exact decide_eq_true h)
  have HNO := hid (fun h : P ≠ Q => show z = false by rw [hz]; exact decide_eq_false h)
  clear hz
  obtain ⟨aa, ca, rfl, ha2⟩ := ha
  obtain ⟨ab, cb, rfl, hb2⟩ := hb
  obtain ⟨n, hnl⟩ : ∃ n, n = P.length := ⟨_, rfl⟩
  obtain ⟨m, hml⟩ : ∃ m, m = Q.length := ⟨_, rfl⟩
  rw [← hnl] at hn ⊢
  rw [← hml]
  have HNL := hid hnl
  have HML := hid hml
  have HA := hid ha2
  have HB := hid hb2
  have hn63 : n ≤ 9223372036854775807 := by unfold maxLen at hn; omega
  clear hnl hml ha2 hb2 hn
  by_cases hnm : n = m
  · subst hnm
    go_enter Try.func28, Try.ntmps28
    go_wp2_with fail
    go_loopw [13] (fun iv W => ∃ k : Nat, k ≤ n ∧ iv = .int .i64 (k : Int) ∧ P.take k = Q.take k ∧ Below w.heap.size w W) (fun iv _ => n - (intOf iv).toNat)
    case atStart => exact ⟨0, by omega, rfl, rfl, Below.refl _ _⟩
    case round =>
      obtain ⟨k, hk, rfl, hsame, hB⟩ := hrel
      have HS := hid hsame
      have HBW := hid hB
      have hzw := hB.size
      clear hsame hB
      by_cases hlt : k < n
      · obtain ⟨p, hp⟩ : ∃ p, P[k]? = some p := ⟨_, List.getElem?_eq_getElem (by rw [← HNL.out]; exact hlt)⟩
        obtain ⟨q, hq⟩ : ∃ q, Q[k]? = some q := ⟨_, List.getElem?_eq_getElem (by rw [← HML.out]; exact hlt)⟩
        obtain ⟨b1, o1, rfl, hb1, hr1⟩ := HA.out.resolve_left (fun h => by rw [h] at hp; simp at hp)
        obtain ⟨b2, o2, rfl, hb2', hr2⟩ := HB.out.resolve_left (fun h => by rw [h] at hq; simp at hq)
        have hc1 : ∀ j, j < 9 → wr.cell? ⟨b1, o1 + k * 9 + j, none⟩ = some (.int .i64 (p.f j)) := fun j hj => by
          rw [HBW.out.cell hb1, hr1 k p.row (by rw [List.getElem?_map, hp]; rfl) j hj, Pt.row_at p j hj]
        have hc2 : ∀ j, j < 9 → wr.cell? ⟨b2, o2 + k * 9 + j, none⟩ = some (.int .i64 (q.f j)) := fun j hj => by
          rw [HBW.out.cell hb2', hr2 k q.row (by rw [List.getElem?_map, hq]; rfl) j hj, Pt.row_at q j hj]
        have HPX := hid hp
        have HQX := hid hq
        have heq := fun W => eqPt p q W
        have HBE := hid (fun h : decide (p = q) = true => show P.take (k + 1) = Q.take (k + 1) from take_same HS.out HPX.out ((of_decide_eq_true h) ▸ HQX.out))
        have HBN := hid (fun h : decide (p = q) = false => show z = false from HNO.out (take_differ HPX.out HQX.out (of_decide_eq_false h)))
        clear HPX HQX hp hq hr1 hr2 hb1 hb2'
        generalize decide (p = q) = bq at heq HBE HBN
        obtain ⟨p0, p1, p2, p3, p4, p5, p6, p7, p8⟩ := p
        obtain ⟨q0, q1, q2, q3, q4, q5, q6, q7, q8⟩ := q
        simp only [Pt.row] at heq
        have d3 : decide ((k : Int) < (n : Int)) = true := decide_eq_true (by omega)
        have hk0 : (0 : Int) ≤ (k : Int) := by omega
        have a0 := fun d os => cell_regrown (show wr.cell? ⟨b1, o1 + k * 9, none⟩ = some (.int .i64 p0) from hc1 0 (by decide)) d os
        have a1 := fun d os => cell_regrown (show wr.cell? ⟨b1, o1 + k * 9 + 1, none⟩ = some (.int .i64 p1) from hc1 1 (by decide)) d os
        have a2 := fun d os => cell_regrown (show wr.cell? ⟨b1, o1 + k * 9 + 2, none⟩ = some (.int .i64 p2) from hc1 2 (by decide)) d os
        have a3 := fun d os => cell_regrown (show wr.cell? ⟨b1, o1 + k * 9 + 3, none⟩ = some (.int .i64 p3) from hc1 3 (by decide)) d os
        have a4 := fun d os => cell_regrown (show wr.cell? ⟨b1, o1 + k * 9 + 4, none⟩ = some (.int .i64 p4) from hc1 4 (by decide)) d os
        have a5 := fun d os => cell_regrown (show wr.cell? ⟨b1, o1 + k * 9 + 5, none⟩ = some (.int .i64 p5) from hc1 5 (by decide)) d os
        have a6 := fun d os => cell_regrown (show wr.cell? ⟨b1, o1 + k * 9 + 6, none⟩ = some (.int .i64 p6) from hc1 6 (by decide)) d os
        have a7 := fun d os => cell_regrown (show wr.cell? ⟨b1, o1 + k * 9 + 7, none⟩ = some (.int .i64 p7) from hc1 7 (by decide)) d os
        have a8 := fun d os => cell_regrown (show wr.cell? ⟨b1, o1 + k * 9 + 8, none⟩ = some (.int .i64 p8) from hc1 8 (by decide)) d os
        have b0 := fun d os => cell_regrown (show wr.cell? ⟨b2, o2 + k * 9, none⟩ = some (.int .i64 q0) from hc2 0 (by decide)) d os
        have b1' := fun d os => cell_regrown (show wr.cell? ⟨b2, o2 + k * 9 + 1, none⟩ = some (.int .i64 q1) from hc2 1 (by decide)) d os
        have b2' := fun d os => cell_regrown (show wr.cell? ⟨b2, o2 + k * 9 + 2, none⟩ = some (.int .i64 q2) from hc2 2 (by decide)) d os
        have b3 := fun d os => cell_regrown (show wr.cell? ⟨b2, o2 + k * 9 + 3, none⟩ = some (.int .i64 q3) from hc2 3 (by decide)) d os
        have b4 := fun d os => cell_regrown (show wr.cell? ⟨b2, o2 + k * 9 + 4, none⟩ = some (.int .i64 q4) from hc2 4 (by decide)) d os
        have b5 := fun d os => cell_regrown (show wr.cell? ⟨b2, o2 + k * 9 + 5, none⟩ = some (.int .i64 q5) from hc2 5 (by decide)) d os
        have b6 := fun d os => cell_regrown (show wr.cell? ⟨b2, o2 + k * 9 + 6, none⟩ = some (.int .i64 q6) from hc2 6 (by decide)) d os
        have b7 := fun d os => cell_regrown (show wr.cell? ⟨b2, o2 + k * 9 + 7, none⟩ = some (.int .i64 q7) from hc2 7 (by decide)) d os
        have b8 := fun d os => cell_regrown (show wr.cell? ⟨b2, o2 + k * 9 + 8, none⟩ = some (.int .i64 q8) from hc2 8 (by decide)) d os
        clear hc1 hc2
        cases bq
        · have HF := hid (HBN.out rfl)
          clear HBN HBE
          go_wp2_with fail
          refine wp_region_quiet_below (by kernel_rfl) (by kernel_rfl) ?_
          repeat (first | go_big_quiet_step (fail) | quiet_step (fail))
          refine wpQuiet_nil ?_
          intro _ hw'
          obtain ⟨⟨dqV, osV⟩, hw2⟩ := hw'
          subst hw2
          have HQV := hid (below_regrown wr dqV osV)
          generalize Sort.grow (redrawn wr dqV) osV = V at HQV ⊢
          have hsV := HQV.out.size
          have HB3 := hid (HBW.out.trans (HQV.out.mono hzw))
          clear a0 a1 a2 a3 a4 a5 a6 a7 a8 b0 b1' b2' b3 b4 b5 b6 b7 b8
          go_wp2_with fail
          go_ret
          exact ⟨by rw [HF.out]; rfl, HB3.out⟩
        · have HF := hid (HBE.out rfl)
          clear HBN HBE
          go_wp2_with fail
          refine wp_region_quiet_below (by kernel_rfl) (by kernel_rfl) ?_
          repeat (first | go_big_quiet_step (fail) | quiet_step (fail))
          refine wpQuiet_nil ?_
          intro _ hw'
          obtain ⟨⟨dqV, osV⟩, hw2⟩ := hw'
          subst hw2
          have HQV := hid (below_regrown wr dqV osV)
          generalize Sort.grow (redrawn wr dqV) osV = V at HQV ⊢
          have hsV := HQV.out.size
          have HB3 := hid (HBW.out.trans (HQV.out.mono hzw))
          clear a0 a1 a2 a3 a4 a5 a6 a7 a8 b0 b1' b2' b3 b4 b5 b6 b7 b8
          go_wp2_with fail
          exact ⟨⟨k + 1, by omega, by go_num, HF.out, HB3.out⟩, by simp [intOf]; omega⟩
      · obtain rfl : k = n := by omega
        have d3 : decide ((k : Int) < (k : Int)) = false := by simp
        have HF := hid (HYES.out (take_whole HS.out HNL.out HML.out))
        go_wp2_with fail
        go_ret
        exact ⟨by rw [HF.out]; rfl, HBW.out⟩
  · have d1 : ((n : Int) == (m : Int)) = false := by simp; omega
    have HF := hid (HNO.out (fun h => hnm (by rw [HNL.out, HML.out, h])))
    go_enter Try.func28, Try.ntmps28
    go_wp2_with fail
    go_ret
    exact ⟨by rw [HF.out]; rfl, by (repeat' (first | (with_reducible exact Below.refl _ _) | (with_reducible assumption) | (with_reducible refine Below.alloc ?_ ?_ _) | (with_reducible refine Below.drew ?_) | (with_reducible refine below_drewN ?_ _) | (with_reducible refine Below.setCell ?_ ?_ _) | (with_reducible refine below_setRow ?_ ?_ _) | go_size))⟩
end Go.Proofs.Yteanlcefdoigcaa
