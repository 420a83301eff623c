/- Rings in the program: validRing 123, inRing 125, Within 96. (Printed by wip/gen_ring.py.) -/
import Derived.Test.YtpablkmdpoombaaRingM
namespace Go.Proofs.Ytpablkmdpoombaa
open Go.RowKit

theorem ring_stop {R : List Xy} {i : Nat} {p : Xy} (hp : R[i]? = some p) (h : plX p = false) : ringB R = false := by
  unfold ringB
  rw [show R.all plX = false from by rw [List.all_eq_false]; exact ⟨p, List.mem_of_getElem? hp, by rw [h]; decide⟩]
  simp
theorem ring_next {R : List Xy} {i : Nat} {p : Xy} (hp : R[i]? = some p) (h : plX p = true) (ha : (R.take i).all plX = true) : (R.take (i + 1)).all plX = true := by
  rw [take_next hp, List.all_append, ha]; simp [h]
theorem xys_cells {W W' : World} {b off i : Nat} {R : List Xy} {p : Xy} {B : Nat} (h : RowsAt W b off 2 (R.map Xy.row)) (hp : R[i]? = some p) (hb : Below B W W') (hB : b < B) :
    W'.cell? ⟨b, off + i * 2, none⟩ = some (.int .i64 p.x) ∧ W'.cell? ⟨b, off + i * 2 + 1, none⟩ = some (.int .i64 p.y) := by
  have hr : (R.map Xy.row)[i]? = some p.row := by rw [List.getElem?_map, hp]; rfl
  exact ⟨by rw [hb.cell hB]; exact h i _ hr 0 (by decide), by rw [hb.cell hB]; exact h i _ hr 1 (by decide)⟩
set_option maxRecDepth 100000 in
set_option maxHeartbeats 1600000 in
theorem validRing_any (v : Value) (R : List Xy) (w : World) (hR : XysV w v R) (hm : R.length ≤ maxLen) :
    Calls Try.prog 123 #[v] w fun r w' => r = .returned (.bool (ringB R)) ∧ Below w.heap.size w w' := by
  obtain ⟨a, cap, rfl, hrow⟩ := hR
  obtain ⟨n, hn⟩ : ∃ n, n = R.length := ⟨_, rfl⟩
  rw [← hn] at hm ⊢
  have hnm' : n ≤ 9223372036854775807 := by unfold maxLen at hm; omega
  clear hm
  have HN := hid hn
  have HROW := hid hrow
  clear hn hrow
  by_cases hq : inB 3 64 (n : Int) = true
  · have HQ := hid hq
    clear hq
    go_enter Try.func123, Try.ntmps123
    go_wp2_with fail
    refine (within_any _ _ _ _).mono ?_
    rintro r w1 ⟨rfl, rfl⟩
    rw [HQ.out]
    go_wp2_with fail
    go_loopw [11] (fun iv W => ∃ i : Nat, i ≤ n ∧ iv = .int .i64 (i : Int) ∧ (R.take i).all plX = true ∧ Below w.heap.size w W) (fun iv _ => n - (intOf iv).toNat)
    case atStart => exact ⟨0, by omega, rfl, rfl, Below.refl _ _⟩
    case round =>
      obtain ⟨i, hi, rfl, hall, hB⟩ := hrel
      have HALL := hid hall
      have HBwr := hid hB
      have hzwr := hB.size
      clear hall hB
      by_cases hlt : i < n
      · have d2 : decide ((i : Int) < (n : Int)) = true := decide_eq_true (by omega)
        obtain ⟨p, hp⟩ : ∃ p, R[i]? = some p := ⟨_, List.getElem?_eq_getElem (by rw [← HN.out]; exact hlt)⟩
        obtain ⟨b, off, rfl, hbw, hrows⟩ := HROW.out.resolve_left (fun h => by rw [h] at hp; simp at hp)
        obtain ⟨c0, c1⟩ := xys_cells hrows hp HBwr.out hbw
        have HBAD := hid (fun h : plX p = false => ring_stop hp h)
        have HYES := hid (fun h : plX p = true => ring_next hp h HALL.out)
        clear hp hrows
        obtain ⟨px, py⟩ := p
        cases hz : placeB px py
        · have HX := hid (HBAD.out hz)
          have HZ := hid hz
          clear hz
          go_wp2_with fail
          refine (vplace_any _ _ _).mono ?_
          rintro r w1 ⟨rfl, hb⟩
          rw [HZ.out]
          go_wp2_with fail
          go_ret
          exact ⟨by rw [HX.out]; rfl, (HBwr.out.alloc hzwr _).trans (hb.mono (by simp; omega))⟩
        · have HX := hid (HYES.out hz)
          have HZ := hid hz
          clear hz
          go_wp2_with fail
          refine (vplace_any _ _ _).mono ?_
          rintro r w1 ⟨rfl, hb⟩
          rw [HZ.out]
          go_wp2_with fail
          exact ⟨⟨i + 1, by omega, by go_num, HX.out, (HBwr.out.alloc hzwr _).trans (hb.mono (by simp; omega))⟩, by simp [intOf]; omega⟩
      · obtain rfl : i = n := by omega
        have d2 : decide ((i : Int) < (i : Int)) = false := by simp
        have HV := hid (show ringB R = true by unfold ringB; rw [← HN.out, HQ.out]; have h := HALL.out; rw [HN.out, List.take_length] at h; rw [h]; rfl)
        go_wp2_with fail
        go_ret
        exact ⟨by rw [HV.out]; rfl, HBwr.out⟩
  · have HQ := hid (Bool.eq_false_iff.2 hq)
    have HV := hid (show ringB R = false by unfold ringB; rw [← HN.out, HQ.out]; rfl)
    clear hq
    go_enter Try.func123, Try.ntmps123
    go_wp2_with fail
    refine (within_any _ _ _ _).mono ?_
    rintro r w1 ⟨rfl, rfl⟩
    rw [HQ.out]
    go_wp2_with fail
    go_ret
    exact ⟨by rw [HV.out]; rfl, Below.refl _ _⟩
set_option maxRecDepth 100000 in
set_option maxHeartbeats 3200000 in
theorem inRing_any (b off cap : Nat) (R : List Xy) (cx cy : Int) (w : World) (hbw : b < w.heap.size) (hrows : RowsAt w b off 2 (R.map Xy.row)) (h0 : 0 < R.length) (hm : R.length ≤ maxLen) :
    Calls Try.prog 125 #[.slice (some ⟨b, off, none⟩) R.length cap, .agg #[.int .i64 cx, .int .i64 cy]] w fun r w' => r = .returned (.bool (inRingB R ⟨cx, cy⟩)) ∧ Below w.heap.size w w' := by
  obtain ⟨n, hn⟩ : ∃ n, n = R.length := ⟨_, rfl⟩
  rw [← hn] at hm h0 ⊢
  have hnm' : n ≤ 9223372036854775807 := by unfold maxLen at hm; omega
  clear hm
  have HN := hid hn
  have HROW := hid hrows
  clear hn hrows
  obtain ⟨l, hl⟩ : ∃ l, R[n - 1]? = some l := ⟨_, List.getElem?_eq_getElem (by rw [← HN.out]; omega)⟩
  have HL := hid (show R.getLast? = some l by rw [List.getLast?_eq_getElem?, ← HN.out]; exact hl)
  obtain ⟨c0, c1⟩ := xys_cells HROW.out hl (Below.refl w.heap.size w) hbw
  clear hl
  obtain ⟨lx, ly⟩ := l
  obtain ⟨m, rfl⟩ : ∃ m, n = m + 1 := ⟨n - 1, by omega⟩
  rw [show m + 1 - 1 = m by omega] at c0 c1
  clear h0
  go_enter Try.func125, Try.ntmps125
  go_upto_region 3 with fail
  refine gen_world (fun W0 hW0 => ?_)
  have G3 := hid (show W0.heap[w.heap.size]? = some (.cells #[.int .i64 cx, .int .i64 cy] 137) by rw [hW0]; exact heap_alloc_past _ _ _ _ (heap_alloc_at _ _ _ rfl))
  have G6 := hid (show W0.heap[w.heap.size + 1]? = some (.cells #[.int .i64 lx, .int .i64 ly] 137) by rw [hW0]; exact heap_alloc_at _ _ _ (by simp))
  have HB0 := hid (show Below w.heap.size w W0 by rw [hW0]; (repeat' (first | (with_reducible exact Below.refl _ _) | (with_reducible assumption) | (with_reducible refine Below.alloc ?_ ?_ _) | (with_reducible refine below_setRow ?_ ?_ _) | go_size)))
  clear hW0 c0 c1
  go_wp2_with fail
  go_loopw [5, 17] (fun ov iv W => ∃ (i : Nat) (o : Bool) (p : Xy), i ≤ m + 1 ∧ iv = .int .i64 (i : Int) ∧ ov = .bool o ∧ o = oddB ⟨cx, cy⟩ ((xSides R).take i) ∧ ((⟨lx, ly⟩ : Xy) :: R)[i]? = some p ∧ ((xSides R).take i).any (sOn ⟨cx, cy⟩) = false ∧ W.heap[w.heap.size]? = some (.cells #[.int .i64 cx, .int .i64 cy] 137) ∧ W.heap[w.heap.size + 1]? = some (.cells #[.int .i64 p.x, .int .i64 p.y] 137) ∧ Below w.heap.size w W) (fun _ iv _ => m + 1 - (intOf iv).toNat)
  case atStart => exact ⟨0, false, ⟨lx, ly⟩, by omega, rfl, rfl, rfl, rfl, rfl, G3.out, G6.out, HB0.out⟩
  case round =>
    obtain ⟨i, o, p, hi, rfl, rfl, ho, hp, hno, g3, g6, hB⟩ := hrel
    have HO := hid ho
    have HP := hid hp
    have HNO := hid hno
    have HBwr := hid hB
    have H3 := hid g3
    have H6 := hid g6
    have hzwr := hB.size
    have hg6 : w.heap.size + 1 < wr.heap.size := (Array.getElem?_eq_some_iff.1 g6).1
    clear ho hp hno hB g3 g6 G3 G6 HB0
    by_cases hlt : i < m + 1
    · have d2 : decide ((i : Int) < (m : Int) + 1) = true := decide_eq_true (by omega)
      obtain ⟨q, hq⟩ : ∃ q, R[i]? = some q := ⟨_, List.getElem?_eq_getElem (by rw [← HN.out]; exact hlt)⟩
      obtain ⟨c0, c1⟩ := xys_cells HROW.out hq HBwr.out hbw
      have HE := hid (xSides_at HL.out HP.out hq)
      have HQ := hid (show ((⟨lx, ly⟩ : Xy) :: R)[i + 1]? = some q from hq)
      clear hq
      obtain ⟨px, py⟩ := p
      obtain ⟨qx, qy⟩ := q
      have a0 : wr.cell? ⟨w.heap.size, 0, none⟩ = some (.int .i64 cx) := (cell_row (j := 0) H3.out).trans rfl
      have a1 : wr.cell? ⟨w.heap.size, 1, none⟩ = some (.int .i64 cy) := (cell_row (j := 1) H3.out).trans rfl
      have b0 : wr.cell? ⟨w.heap.size + 1, 0, none⟩ = some (.int .i64 px) := (cell_row (j := 0) H6.out).trans rfl
      have b1 : wr.cell? ⟨w.heap.size + 1, 1, none⟩ = some (.int .i64 py) := (cell_row (j := 1) H6.out).trans rfl
      go_upto_region 6 with fail
      refine gen_world (fun W1 hW1 => ?_)
      have K3 := hid (show W1.heap[w.heap.size]? = some (.cells #[.int .i64 cx, .int .i64 cy] 137) by rw [hW1]; exact heap_alloc_past _ _ _ _ H3.out)
      have K6 := hid (show W1.heap[w.heap.size + 1]? = some (.cells #[.int .i64 px, .int .i64 py] 137) by rw [hW1]; exact heap_alloc_past _ _ _ _ H6.out)
      have K8 := hid (show W1.heap[wr.heap.size]? = some (.cells #[.int .i64 qx, .int .i64 qy] 137) by rw [hW1]; exact heap_alloc_at _ _ _ rfl)
      have HB1 := hid (show Below w.heap.size w W1 by rw [hW1]; exact HBwr.out.alloc hzwr _)
      clear hW1 a0 a1 b0 b1 c0 c1
      have hz1 := HB1.out.size
      cases hon : onV px py qx qy cx cy
      · have HON := hid hon
        have HNX := hid (any_snoc HE.out HNO.out hon)
        clear hon
        go_wp2_with (first | (refine wpList_load_at rfl 137 (.tmp 6) rfl rfl K6.out Try.underlying137 rfl size174 rfl ?_) | (refine wpList_load_at rfl 137 (.tmp 8) rfl rfl K8.out Try.underlying137 rfl size174 rfl ?_) | (refine wpList_load_at rfl 137 (.tmp 3) rfl rfl K3.out Try.underlying137 rfl size174 rfl ?_))
        refine (on_any _ _ _ _ _ _ _).mono ?_
        rintro r w2 ⟨rfl, hb⟩
        rw [HON.out]
        have HB2 := hid (HB1.out.trans (hb.mono hz1))
        have hz2 := HB2.out.size
        have L3 := hid (heap_still hb K3.out)
        have L6 := hid (heap_still hb K6.out)
        have L8 := hid (heap_still hb K8.out)
        clear hb
        cases hcr : crV px py qx qy cx cy
        · have HCR := hid hcr
          have HON1 := hid (show o = oddB ⟨cx, cy⟩ ((xSides R).take (i + 1)) by
            rw [oddB_next HE.out, show sCr ⟨cx, cy⟩ (⟨px, py⟩, ⟨qx, qy⟩) = false from hcr, HO.out]; rfl)
          clear hcr
          go_wp2_with (first | (refine wpList_load_at rfl 137 (.tmp 6) rfl rfl L6.out Try.underlying137 rfl size174 rfl ?_) | (refine wpList_load_at rfl 137 (.tmp 8) rfl rfl L8.out Try.underlying137 rfl size174 rfl ?_) | (refine wpList_load_at rfl 137 (.tmp 3) rfl rfl L3.out Try.underlying137 rfl size174 rfl ?_))
          refine (cross_any _ _ _ _ _ _ _).mono ?_
          rintro r w3 ⟨rfl, hb⟩
          rw [HCR.out]
          have HB3 := hid (HB2.out.trans (hb.mono hz2))
          have M3 := hid (heap_still hb L3.out)
          have M6 := hid (heap_still hb L6.out)
          have M8 := hid (heap_still hb L8.out)
          clear hb
          go_wp2_with (first | (refine wpList_store_at rfl 137 (.tmp 6) (.tmp 31) rfl rfl rfl M6.out size174 rfl rfl rfl ?_) | (refine wpList_load_at rfl 137 (.tmp 8) rfl rfl M8.out Try.underlying137 rfl size174 rfl ?_))
          refine ⟨⟨i + 1, _, ⟨qx, qy⟩, by omega, by go_num, rfl, HON1.out, HQ.out, HNX.out, ?_, setRow_heap _ _ _ _ _ _ M6.out, below_setRow HB3.out (by omega) _⟩, by simp [intOf]; omega⟩
          rw [setRow_other _ _ _ _ (by omega)]; exact M3.out
        · have HCR := hid hcr
          have HON1 := hid (show (!o) = oddB ⟨cx, cy⟩ ((xSides R).take (i + 1)) by
            rw [oddB_next HE.out, show sCr ⟨cx, cy⟩ (⟨px, py⟩, ⟨qx, qy⟩) = true from hcr, HO.out]; rfl)
          clear hcr
          go_wp2_with (first | (refine wpList_load_at rfl 137 (.tmp 6) rfl rfl L6.out Try.underlying137 rfl size174 rfl ?_) | (refine wpList_load_at rfl 137 (.tmp 8) rfl rfl L8.out Try.underlying137 rfl size174 rfl ?_) | (refine wpList_load_at rfl 137 (.tmp 3) rfl rfl L3.out Try.underlying137 rfl size174 rfl ?_))
          refine (cross_any _ _ _ _ _ _ _).mono ?_
          rintro r w3 ⟨rfl, hb⟩
          rw [HCR.out]
          have HB3 := hid (HB2.out.trans (hb.mono hz2))
          have M3 := hid (heap_still hb L3.out)
          have M6 := hid (heap_still hb L6.out)
          have M8 := hid (heap_still hb L8.out)
          clear hb
          go_wp2_with (first | (refine wpList_store_at rfl 137 (.tmp 6) (.tmp 31) rfl rfl rfl M6.out size174 rfl rfl rfl ?_) | (refine wpList_load_at rfl 137 (.tmp 8) rfl rfl M8.out Try.underlying137 rfl size174 rfl ?_))
          refine ⟨⟨i + 1, _, ⟨qx, qy⟩, by omega, by go_num, rfl, HON1.out, HQ.out, HNX.out, ?_, setRow_heap _ _ _ _ _ _ M6.out, below_setRow HB3.out (by omega) _⟩, by simp [intOf]; omega⟩
          rw [setRow_other _ _ _ _ (by omega)]; exact M3.out
      · have HON := hid hon
        have HV := hid (show inRingB R ⟨cx, cy⟩ = true from withinS_on HE.out hon)
        clear hon
        go_wp2_with (first | (refine wpList_load_at rfl 137 (.tmp 6) rfl rfl K6.out Try.underlying137 rfl size174 rfl ?_) | (refine wpList_load_at rfl 137 (.tmp 8) rfl rfl K8.out Try.underlying137 rfl size174 rfl ?_) | (refine wpList_load_at rfl 137 (.tmp 3) rfl rfl K3.out Try.underlying137 rfl size174 rfl ?_))
        refine (on_any _ _ _ _ _ _ _).mono ?_
        rintro r w2 ⟨rfl, hb⟩
        rw [HON.out]
        have HB2 := hid (HB1.out.trans (hb.mono hz1))
        go_wp2_with fail
        go_ret
        exact ⟨by rw [HV.out]; rfl, HB2.out⟩
    · obtain rfl : i = m + 1 := by omega
      have d2 : decide (((m + 1 : Nat) : Int) < (m : Int) + 1) = false := decide_eq_false (by omega)
      have d3 : decide ((m : Int) + 1 < (m : Int) + 1) = false := decide_eq_false (by omega)
      have HV := hid (show inRingB R ⟨cx, cy⟩ = o by
        have h1 := HNO.out
        have h2 := HO.out
        rw [HN.out, ← xSides_len, List.take_length] at h1 h2
        rw [h2]
        exact withinS_end h1)
      go_wp2_with fail
      go_ret
      exact ⟨by rw [HV.out]; rfl, HBwr.out⟩
end Go.Proofs.Ytpablkmdpoombaa
