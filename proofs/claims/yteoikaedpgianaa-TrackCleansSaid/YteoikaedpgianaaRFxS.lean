/- Lists of fixes and of issues compared: SameFixes 67, SameIssues 68. (Printed by wip/gen_fxs.py.) -/
import Derived.Test.YteoikaedpgianaaRFxQ
namespace Go.Proofs.Yteoikaedpgianaa
open Go.RowKit Go.Sort Go.Lib Go.Shelf Go.Proofs

theorem flat124 : flatOf Try.prog 10 124 = some (List.replicate 2 (some .i64)) := by kernel_rfl
theorem eqIs (p : Int × Int) (W : World) : (Op.equalIn 10000 124 (.agg #[.int .i64 p.1, .int .i64 p.2]) (.agg #[.int .i64 p.1, .int .i64 p.2])).run Try.prog W = .ok true W := by
  have h := equal_struct Try.underlying124 flat124 (irow p) (irow p) rfl rfl W
  have e : sameL (irow p) (irow p) = true := by
    show sameL (ints [p.1, p.2]) (ints [p.1, p.2]) = true
    rw [sameL_ints rfl]
    simp
  rw [e] at h
  exact h
theorem eqF1 (p : Fx) (W : World) : (Op.equalIn 10000 55 (.agg #[.int .i64 p.t, .int .i64 p.x, .int .i64 p.y, .int .i64 p.z, .int .i64 p.e, .int .i64 p.a, .int .i64 p.b, .int .i64 p.c, .int .i64 p.d, .int .i64 p.g]) (.agg #[.int .i64 p.t, .int .i64 p.x, .int .i64 p.y, .int .i64 p.z, .int .i64 p.e, .int .i64 p.a, .int .i64 p.b, .int .i64 p.c, .int .i64 p.d, .int .i64 p.g])).run Try.prog W = .ok true W := by
  have h := eqFx p p W
  rw [decide_eq_true rfl] at h
  exact h
theorem FxV.opens {W : World} {v : Value} {L : List Fx} (h : FxV W v L) : ∃ ad c, v = .slice ad L.length c ∧ ∀ (i : Nat) (x : Fx), L[i]? = some x → ∃ b off, ad = some ⟨b, off, none⟩ ∧ b < W.heap.size ∧ RowsAt W b off 10 (L.map Fx.row) := by
  obtain ⟨ad, c, rfl, _⟩ := h.open
  exact ⟨ad, c, rfl, fun i x hx => h.at hx⟩
theorem IssV.opens {W : World} {v : Value} {L : List (Int × Int)} (h : IssV W v L) : ∃ ad c, v = .slice ad L.length c ∧ ∀ (i : Nat) (x : Int × Int), L[i]? = some x → ∃ b off, ad = some ⟨b, off, none⟩ ∧ b < W.heap.size ∧ RowsAt W b off 2 (L.map irow) := by
  rcases h with ⟨a, c, rfl, rfl⟩ | ⟨b, c, rfl, hb, hr⟩
  · exact ⟨a, c, rfl, fun i x hx => by simp at hx⟩
  · exact ⟨_, c, rfl, fun i x hx => ⟨b, 0, rfl, hb, hr⟩⟩
theorem iss_off {W : World} {g off : Nat} {L : List (Int × Int)} (h : RowsAt W g off 2 (L.map irow)) {i : Nat} {x : Int × Int} (hx : L[i]? = some x) (o : Nat) (ho : o = off + i * 2) : ∀ j, j < 2 → W.cell? ⟨g, o + j, none⟩ = (irow x)[j]? := fun j hj => by
  subst ho
  exact h i (irow x) (by rw [List.getElem?_map, hx]; rfl) j hj

set_option maxRecDepth 100000 in
set_option maxHeartbeats 1600000 in
theorem sameFx_any (v1 v2 : Value) (l : List (Fx)) (w : World) (hl : l.length ≤ 100000) (h1 : FxV w v1 l) (h2 : FxV w v2 l) :
    Calls Try.prog 67 #[v1, v2] w fun r w' => r = .returned (.bool true) ∧ Below w.heap.size w w' := by
  obtain ⟨n, hn⟩ : ∃ n, n = l.length := ⟨_, rfl⟩
  obtain ⟨ad1, c1, e1, HV1⟩ := h1.opens
  obtain ⟨ad2, c2, e2, HV2⟩ := h2.opens
  rw [← hn] at e1 e2 hl
  subst e1 e2
  have HN := hid hn
  have HV1 := hid HV1
  have HV2 := hid HV2
  clear h1 h2 hn
  go_enter Try.func67, Try.ntmps67
  go_wp2_with fail
  go_loopw [13] (fun iv W => ∃ i : Nat, i ≤ n ∧ iv = .int .i64 (i : Int) ∧ Below w.heap.size w W) (fun iv _ => n - (intOf iv).toNat)
  case atStart => exact ⟨0, by omega, rfl, Below.refl _ _⟩
  case round =>
    obtain ⟨i, hi, rfl, hB⟩ := hrel
    have HB := hid hB
    clear hB
    by_cases hlt : i < n
    · obtain ⟨x, hx⟩ : ∃ x, l[i]? = some x := ⟨_, List.getElem?_eq_getElem (by rw [← HN.out]; exact hlt)⟩
      obtain ⟨k1, o1, ha1, hb1, hr1⟩ := HV1.out i x hx
      obtain ⟨k2, o2, ha2, hb2, hr2⟩ := HV2.out i x hx
      subst ha1 ha2
      have HR1 := hid (hr1.still HB.out hb1)
      have HR2 := hid (hr2.still HB.out hb2)
      have a0 := fun d os => cell_regrown (w := wr) (a := ⟨k1, o1 + i * 10, none⟩) (v := .int .i64 x.t) (row_off HR1.out hx (o1 + i * 10) rfl 0 (by decide)) d os
      have a1 := fun d os => cell_regrown (w := wr) (a := ⟨k1, o1 + i * 10 + 1, none⟩) (v := .int .i64 x.x) (row_off HR1.out hx (o1 + i * 10) rfl 1 (by decide)) d os
      have a2 := fun d os => cell_regrown (w := wr) (a := ⟨k1, o1 + i * 10 + 2, none⟩) (v := .int .i64 x.y) (row_off HR1.out hx (o1 + i * 10) rfl 2 (by decide)) d os
      have a3 := fun d os => cell_regrown (w := wr) (a := ⟨k1, o1 + i * 10 + 3, none⟩) (v := .int .i64 x.z) (row_off HR1.out hx (o1 + i * 10) rfl 3 (by decide)) d os
      have a4 := fun d os => cell_regrown (w := wr) (a := ⟨k1, o1 + i * 10 + 4, none⟩) (v := .int .i64 x.e) (row_off HR1.out hx (o1 + i * 10) rfl 4 (by decide)) d os
      have a5 := fun d os => cell_regrown (w := wr) (a := ⟨k1, o1 + i * 10 + 5, none⟩) (v := .int .i64 x.a) (row_off HR1.out hx (o1 + i * 10) rfl 5 (by decide)) d os
      have a6 := fun d os => cell_regrown (w := wr) (a := ⟨k1, o1 + i * 10 + 6, none⟩) (v := .int .i64 x.b) (row_off HR1.out hx (o1 + i * 10) rfl 6 (by decide)) d os
      have a7 := fun d os => cell_regrown (w := wr) (a := ⟨k1, o1 + i * 10 + 7, none⟩) (v := .int .i64 x.c) (row_off HR1.out hx (o1 + i * 10) rfl 7 (by decide)) d os
      have a8 := fun d os => cell_regrown (w := wr) (a := ⟨k1, o1 + i * 10 + 8, none⟩) (v := .int .i64 x.d) (row_off HR1.out hx (o1 + i * 10) rfl 8 (by decide)) d os
      have a9 := fun d os => cell_regrown (w := wr) (a := ⟨k1, o1 + i * 10 + 9, none⟩) (v := .int .i64 x.g) (row_off HR1.out hx (o1 + i * 10) rfl 9 (by decide)) d os
      have b0 := fun d os => cell_regrown (w := wr) (a := ⟨k2, o2 + i * 10, none⟩) (v := .int .i64 x.t) (row_off HR2.out hx (o2 + i * 10) rfl 0 (by decide)) d os
      have b1 := fun d os => cell_regrown (w := wr) (a := ⟨k2, o2 + i * 10 + 1, none⟩) (v := .int .i64 x.x) (row_off HR2.out hx (o2 + i * 10) rfl 1 (by decide)) d os
      have b2 := fun d os => cell_regrown (w := wr) (a := ⟨k2, o2 + i * 10 + 2, none⟩) (v := .int .i64 x.y) (row_off HR2.out hx (o2 + i * 10) rfl 2 (by decide)) d os
      have b3 := fun d os => cell_regrown (w := wr) (a := ⟨k2, o2 + i * 10 + 3, none⟩) (v := .int .i64 x.z) (row_off HR2.out hx (o2 + i * 10) rfl 3 (by decide)) d os
      have b4 := fun d os => cell_regrown (w := wr) (a := ⟨k2, o2 + i * 10 + 4, none⟩) (v := .int .i64 x.e) (row_off HR2.out hx (o2 + i * 10) rfl 4 (by decide)) d os
      have b5 := fun d os => cell_regrown (w := wr) (a := ⟨k2, o2 + i * 10 + 5, none⟩) (v := .int .i64 x.a) (row_off HR2.out hx (o2 + i * 10) rfl 5 (by decide)) d os
      have b6 := fun d os => cell_regrown (w := wr) (a := ⟨k2, o2 + i * 10 + 6, none⟩) (v := .int .i64 x.b) (row_off HR2.out hx (o2 + i * 10) rfl 6 (by decide)) d os
      have b7 := fun d os => cell_regrown (w := wr) (a := ⟨k2, o2 + i * 10 + 7, none⟩) (v := .int .i64 x.c) (row_off HR2.out hx (o2 + i * 10) rfl 7 (by decide)) d os
      have b8 := fun d os => cell_regrown (w := wr) (a := ⟨k2, o2 + i * 10 + 8, none⟩) (v := .int .i64 x.d) (row_off HR2.out hx (o2 + i * 10) rfl 8 (by decide)) d os
      have b9 := fun d os => cell_regrown (w := wr) (a := ⟨k2, o2 + i * 10 + 9, none⟩) (v := .int .i64 x.g) (row_off HR2.out hx (o2 + i * 10) rfl 9 (by decide)) d os
      have q1 := eqF1 x
      clear hr1 hr2 hx
      go_wp2_with fail
      refine wp_region_quiet_below (by kernel_rfl) (by kernel_rfl) ?_
      repeat (first | go_big_quiet_step (fail) | quiet_step (fail))
      refine wpQuiet_nil ?_
      intro _ hw'
      obtain ⟨⟨dqV, osV⟩, hw2⟩ := hw'
      subst hw2
      have HQV := hid (below_regrown wr dqV osV)
      generalize Sort.grow (redrawn wr dqV) osV = V at HQV ⊢
      have hsV := HQV.out.size
      clear a0 b0 a1 b1 a2 b2 a3 b3 a4 b4 a5 b5 a6 b6 a7 b7 a8 b8 a9 b9
      go_wp2_with fail
      exact ⟨⟨i + 1, by omega, by go_num, HB.out.trans (HQV.out.mono HB.out.size)⟩, by simp [intOf]; omega⟩
    · have e3 : decide ((i : Int) < (n : Int)) = false := decide_eq_false (by omega)
      go_wp2_with fail
      go_ret
      exact ⟨rfl, HB.out⟩

set_option maxRecDepth 100000 in
set_option maxHeartbeats 1600000 in
theorem sameIss_any (v1 v2 : Value) (l : List (Int × Int)) (w : World) (hl : l.length ≤ 100000) (h1 : IssV w v1 l) (h2 : IssV w v2 l) :
    Calls Try.prog 68 #[v1, v2] w fun r w' => r = .returned (.bool true) ∧ Below w.heap.size w w' := by
  obtain ⟨n, hn⟩ : ∃ n, n = l.length := ⟨_, rfl⟩
  obtain ⟨ad1, c1, e1, HV1⟩ := h1.opens
  obtain ⟨ad2, c2, e2, HV2⟩ := h2.opens
  rw [← hn] at e1 e2 hl
  subst e1 e2
  have HN := hid hn
  have HV1 := hid HV1
  have HV2 := hid HV2
  clear h1 h2 hn
  go_enter Try.func68, Try.ntmps68
  go_wp2_with fail
  go_loopw [13] (fun iv W => ∃ i : Nat, i ≤ n ∧ iv = .int .i64 (i : Int) ∧ Below w.heap.size w W) (fun iv _ => n - (intOf iv).toNat)
  case atStart => exact ⟨0, by omega, rfl, Below.refl _ _⟩
  case round =>
    obtain ⟨i, hi, rfl, hB⟩ := hrel
    have HB := hid hB
    clear hB
    by_cases hlt : i < n
    · obtain ⟨x, hx⟩ : ∃ x, l[i]? = some x := ⟨_, List.getElem?_eq_getElem (by rw [← HN.out]; exact hlt)⟩
      obtain ⟨k1, o1, ha1, hb1, hr1⟩ := HV1.out i x hx
      obtain ⟨k2, o2, ha2, hb2, hr2⟩ := HV2.out i x hx
      subst ha1 ha2
      have HR1 := hid (hr1.still HB.out hb1)
      have HR2 := hid (hr2.still HB.out hb2)
      have a0 := fun d os => cell_regrown (w := wr) (a := ⟨k1, o1 + i * 2, none⟩) (v := .int .i64 x.1) (iss_off HR1.out hx (o1 + i * 2) rfl 0 (by decide)) d os
      have a1 := fun d os => cell_regrown (w := wr) (a := ⟨k1, o1 + i * 2 + 1, none⟩) (v := .int .i64 x.2) (iss_off HR1.out hx (o1 + i * 2) rfl 1 (by decide)) d os
      have b0 := fun d os => cell_regrown (w := wr) (a := ⟨k2, o2 + i * 2, none⟩) (v := .int .i64 x.1) (iss_off HR2.out hx (o2 + i * 2) rfl 0 (by decide)) d os
      have b1 := fun d os => cell_regrown (w := wr) (a := ⟨k2, o2 + i * 2 + 1, none⟩) (v := .int .i64 x.2) (iss_off HR2.out hx (o2 + i * 2) rfl 1 (by decide)) d os
      have q1 := eqIs x
      clear hr1 hr2 hx
      go_wp2_with fail
      refine wp_region_quiet_below (by kernel_rfl) (by kernel_rfl) ?_
      repeat (first | go_big_quiet_step (fail) | quiet_step (fail))
      refine wpQuiet_nil ?_
      intro _ hw'
      obtain ⟨⟨dqV, osV⟩, hw2⟩ := hw'
      subst hw2
      have HQV := hid (below_regrown wr dqV osV)
      generalize Sort.grow (redrawn wr dqV) osV = V at HQV ⊢
      have hsV := HQV.out.size
      clear a0 b0 a1 b1
      go_wp2_with fail
      exact ⟨⟨i + 1, by omega, by go_num, HB.out.trans (HQV.out.mono HB.out.size)⟩, by simp [intOf]; omega⟩
    · have e3 : decide ((i : Int) < (n : Int)) = false := decide_eq_false (by omega)
      go_wp2_with fail
      go_ret
      exact ⟨rfl, HB.out⟩
end Go.Proofs.Yteoikaedpgianaa
