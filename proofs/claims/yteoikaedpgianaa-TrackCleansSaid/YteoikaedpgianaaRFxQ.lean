/- The program's Parts (69) of fixes that are valid. (Printed by wip/gen_fxq.py.) -/
import Derived.Test.YteoikaedpgianaaRFxP
import Derived.Deep.CutRange
namespace Go.Proofs.Yteoikaedpgianaa
open Go.RowKit Go.Sort Go.Lib Go.Shelf Go.Proofs

/-- the fix at place i comes behind the one ahead of it -/
def ascF (L : List Fx) (i : Nat) : Bool := decide (i = 0) || decide ((L[i - 1]!).t < (L[i]!).t)
theorem ascF_at {L : List Fx} {i : Nat} {y x : Fx} (h0 : 0 < i) (hy : L[i - 1]? = some y) (hx : L[i]? = some x) : ascF L i = decide (y.t < x.t) := by
  obtain ⟨h1, e1⟩ := List.getElem?_eq_some_iff.1 hy
  obtain ⟨h2, e2⟩ := List.getElem?_eq_some_iff.1 hx
  unfold ascF
  rw [getElem!_pos L _ h1, getElem!_pos L _ h2, e1, e2, decide_eq_false (by omega), Bool.false_or]
theorem row_off {W : World} {g off : Nat} {L : List Fx} (h : RowsAt W g off 10 (L.map Fx.row)) {i : Nat} {x : Fx} (hx : L[i]? = some x) (o : Nat) (ho : o = off + i * 10) : ∀ j, j < 10 → W.cell? ⟨g, o + j, none⟩ = x.row[j]? := fun j hj => by
  subst ho
  exact h i x.row (by rw [List.getElem?_map, hx]; rfl) j hj
theorem FxV.at {W : World} {ad : Option Addr} {n c : Nat} {L : List Fx} (h : FxV W (.slice ad n c) L) {i : Nat} {x : Fx} (hx : L[i]? = some x) : ∃ b off, ad = some ⟨b, off, none⟩ ∧ b < W.heap.size ∧ RowsAt W b off 10 (L.map Fx.row) := by
  rcases h with ⟨_, rfl⟩ | ⟨a, cap, hv, hr⟩
  · simp at hx
  · injection hv with hv _ _
    rcases hr with rfl | ⟨b, off, rfl, hb, hr⟩
    · simp at hx
    · exact ⟨b, off, hv, hb, hr⟩
theorem info106 : (Try.prog.info? 106).map (fun i => (i.zero, i.size, i.bytes)) = some (some (.slice none 0 0), 1, 24) := by kernel_rfl
theorem cut_yes {m0 m1 : Int} {L : List Fx} {i : Nat} {y x : Fx} (hy : L[i - 1]? = some y) (hx : L[i]? = some x) (h : m0 < x.t - y.t ∨ nearB m1 y x = false) : cutG Fx.t (nearB m1) m0 L i = true := by
  unfold cutG
  rw [hy, hx]
  rcases h with h | h
  · simp [h]
  · simp [h]
theorem cut_no {m0 m1 : Int} {L : List Fx} {i : Nat} {y x : Fx} (h0 : 0 < i) (hy : L[i - 1]? = some y) (hx : L[i]? = some x) (h : ¬ m0 < x.t - y.t) (h2 : nearB m1 y x = true) : cutG Fx.t (nearB m1) m0 L i = false := by
  unfold cutG
  rw [hy, hx]
  simp [h, h2]
  omega
theorem parts_count {α : Type} {t : α → Int} {near : α → α → Bool} {gap : Int} {K : List α} : ∀ m, (partsG t near gap K m).length ≤ m
  | 0 => Nat.le_refl _
  | m + 1 => by
    have ih := parts_count (t := t) (near := near) (gap := gap) (K := K) m
    have hs : ∀ (P : List (List α)) (f : α), (snocG P f).length ≤ P.length + 1 := fun P f => by
      induction P with
      | nil => simp [snocG]
      | cons p P ih2 =>
        cases P with
        | nil => simp [snocG]
        | cons q P => show (p :: snocG (q :: P) f).length ≤ _; rw [List.length_cons, List.length_cons]; omega
    rw [partsG]
    split
    · omega
    · rename_i f hf
      split
      · rw [List.length_append, List.length_singleton]; omega
      · have := hs (partsG t near gap K m) f
        omega
theorem rows_one0 {W : World} {q : Nat} (h : W.heap[q]? = some (.cells #[.slice none 0 0] 106)) : RowsAt W q 0 1 [[.slice none 0 0]] := fun i r hi j hj => by
  match i, hi with
  | 0, hi =>
    injection hi with hi
    subst hi
    rw [cell_row h]
    match j, hj with
    | 0, _ => rfl
theorem wide_none : Wide 1 [[Value.slice none 0 0]] := Wide.one rfl (fun u hu => by rw [List.mem_singleton.1 hu]; rfl)
set_option maxRecDepth 100000 in
set_option maxHeartbeats 3200000 in
theorem xParts_bad (v : Value) (xs : List Fx) (m0 m1 m2 m3 : Int) (w : World) (hv : FxV w v xs) (hn : xs.length ≤ 1000) (hr : rulesB m0 m1 m2 m3 = true) (hok : ∀ p ∈ xs, p.ok = true) (hasc : allN (ascF xs) xs.length = false) :
    Calls Try.prog 69 #[v, .agg #[.int .i64 m0, .int .i64 m1, .int .i64 m2, .int .i64 m3]] w fun r w' => r = .returned (.tuple #[.agg #[.slice none 0 0], .int .i64 2]) ∧ Below w.heap.size w w' := by
  obtain ⟨ad, c, rfl, hrow⟩ := hv.open
  have HV := hid hv
  have HT := hid (show ∀ W, Below w.heap.size w W → Calls Try.prog 115 #[.slice ad xs.length c, .agg #[.int .i64 m0, .int .i64 m1, .int .i64 m2, .int .i64 m3]] W fun e w' => e = .returned (.int .i64 0) ∧ Below W.heap.size W w' from fun W h => by
    have h9 := xRefuse_any ad xs.length c (fixesF xs) m0 m1 m2 m3 W (by omega) (hrow.still h)
    rwa [show refV m0 m1 m2 m3 xs.length (fixesF xs) = 0 from refL_ok hr hok (by omega)] at h9)
  have HOK := hid hok
  have HBw := hid (Below.refl w.heap.size w)
  have HR := hid hr
  clear hv hrow hr hok
  obtain ⟨n, hnn⟩ : ∃ n, n = xs.length := ⟨_, rfl⟩
  rw [← hnn] at HT HV hn hasc ⊢
  have HN := hid hnn
  have HAS := hid hasc
  clear hnn hasc
  go_enter Try.func69, Try.ntmps69
  go_wp2_with fail
  have hB9 := HBw.out
  refine (HT.out _ (by (repeat' (first | (with_reducible exact Below.refl _ _) | (with_reducible assumption) | (with_reducible refine Below.alloc ?_ ?_ _) | (with_reducible refine Below.drew ?_) | (with_reducible refine below_drewN ?_ _) | (with_reducible refine Below.setCell ?_ ?_ _) | (with_reducible refine below_setRow ?_ ?_ _) | go_size)))).mono ?_
  rintro r w1 ⟨rfl, hb⟩
  have HBw1 := hid (show Below w.heap.size w w1 by have hB0 := HBw.out; refine Below.trans ?_ (hb.mono ?_); (focus ((repeat' (first | (with_reducible exact Below.refl _ _) | (with_reducible assumption) | (with_reducible refine Below.alloc ?_ ?_ _) | (with_reducible refine Below.drew ?_) | (with_reducible refine below_drewN ?_ _) | (with_reducible refine Below.setCell ?_ ?_ _) | (with_reducible refine below_setRow ?_ ?_ _) | go_size)); done)); (focus (first | (simp; done) | (simp; omega) | (have hB1 := hB0.size; simp; omega))))
  have hsw1 := hb.size
  (try simp at hsw1)
  have hzw1 : w.heap.size < w1.heap.size := by omega
  obtain ⟨hcw1, hfw1⟩ := bcell hb
  have hkw1 := hid (fun n x => @heap_still _ _ n x hb)
  clear hb
  clear hB9
  have HM1 := hid (hkw1.out _ _ (by repeat' (first | (refine heap_alloc_at _ _ _ ?_; (first | rfl | (simp; done) | (simp; omega))) | (refine heap_alloc_past _ _ _ _ ?_))) : w1.heap[w.heap.size]? = some (.cells #[.int .i64 m0, .int .i64 m1, .int .i64 m2, .int .i64 m3] 61))
  have HR1 := hid (hkw1.out _ _ (by repeat' (first | (refine heap_alloc_at _ _ _ ?_; (first | rfl | (simp; done) | (simp; omega))) | (refine heap_alloc_past _ _ _ _ ?_))) : w1.heap[w.heap.size + 1]? = some (.cells #[.slice none 0 0] 64))
  have HS1 := hid (show w.heap.size + 1 < w1.heap.size from (Array.getElem?_eq_some_iff.1 HR1.out).1)
  clear HT HBw hsw1 hzw1 hkw1 hcw1 hfw1
  go_wp2_with fail
  go_loopw [21] (fun iv W => ∃ i : Nat, i ≤ n ∧ iv = .int .i64 (i : Int) ∧ allN (ascF xs) i = true ∧ Below w1.heap.size w1 W) (fun iv _ => n - (intOf iv).toNat)
  case atStart => exact ⟨0, by omega, rfl, allN_iff.2 (fun j hj => absurd hj (Nat.not_lt_zero _)), Below.refl _ _⟩
  case round =>
    obtain ⟨i, hi, rfl, hA0, hB⟩ := hrel
    have hA := hid hA0
    clear hA0
    have HB := hid hB
    clear hB
    by_cases hlt : i < n
    · have e3 : decide ((i : Int) < (n : Int)) = true := decide_eq_true (by omega)
      obtain ⟨x, hx⟩ : ∃ x, xs[i]? = some x := ⟨_, List.getElem?_eq_getElem (by rw [← HN.out]; exact hlt)⟩
      obtain ⟨b, off, ha, hb, hrow⟩ := HV.out.at hx
      subst ha
      have hrw : RowsAt wr b off 10 (xs.map Fx.row) := (hrow.still HBw1.out hb).still HB.out (by have := HS1.out; omega)
      by_cases h0 : i = 0
      · have d0 : decide ((0 : Int) < (i : Int)) = false := decide_eq_false (by omega)
        have hi0 : ¬ 0 < i := by omega
        have d0n : decide (0 < i) = false := decide_eq_false hi0
        have HA1 := hid (show allN (ascF xs) (i + 1) = true from allN_iff.2 fun j hj => by rw [show j = 0 by omega]; rfl)
        clear h0 hx hrow hrw
        go_wp2_with fail
        refine wp_region_quiet_below (by kernel_rfl) (by kernel_rfl) ?_
        repeat (first | go_big_quiet_step (fail) | quiet_step (fail))
        refine wpQuiet_nil ?_
        intro _ hw'
        obtain ⟨⟨dqV, osV⟩, hw2⟩ := hw'
        subst hw2
        have HQV := hid (below_regrown wr dqV osV)
        generalize Sort.grow (redrawn wr dqV) osV = V at HQV ⊢
        have hsV := HQV.out.size
        go_wp2_with fail
        exact ⟨⟨i + 1, by omega, by go_num, HA1.out, HB.out.trans (HQV.out.mono HB.out.size)⟩, by simp [intOf]; omega⟩
      · have hi0 : 0 < i := by omega
        have d0 : decide ((0 : Int) < (i : Int)) = true := decide_eq_true (by omega)
        obtain ⟨y, hy⟩ : ∃ y, xs[i - 1]? = some y := ⟨_, List.getElem?_eq_getElem (by rw [← HN.out]; omega)⟩
        have cx := fun d os => cell_regrown (w := wr) (a := ⟨b, off + i * 10, none⟩) (v := .int .i64 x.t) (row_off hrw hx (off + i * 10) rfl 0 (by decide)) d os
        have cy := fun d os => cell_regrown (w := wr) (a := ⟨b, off + (i - 1) * 10, none⟩) (v := .int .i64 y.t) (row_off hrw hy (off + (i - 1) * 10) rfl 0 (by decide)) d os
        by_cases hlt2 : y.t < x.t
        · have hA1 : allN (ascF xs) (i + 1) = true := allN_iff.2 fun j hj => by
            by_cases hji : j = i
            · subst hji; rw [ascF_at hi0 hy hx]; exact decide_eq_true hlt2
            · exact allN_iff.1 hA.out j (by omega)
          have HA1 := hid hA1
          have d2 : decide (x.t ≤ y.t) = false := decide_eq_false (by omega)
          clear hx hy hrow hrw hA1
          go_wp2_with fail
          refine wp_region_quiet_below (by kernel_rfl) (by kernel_rfl) ?_
          repeat (first | go_big_quiet_step (fail) | quiet_step (fail))
          refine wpQuiet_nil ?_
          intro _ hw'
          obtain ⟨⟨dqV, osV⟩, hw2⟩ := hw'
          subst hw2
          have HQV := hid (below_regrown wr dqV osV)
          generalize Sort.grow (redrawn wr dqV) osV = V at HQV ⊢
          have hsV := HQV.out.size
          go_wp2_with fail
          exact ⟨⟨i + 1, by omega, by go_num, HA1.out, HB.out.trans (HQV.out.mono HB.out.size)⟩, by simp [intOf]; omega⟩
        · have d2 : decide (x.t ≤ y.t) = true := decide_eq_true (by omega)
          clear hx hy hrow hrw
          go_wp2_with fail
          refine wp_region_quiet_below (by kernel_rfl) (by kernel_rfl) ?_
          repeat (first | go_big_quiet_step (fail) | quiet_step (fail))
          refine wpQuiet_nil ?_
          intro _ hw'
          obtain ⟨⟨dqV, osV⟩, hw2⟩ := hw'
          subst hw2
          have HQV := hid (below_regrown wr dqV osV)
          generalize Sort.grow (redrawn wr dqV) osV = V at HQV ⊢
          have hsV := HQV.out.size
          have B1 := hid (heap_still HQV.out (heap_still HB.out HR1.out))
          have HBV := hid (HBw1.out.trans ((HB.out.trans (HQV.out.mono HB.out.size)).mono HBw1.out.size))
          go_wp2_with (refine wpList_store_at rfl 64 (.tmp 4) (.tmp 40) rfl rfl rfl B1.out size64 rfl rfl rfl ?_)
          refine bodyPost_ret (results_at2 rfl rfl (setRow_heap _ _ _ _ _ _ B1.out) Try.underlying64 rfl size64 rfl) rfl ?_
          exact ⟨rfl, below_setRow HBV.out (by omega) _⟩
    · exfalso
      have h1 := HAS.out
      rw [show n = i by omega, hA.out] at h1
      cases h1
set_option maxRecDepth 100000 in
set_option maxHeartbeats 6400000 in
theorem xParts_ok (v : Value) (xs : List Fx) (m0 m1 m2 m3 : Int) (w : World) (hv : FxV w v xs) (hn : xs.length ≤ 1000) (hr : rulesB m0 m1 m2 m3 = true) (hok : ∀ p ∈ xs, p.ok = true) (hasc : allN (ascF xs) xs.length = true) :
    Calls Try.prog 69 #[v, .agg #[.int .i64 m0, .int .i64 m1, .int .i64 m2, .int .i64 m3]] w fun r w' => (∃ tv vs T, r = .returned (.tuple #[.agg #[tv], .int .i64 0]) ∧ PtV w' T tv vs (partsG Fx.t (nearB m1) m0 xs xs.length) ∧ w.heap.size ≤ T) ∧ Below w.heap.size w w' := by
  obtain ⟨ad, c, rfl, hrow⟩ := hv.open
  have hm : 0 ≤ m1 ∧ m1 ≤ 1000000 := by simp [rulesB, inB] at hr; omega
  have hm0 : 1 ≤ m0 ∧ m0 ≤ 10000000 := by simp [rulesB, inB] at hr; omega
  have HV := hid hv
  have HT := hid (show ∀ W, Below w.heap.size w W → Calls Try.prog 115 #[.slice ad xs.length c, .agg #[.int .i64 m0, .int .i64 m1, .int .i64 m2, .int .i64 m3]] W fun e w' => e = .returned (.int .i64 0) ∧ Below W.heap.size W w' from fun W h => by
    have h9 := xRefuse_any ad xs.length c (fixesF xs) m0 m1 m2 m3 W (by omega) (hrow.still h)
    rwa [show refV m0 m1 m2 m3 xs.length (fixesF xs) = 0 from refL_ok hr hok (by omega)] at h9)
  have HOK := hid hok
  have HBw := hid (Below.refl w.heap.size w)
  have HR := hid hr
  clear hv hrow hr hok
  obtain ⟨n, hnn⟩ : ∃ n, n = xs.length := ⟨_, rfl⟩
  rw [← hnn] at HT HV hn hasc ⊢
  have HN := hid hnn
  have HAS := hid hasc
  clear hnn hasc
  go_enter Try.func69, Try.ntmps69
  go_wp2_with fail
  have hB9 := HBw.out
  refine (HT.out _ (by (repeat' (first | (with_reducible exact Below.refl _ _) | (with_reducible assumption) | (with_reducible refine Below.alloc ?_ ?_ _) | (with_reducible refine Below.drew ?_) | (with_reducible refine below_drewN ?_ _) | (with_reducible refine Below.setCell ?_ ?_ _) | (with_reducible refine below_setRow ?_ ?_ _) | go_size)))).mono ?_
  rintro r w1 ⟨rfl, hb⟩
  have HBw1 := hid (show Below w.heap.size w w1 by have hB0 := HBw.out; refine Below.trans ?_ (hb.mono ?_); (focus ((repeat' (first | (with_reducible exact Below.refl _ _) | (with_reducible assumption) | (with_reducible refine Below.alloc ?_ ?_ _) | (with_reducible refine Below.drew ?_) | (with_reducible refine below_drewN ?_ _) | (with_reducible refine Below.setCell ?_ ?_ _) | (with_reducible refine below_setRow ?_ ?_ _) | go_size)); done)); (focus (first | (simp; done) | (simp; omega) | (have hB1 := hB0.size; simp; omega))))
  have hsw1 := hb.size
  (try simp at hsw1)
  have hzw1 : w.heap.size < w1.heap.size := by omega
  obtain ⟨hcw1, hfw1⟩ := bcell hb
  have hkw1 := hid (fun n x => @heap_still _ _ n x hb)
  clear hb
  clear hB9
  have HM1 := hid (hkw1.out _ _ (by repeat' (first | (refine heap_alloc_at _ _ _ ?_; (first | rfl | (simp; done) | (simp; omega))) | (refine heap_alloc_past _ _ _ _ ?_))) : w1.heap[w.heap.size]? = some (.cells #[.int .i64 m0, .int .i64 m1, .int .i64 m2, .int .i64 m3] 61))
  have HR1 := hid (hkw1.out _ _ (by repeat' (first | (refine heap_alloc_at _ _ _ ?_; (first | rfl | (simp; done) | (simp; omega))) | (refine heap_alloc_past _ _ _ _ ?_))) : w1.heap[w.heap.size + 1]? = some (.cells #[.slice none 0 0] 64))
  have HS1 := hid (show w.heap.size + 1 < w1.heap.size from (Array.getElem?_eq_some_iff.1 HR1.out).1)
  clear HT HBw hsw1 hzw1 hkw1 hcw1 hfw1
  go_wp2_with fail
  go_loopw [21] (fun iv W => ∃ i : Nat, i ≤ n ∧ iv = .int .i64 (i : Int) ∧ Below w1.heap.size w1 W) (fun iv _ => n - (intOf iv).toNat)
  case atStart => exact ⟨0, by omega, rfl, Below.refl _ _⟩
  case round =>
    obtain ⟨i, hi, rfl, hB⟩ := hrel
    have HB := hid hB
    clear hB
    by_cases hlt : i < n
    · have e3 : decide ((i : Int) < (n : Int)) = true := decide_eq_true (by omega)
      obtain ⟨x, hx⟩ : ∃ x, xs[i]? = some x := ⟨_, List.getElem?_eq_getElem (by rw [← HN.out]; exact hlt)⟩
      obtain ⟨b, off, ha, hb, hrow⟩ := HV.out.at hx
      subst ha
      have hrw : RowsAt wr b off 10 (xs.map Fx.row) := (hrow.still HBw1.out hb).still HB.out (by have := HS1.out; omega)
      by_cases h0 : i = 0
      · have d0 : decide ((0 : Int) < (i : Int)) = false := decide_eq_false (by omega)
        have hi0 : ¬ 0 < i := by omega
        have d0n : decide (0 < i) = false := decide_eq_false hi0
        clear h0 hx hrow hrw
        go_wp2_with fail
        refine wp_region_quiet_below (by kernel_rfl) (by kernel_rfl) ?_
        repeat (first | go_big_quiet_step (fail) | quiet_step (fail))
        refine wpQuiet_nil ?_
        intro _ hw'
        obtain ⟨⟨dqV, osV⟩, hw2⟩ := hw'
        subst hw2
        have HQV := hid (below_regrown wr dqV osV)
        generalize Sort.grow (redrawn wr dqV) osV = V at HQV ⊢
        have hsV := HQV.out.size
        go_wp2_with fail
        exact ⟨⟨i + 1, by omega, by go_num, HB.out.trans (HQV.out.mono HB.out.size)⟩, by simp [intOf]; omega⟩
      · have hi0 : 0 < i := by omega
        have d0 : decide ((0 : Int) < (i : Int)) = true := decide_eq_true (by omega)
        obtain ⟨y, hy⟩ : ∃ y, xs[i - 1]? = some y := ⟨_, List.getElem?_eq_getElem (by rw [← HN.out]; omega)⟩
        have cx := fun d os => cell_regrown (w := wr) (a := ⟨b, off + i * 10, none⟩) (v := .int .i64 x.t) (row_off hrw hx (off + i * 10) rfl 0 (by decide)) d os
        have cy := fun d os => cell_regrown (w := wr) (a := ⟨b, off + (i - 1) * 10, none⟩) (v := .int .i64 y.t) (row_off hrw hy (off + (i - 1) * 10) rfl 0 (by decide)) d os
        have hlt2 : y.t < x.t := by
          have h9 := allN_iff.1 HAS.out i hlt
          rw [ascF_at hi0 hy hx] at h9
          exact of_decide_eq_true h9
        have d2 : decide (x.t ≤ y.t) = false := decide_eq_false (by omega)
        clear hx hy hrow hrw hlt2
        go_wp2_with fail
        refine wp_region_quiet_below (by kernel_rfl) (by kernel_rfl) ?_
        repeat (first | go_big_quiet_step (fail) | quiet_step (fail))
        refine wpQuiet_nil ?_
        intro _ hw'
        obtain ⟨⟨dqV, osV⟩, hw2⟩ := hw'
        subst hw2
        have HQV := hid (below_regrown wr dqV osV)
        generalize Sort.grow (redrawn wr dqV) osV = V at HQV ⊢
        have hsV := HQV.out.size
        go_wp2_with fail
        exact ⟨⟨i + 1, by omega, by go_num, HB.out.trans (HQV.out.mono HB.out.size)⟩, by simp [intOf]; omega⟩
    · have e3 : decide ((i : Int) < (n : Int)) = false := decide_eq_false (by omega)
      obtain ⟨WT, hWT⟩ : ∃ WT, WT = wr := ⟨_, rfl⟩
      subst hWT
      have HMT := hid (heap_still HB.out HM1.out)
      have HRT := hid (heap_still HB.out HR1.out)
      have HST := hid (show w1.heap.size ≤ WT.heap.size from HB.out.size)
      have HXT := hid (fun (b off : Nat) (hb : b < w.heap.size) (h : RowsAt w b off 10 (xs.map Fx.row)) => show RowsAt WT b off 10 (xs.map Fx.row) from (h.still HBw1.out hb).still HB.out (by have := HS1.out; omega))
      have HBWT := hid (HBw1.out.trans (HB.out.mono HBw1.out.size))
      clear HM1 HR1 HB HBw1
      obtain ⟨i0, hinf, hz0, hz1, hz2⟩ := info_parts info55f
      have HI := hid hinf
      have HZ0 := hid hz0
      have HZ1 := hid hz1
      have HZ2 := hid hz2
      clear hinf hz0 hz1 hz2
      obtain ⟨i1, hinf, hz0, hz1, hz2⟩ := info_parts info106
      have HJ := hid hinf
      have HJ0 := hid hz0
      have HJ1 := hid hz1
      have HJ2 := hid hz2
      clear hinf hz0 hz1 hz2
      go_wp2_with fail
      clear e3 hi hlt
      go_loopw [44] (fun iv W => ∃ (i : Nat) (tv : Value) (vs : List Value), i ≤ n ∧ iv = .int .i64 (i : Int) ∧ PtV W WT.heap.size tv vs (partsG Fx.t (nearB m1) m0 xs i) ∧ Below WT.heap.size WT W) (fun iv _ => n - (intOf iv).toNat)
      case atStart => exact ⟨0, _, [], by omega, rfl, ⟨(by repeat' (first | (refine heap_alloc_at _ _ _ ?_; (first | rfl | (simp; done) | (simp; omega))) | (refine heap_alloc_past _ _ _ _ ?_))), OwnR.nil _ _ _ _, rfl, fun i v p h => by simp at h, fun i j u v _ h => by simp at h⟩, (Below.refl _ _).alloc (Nat.le_refl _) _⟩
      case round =>
        obtain ⟨i, tv, vs, hi, rfl, hP, hB⟩ := hrel
        have HP := hid hP
        have HB := hid hB
        clear hP hB
        by_cases hlt : i < n
        · have e3 : decide ((i : Int) < (n : Int)) = true := decide_eq_true (by omega)
          obtain ⟨x, hx⟩ : ∃ x, xs[i]? = some x := ⟨_, List.getElem?_eq_getElem (by rw [← HN.out]; exact hlt)⟩
          obtain ⟨b, off, ha, hb, hrow⟩ := HV.out.at hx
          subst ha
          have hbT : b < WT.heap.size := by have h1 := HS1.out; have h2 := HST.out; omega
          have HROW := hid ((HXT.out b off hb hrow).still HB.out hbT)
          have HX := hid hx
          have hc := row_off HROW.out hx (off + i * 10) rfl
          clear hrow hx
          go_upto_region 14 with (first | (refine fx_load rfl 55 (.tmp 47) rfl b (off + i * 10) rfl x hc Try.underlying55 rfl size55f ?_) | (refine wpList_store_new rfl 55 (.tmp 10) (.tmp 48) rfl rfl rfl rfl size55f (row_arr x) rfl rfl ?_))
          refine gen_world (fun W0 hW0 => ?_)
          have KB := hid (show W0.heap[wr.heap.size]? = some (.cells x.row.toArray 55) by rw [hW0]; exact heap_alloc_at _ _ _ rfl)
          have HB0Q := hid (show Below wr.heap.size wr W0 by rw [hW0]; exact (Below.refl _ _).alloc (Nat.le_refl _) _)
          clear hW0 hc
          go_frame
          go_cut [75] from 49 to 97 (fun sv wc => ∃ q : Bool, sv = .bool q ∧ q = cutG Fx.t (nearB m1) m0 xs i ∧ Below W0.heap.size W0 wc)
          case first =>
            by_cases h0 : i = 0
            · have d0 : decide ((i : Int) = 0) = true := decide_eq_true (by omega)
              have d0b : ((i : Int) == 0) = true := by simp; omega
              have HCUT := hid (show cutG Fx.t (nearB m1) m0 xs i = true by unfold cutG; rw [decide_eq_true h0, Bool.true_or])
              clear h0
              refine wp_region_quiet_below (by kernel_rfl) (by kernel_rfl) ?_
              repeat (first | go_big_quiet_step (fail) | quiet_step (fail))
              refine wpQuiet_nil ?_
              intro _ hw'
              obtain ⟨⟨dqV, osV⟩, hw2⟩ := hw'
              subst hw2
              have HQV := hid (below_regrown W0 dqV osV)
              generalize Sort.grow (redrawn W0 dqV) osV = V at HQV ⊢
              have hsV := HQV.out.size
              go_wp2_with fail
              go_meet
              case rel => exact ⟨true, rfl, HCUT.out.symm, HQV.out⟩
            · have hi0 : 0 < i := by omega
              have d0 : decide ((i : Int) = 0) = false := decide_eq_false (by omega)
              have d0b : ((i : Int) == 0) = false := by simp; omega
              have d0c : decide ((0 : Int) < (i : Int)) = true := decide_eq_true (by omega)
              have d0d : (i == 0) = false := by simp; omega
              obtain ⟨y, hy⟩ : ∃ y, xs[i - 1]? = some y := ⟨_, List.getElem?_eq_getElem (by rw [← HN.out]; omega)⟩
              have hyo := HOK.out y (List.mem_of_getElem? hy)
              have hxo := HOK.out x (List.mem_of_getElem? HX.out)
              have hyt := Fx.ok_bounds hyo
              have hxt := Fx.ok_bounds hxo
              have hym : y.t ≤ x.t := by have h9 := allN_iff.1 HAS.out i hlt; rw [ascF_at hi0 hy HX.out] at h9; have := of_decide_eq_true h9; omega
              have HM0 := heap_still HB0Q.out (heap_still HB.out HMT.out)
              have cm0 := fun d os => cell_regrown (w := W0) (a := ⟨w.heap.size, 0, none⟩) (v := .int .i64 m0) ((cell_row (j := 0) HM0).trans rfl) d os
              have cm1 := fun d os => cell_regrown (w := W0) (a := ⟨w.heap.size, 1, none⟩) (v := .int .i64 m1) ((cell_row (j := 1) HM0).trans rfl) d os
              have cm2 := fun d os => cell_regrown (w := W0) (a := ⟨w.heap.size, 2, none⟩) (v := .int .i64 m2) ((cell_row (j := 2) HM0).trans rfl) d os
              have cm3 := fun d os => cell_regrown (w := W0) (a := ⟨w.heap.size, 3, none⟩) (v := .int .i64 m3) ((cell_row (j := 3) HM0).trans rfl) d os
              have HRY := HROW.out.still HB0Q.out (by have h1 := HB.out.size; omega)
              have hcy := row_off HRY hy (off + (i - 1) * 10) rfl
              have p0 := fun d os => cell_regrown (w := W0) (a := ⟨b, off + (i - 1) * 10, none⟩) (v := .int .i64 y.t) (hcy 0 (by decide)) d os
              have p1 := fun d os => cell_regrown (w := W0) (a := ⟨b, off + (i - 1) * 10 + 1, none⟩) (v := .int .i64 y.x) (hcy 1 (by decide)) d os
              have p2 := fun d os => cell_regrown (w := W0) (a := ⟨b, off + (i - 1) * 10 + 2, none⟩) (v := .int .i64 y.y) (hcy 2 (by decide)) d os
              have p3 := fun d os => cell_regrown (w := W0) (a := ⟨b, off + (i - 1) * 10 + 3, none⟩) (v := .int .i64 y.z) (hcy 3 (by decide)) d os
              have p4 := fun d os => cell_regrown (w := W0) (a := ⟨b, off + (i - 1) * 10 + 4, none⟩) (v := .int .i64 y.e) (hcy 4 (by decide)) d os
              have p5 := fun d os => cell_regrown (w := W0) (a := ⟨b, off + (i - 1) * 10 + 5, none⟩) (v := .int .i64 y.a) (hcy 5 (by decide)) d os
              have p6 := fun d os => cell_regrown (w := W0) (a := ⟨b, off + (i - 1) * 10 + 6, none⟩) (v := .int .i64 y.b) (hcy 6 (by decide)) d os
              have p7 := fun d os => cell_regrown (w := W0) (a := ⟨b, off + (i - 1) * 10 + 7, none⟩) (v := .int .i64 y.c) (hcy 7 (by decide)) d os
              have p8 := fun d os => cell_regrown (w := W0) (a := ⟨b, off + (i - 1) * 10 + 8, none⟩) (v := .int .i64 y.d) (hcy 8 (by decide)) d os
              have p9 := fun d os => cell_regrown (w := W0) (a := ⟨b, off + (i - 1) * 10 + 9, none⟩) (v := .int .i64 y.g) (hcy 9 (by decide)) d os
              have q0 := fun d os => cell_regrown (w := W0) (a := ⟨wr.heap.size, 0, none⟩) (v := .int .i64 x.t) ((cell_row (j := 0) KB.out).trans rfl) d os
              have q1 := fun d os => cell_regrown (w := W0) (a := ⟨wr.heap.size, 1, none⟩) (v := .int .i64 x.x) ((cell_row (j := 1) KB.out).trans rfl) d os
              have q2 := fun d os => cell_regrown (w := W0) (a := ⟨wr.heap.size, 2, none⟩) (v := .int .i64 x.y) ((cell_row (j := 2) KB.out).trans rfl) d os
              have q3 := fun d os => cell_regrown (w := W0) (a := ⟨wr.heap.size, 3, none⟩) (v := .int .i64 x.z) ((cell_row (j := 3) KB.out).trans rfl) d os
              have q4 := fun d os => cell_regrown (w := W0) (a := ⟨wr.heap.size, 4, none⟩) (v := .int .i64 x.e) ((cell_row (j := 4) KB.out).trans rfl) d os
              have q5 := fun d os => cell_regrown (w := W0) (a := ⟨wr.heap.size, 5, none⟩) (v := .int .i64 x.a) ((cell_row (j := 5) KB.out).trans rfl) d os
              have q6 := fun d os => cell_regrown (w := W0) (a := ⟨wr.heap.size, 6, none⟩) (v := .int .i64 x.b) ((cell_row (j := 6) KB.out).trans rfl) d os
              have q7 := fun d os => cell_regrown (w := W0) (a := ⟨wr.heap.size, 7, none⟩) (v := .int .i64 x.c) ((cell_row (j := 7) KB.out).trans rfl) d os
              have q8 := fun d os => cell_regrown (w := W0) (a := ⟨wr.heap.size, 8, none⟩) (v := .int .i64 x.d) ((cell_row (j := 8) KB.out).trans rfl) d os
              have q9 := fun d os => cell_regrown (w := W0) (a := ⟨wr.heap.size, 9, none⟩) (v := .int .i64 x.g) ((cell_row (j := 9) KB.out).trans rfl) d os
              clear HM0 HRY hcy
              by_cases hgap : m0 < x.t - y.t
              · have d1 : decide (m0 < x.t - y.t) = true := decide_eq_true hgap
                have HCUT := hid (show cutG Fx.t (nearB m1) m0 xs i = true from cut_yes hy HX.out (.inl hgap))
                clear hy hyo hxo
                refine wp_region_quiet_below (by kernel_rfl) (by kernel_rfl) ?_
                repeat (first | go_big_quiet_step (fail) | quiet_step (fail))
                refine wpQuiet_nil ?_
                intro _ hw'
                obtain ⟨⟨dqV, osV⟩, hw2⟩ := hw'
                subst hw2
                have HQV := hid (below_regrown W0 dqV osV)
                generalize Sort.grow (redrawn W0 dqV) osV = V at HQV ⊢
                have hsV := HQV.out.size
                go_wp2_with fail
                go_meet
                case rel => exact ⟨true, rfl, HCUT.out.symm, HQV.out⟩
              · have d1 : decide (m0 < x.t - y.t) = false := decide_eq_false hgap
                cases hnear : nearB m1 y x with
                | false =>
                  have HCUT := hid (show cutG Fx.t (nearB m1) m0 xs i = true from cut_yes hy HX.out (.inr hnear))
                  have HNQ := hid (show ∀ W, Calls Try.prog 92 #[.agg #[.int .i64 y.t, .int .i64 y.x, .int .i64 y.y, .int .i64 y.z, .int .i64 y.e, .int .i64 y.a, .int .i64 y.b, .int .i64 y.c, .int .i64 y.d, .int .i64 y.g], .agg #[.int .i64 x.t, .int .i64 x.x, .int .i64 x.y, .int .i64 x.z, .int .i64 x.e, .int .i64 x.a, .int .i64 x.b, .int .i64 x.c, .int .i64 x.d, .int .i64 x.g], .agg #[.int .i64 m0, .int .i64 m1, .int .i64 m2, .int .i64 m3]] W fun r w' => r = .returned (.bool false) ∧ Below W.heap.size W w' from fun W => hnear ▸ nearX_any y x m0 m1 m2 m3 W hyo hxo hm)
                  clear hy hyo hxo hnear
                  refine wp_region_quiet_below (by kernel_rfl) (by kernel_rfl) ?_
                  repeat (first | go_big_quiet_step ((go_at_call 92; with_reducible exact Calls.regrown_of (HNQ.out _))) | quiet_step ((go_at_call 92; with_reducible exact Calls.regrown_of (HNQ.out _))))
                  refine wpQuiet_nil ?_
                  intro _ hw'
                  obtain ⟨⟨dqV, osV⟩, hw2⟩ := hw'
                  subst hw2
                  have HQV := hid (below_regrown W0 dqV osV)
                  generalize Sort.grow (redrawn W0 dqV) osV = V at HQV ⊢
                  have hsV := HQV.out.size
                  go_wp2_with fail
                  go_meet
                  case rel => exact ⟨true, rfl, HCUT.out.symm, HQV.out⟩
                | true =>
                  have HCUT := hid (cut_no hi0 hy HX.out hgap hnear)
                  have HNQ := hid (show ∀ W, Calls Try.prog 92 #[.agg #[.int .i64 y.t, .int .i64 y.x, .int .i64 y.y, .int .i64 y.z, .int .i64 y.e, .int .i64 y.a, .int .i64 y.b, .int .i64 y.c, .int .i64 y.d, .int .i64 y.g], .agg #[.int .i64 x.t, .int .i64 x.x, .int .i64 x.y, .int .i64 x.z, .int .i64 x.e, .int .i64 x.a, .int .i64 x.b, .int .i64 x.c, .int .i64 x.d, .int .i64 x.g], .agg #[.int .i64 m0, .int .i64 m1, .int .i64 m2, .int .i64 m3]] W fun r w' => r = .returned (.bool true) ∧ Below W.heap.size W w' from fun W => hnear ▸ nearX_any y x m0 m1 m2 m3 W hyo hxo hm)
                  clear hy hyo hxo hnear
                  refine wp_region_quiet_below (by kernel_rfl) (by kernel_rfl) ?_
                  repeat (first | go_big_quiet_step ((go_at_call 92; with_reducible exact Calls.regrown_of (HNQ.out _))) | quiet_step ((go_at_call 92; with_reducible exact Calls.regrown_of (HNQ.out _))))
                  refine wpQuiet_nil ?_
                  intro _ hw'
                  obtain ⟨⟨dqV, osV⟩, hw2⟩ := hw'
                  subst hw2
                  have HQV := hid (below_regrown W0 dqV osV)
                  generalize Sort.grow (redrawn W0 dqV) osV = V at HQV ⊢
                  have hsV := HQV.out.size
                  go_wp2_with fail
                  go_meet
                  case rel => exact ⟨false, rfl, HCUT.out.symm, HQV.out⟩
          case rest =>
            obtain ⟨q, rfl, hq, hqb⟩ := hcut
            have HQV := hid hqb
            clear hqb
            obtain ⟨V, hVV⟩ : ∃ V, V = wc := ⟨_, rfl⟩
            subst hVV
            have HPV := hid ((HP.out.grow HB0Q.out).grow HQV.out)
            have HBV := hid ((HB.out.trans (HB0Q.out.mono HB.out.size)).trans (HQV.out.mono (by have h1 := HB.out.size; have h2 := HB0Q.out.size; omega)))
            have KBV := hid (heap_still HQV.out KB.out)
            have hbv : wr.heap.size < V.heap.size := (Array.getElem?_eq_some_iff.1 KBV.out).1
            have HPlt := hid (fun (k : Nat) (C : Array Value) (h : wr.heap[k]? = some (.cells C 55)) => show k < wr.heap.size from (Array.getElem?_eq_some_iff.1 h).1)
            clear HQV
            go_upto_if 75 with fail
            go_cut [] from 49 to 97 (fun wx => ∃ (n1 k0 gt ct : Nat) (vs0 : List Value) (P0 : List (List Fx)) (u : Value) (p : List Fx), k0 = vs0.length ∧ n1 = k0 + 1 ∧ k0 ≤ 1000 ∧ PtS wx WT.heap.size (.slice (some ⟨gt, 0, none⟩) n1 ct) vs0 P0 u u p ∧ Below WT.heap.size WT wx ∧ wx.heap[wr.heap.size]? = some (.cells x.row.toArray 55) ∧ u.ownBlock ≠ some wr.heap.size ∧ p.length ≤ 1000 ∧ partsG Fx.t (nearB m1) m0 xs (i + 1) = P0 ++ [p ++ [x]])
            case first =>
              cases q with
              | true =>
                have HCUT := hid hq.symm
                clear hq
                obtain ⟨ta, tc, htv⟩ := OwnR.slice HPV.out.o
                obtain ⟨tn, htn⟩ : ∃ tn, tn = (vs.map row1).length := ⟨_, rfl⟩
                rw [← htn] at htv
                subst htv
                have HTN := hid htn
                clear htn
                have htl : tn ≤ 1000 := by have h1 := HTN.out; rw [List.length_map, HPV.out.len] at h1; have h2 := parts_count (t := Fx.t) (near := nearB m1) (gap := m0) (K := xs) i; omega
                have c8 : V.cell? ⟨WT.heap.size, 0, none⟩ = some (.slice ta tn tc) := (cell_row (j := 0) HPV.out.hT).trans rfl
                have HGL := hid (show WT.heap.size < V.heap.size from (Array.getElem?_eq_some_iff.1 HPV.out.hT).1)
                have HL1 := hid (show (vs.map row1).length + [[Value.slice none 0 0]].length ≤ maxLen by rw [← HTN.out]; show tn + 1 ≤ _; unfold maxLen; omega)
                have HL2 := hid (show ((vs.map row1).length + [[Value.slice none 0 0]].length) * 24 ≤ 140737488355328 by rw [← HTN.out]; show (tn + 1) * 24 ≤ _; omega)
                have hal : (V.alloc (.cells #[.slice none 0 0] 106)).heap.size = V.heap.size + 1 := by simp
                have HL3 := hid (show WT.heap.size ≤ (V.alloc (.cells #[.slice none 0 0] 106)).heap.size by rw [hal]; have h1 := HBV.out.size; omega)
                have HGLA := hid (show WT.heap.size < (V.alloc (.cells #[.slice none 0 0] 106)).heap.size by rw [hal]; have h1 := HGL.out; omega)
                have HALS := hid hal
                clear hal
                go_wp2_with (first | (at_builtin; go_loud (refine wpList_append_rowsR rfl (.tmp 77) (.tmp 78) 62 rfl WT.heap.size 106 i1 _ 1 24 Try.underlying62 HJ.out HJ0.out HJ1.out HJ2.out rfl (by decide) (.slice ta tn tc) (vs.map row1) [[.slice none 0 0]] rfl (OwnR.grow HPV.out.o ((Below.refl V.heap.size V).alloc (Nat.le_refl _) (.cells #[.slice none 0 0] 106))) V.heap.size 0 1 1 rfl rfl (rows_one0 (heap_alloc_at _ _ _ rfl)) wide_none HL1.out HL2.out HL3.out ?_; intro va wa ho1 ho2 ho3; obtain ⟨aa, ca, haa⟩ := OwnR.slice ho1; subst haa; generalize hla : (vs.map row1 ++ [[Value.slice none 0 0]]).length = na at *; have hna : na = tn + 1 := (by rw [← hla, List.length_append, ← HTN.out]; rfl); have hnk : (na : Int) - 1 = (tn : Int) := (by omega); have hnt : tn < na := (by omega); have HNA1 := hid hna; clear hna; have HO1 := hid ho1; have HO2 := hid ho2; clear ho1 ho2 ho3 hla; have HGA := hid ((HO2.out.block WT.heap.size HGLA.out (fun e => own_not HPV.out.o HPV.out.hT (by decide) e.symm)).trans (heap_still ((Below.refl V.heap.size V).alloc (Nat.le_refl _) (.cells #[.slice none 0 0] 106)) HPV.out.hT)); have z1 : wa.frozen? ⟨WT.heap.size, 0, none⟩ = false := (by have hh := HGA.out; simp [World.frozen?, hh]); have z0 : wa.cell? ⟨WT.heap.size, 0, none⟩ = some (.slice ta tn tc) := (cell_row (j := 0) HGA.out).trans rfl)))
                clear z1 z0 c8 HGA
                have hpt := PtV.next (HPV.out.grow ((Below.refl V.heap.size V).alloc (Nat.le_refl _) (.cells #[.slice none 0 0] 106))) HO1.out HO2.out
                obtain ⟨gt, cg, CT, hvt, -, -, -, -⟩ := hpt.opened
                injection hvt with hv1 hv2 hv3
                clear hv2 hv3
                subst hv1
                have hpt2 := hid hpt
                have HK0 := hid (show tn = vs.length by rw [HTN.out, List.length_map])
                have HBT := hid (show Below WT.heap.size WT (wa.setCell ⟨WT.heap.size, 0, none⟩ (.slice (some ⟨gt, 0, none⟩) na ca)) from below_set (below_grown (HBV.out.alloc HBV.out.size _) HO2.out (fun k hk => OwnR.ownBlock HPV.out.o k hk) HL3.out) (Nat.le_refl _) _)
                have HKX := hid (show (wa.setCell ⟨WT.heap.size, 0, none⟩ (.slice (some ⟨gt, 0, none⟩) na ca)).heap[wr.heap.size]? = some (.cells x.row.toArray 55) by rw [setCell_other (fun e => by have h1 := (Array.getElem?_eq_some_iff.1 HP.out.hT).1; omega)]; exact (HO2.out.block _ (by rw [HALS.out]; omega) (fun e => own_not (OwnR.grow HPV.out.o ((Below.refl V.heap.size V).alloc (Nat.le_refl _) (.cells #[.slice none 0 0] 106))) (heap_still ((Below.refl V.heap.size V).alloc (Nat.le_refl _) (.cells #[.slice none 0 0] 106)) KBV.out) (by decide) e.symm)).trans (heap_still ((Below.refl V.heap.size V).alloc (Nat.le_refl _) (.cells #[.slice none 0 0] 106)) KBV.out))
                have HPG := hid (show partsG Fx.t (nearB m1) m0 xs (i + 1) = partsG Fx.t (nearB m1) m0 xs i ++ [[] ++ [x]] by rw [partsG, HX.out]; simp only; rw [if_pos HCUT.out]; rfl)
                go_meet
                case rel => exact ⟨na, tn, gt, ca, vs, _, .slice none 0 0, [], HK0.out, HNA1.out, htl, hpt2.out, HBT.out, HKX.out, by simp [Value.ownBlock], by simp, HPG.out⟩
              | false =>
                have HCUT := hid hq.symm
                have hi0 : 0 < i := by rcases Nat.eq_zero_or_pos i with h | h; (· subst h; simp [cutG] at hq); (· exact h)
                clear hq
                have hilt : 0 < (partsG Fx.t (nearB m1) m0 xs i).length := by obtain ⟨P9, p9, x9, h9, _⟩ := parts_last (t := Fx.t) (near := nearB m1) (gap := m0) (K := xs) i hi0 (by rw [← HN.out]; omega); rw [h9]; simp
                have hflat := parts_flat (t := Fx.t) (near := nearB m1) (gap := m0) (K := xs) i (by rw [← HN.out]; omega)
                obtain ⟨vs0, u, P0, p, hvs, hPs, hpt⟩ := HPV.out.split hilt
                subst hvs
                have HPG := hid (show partsG Fx.t (nearB m1) m0 xs (i + 1) = P0 ++ [p ++ [x]] by rw [partsG, HX.out]; simp only; rw [if_neg (by rw [HCUT.out]; decide), hPs, snoc_app])
                have HPL := hid (show p.length ≤ 1000 by have h1 := (List.sublist_flatten_of_mem (show p ∈ partsG Fx.t (nearB m1) m0 xs i by rw [hPs]; simp)).length_le; rw [hflat, List.length_take] at h1; omega)
                obtain ⟨gt, ct, CT, hvt, -, -, -, -⟩ := hpt.opened
                subst hvt
                have HOWN := hid (HP.out.f vs0.length u p (by simp) (by rw [hPs, hpt.len]; simp))
                have HBX := hid (show u.ownBlock ≠ some wr.heap.size from fun e => by obtain ⟨C9, h9⟩ := own_type HOWN.out e; exact absurd (Array.getElem?_eq_some_iff.1 h9).1 (Nat.lt_irrefl _))
                have HCN := hid (show vs0.length ≤ 1000 by have h1 := parts_count (t := Fx.t) (near := nearB m1) (gap := m0) (K := xs) i; rw [hPs, List.length_append, List.length_singleton] at h1; have h2 := hpt.len; omega)
                have HPT := hid hpt
                clear hpt hPs hflat hilt
                go_wp2_with fail
                go_meet
                case rel => exact ⟨_, vs0.length, gt, ct, vs0, P0, u, p, rfl, rfl, HCN.out, HPT.out, HBV.out, KBV.out, HBX.out, HPL.out, HPG.out⟩
            case rest =>
              obtain ⟨n1, k0, gt, ct, vs0, P0, u, p, hk0, hn1, hkb, hpt, hbt, hkx, hbx, hpl, hpg⟩ := hcut
              obtain ⟨wx, hwx⟩ : ∃ wx, wx = wc := ⟨_, rfl⟩
              subst hwx
              have hnk : (n1 : Int) - 1 = (k0 : Int) := by omega
              have hnt : k0 < n1 := by omega
              have HK0 := hid hk0
              have HPT := hid hpt
              have HBT := hid hbt
              have HKX := hid hkx
              have HBX := hid hbx
              have HPL := hid hpl
              have HPG := hid hpg
              have c8 : wx.cell? ⟨WT.heap.size, 0, none⟩ = some (.slice (some ⟨gt, 0, none⟩) n1 ct) := (cell_row (j := 0) hpt.hT).trans rfl
              clear hk0 hn1 hpt hbt hkx hbx hpl hpg HPV HBV KBV HPlt
              go_wp2_with fail
              clear c8
              refine parts_put _ _ _ _ _ _ _ _ _ _ _ _ _ _ _ _ _ _ _ _ _ _ _ _ _ _ _ _ _ _ _ _ _ _ _ _ _ _ _ _ _ _ _ _ _ _ _ _ _ _ _ _ _ _ _ _ _ _ _ _ _ _ _ _ _ _ _ _ _ _ _ _ _ _ _ _ _ _ _ _ _ _ _ _ _ _ _ _ _ _ _ _ _ _ _ _ WT wx gt n1 k0 ct wr.heap.size vs0 P0 u p x _ _ (by kernel_rfl) HK0.out hnt HPT.out HBT.out HKX.out HBX.out HPL.out ?_
              intro u85 u86 u87 u88 u89 u90 u91 u92 u93 u94 u95 u96 v W5 hp5 hb5
              have P5 := hid hp5
              have B5 := hid hb5
              clear hp5 hb5
              have PJ := hid P5.out.join
              rw [← HPG.out] at PJ
              go_wp2_with fail
              exact ⟨⟨i + 1, _, _, by omega, by go_num, PJ.out, B5.out⟩, by simp [intOf]; omega⟩
        · have e3 : decide ((i : Int) < (n : Int)) = false := decide_eq_false (by omega)
          have hin : i = n := by omega
          have HIN := hid hin
          have HRW := hid (heap_still HB.out HRT.out)
          have c8 : wr.cell? ⟨WT.heap.size, 0, none⟩ = some tv := (cell_row (j := 0) HP.out.hT).trans rfl
          clear hin
          obtain ⟨ta, tc, htv⟩ := OwnR.slice HP.out.o
          generalize (vs.map row1).length = tn at htv
          subst htv
          go_wp2_with (first | (refine wpList_store_at rfl 64 (.tmp 4) (.tmp 98) rfl rfl rfl HRW.out size64 rfl rfl rfl ?_))
          refine bodyPost_ret (results_at2 rfl rfl (setRow_heap _ _ _ _ _ _ HRW.out) Try.underlying64 rfl size64 rfl) rfl ?_
          refine ⟨⟨_, vs, WT.heap.size, rfl, ?_, HBWT.out.size⟩, below_setRow (HBWT.out.trans (HB.out.mono HBWT.out.size)) (by omega) _⟩
          rw [← HIN.out]
          exact HP.out.other (by have h1 := HS1.out; have h2 := HST.out; omega)
end Go.Proofs.Yteoikaedpgianaa
