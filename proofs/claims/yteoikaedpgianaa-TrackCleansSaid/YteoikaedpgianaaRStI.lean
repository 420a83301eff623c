/- SameTrack (71): two tracks in memory with the same parts. Clean and Parts of both sides: each pair answers the same. -/
import Derived.Test.YteoikaedpgianaaRStH
namespace Go.Proofs.Yteoikaedpgianaa
open Go.RowKit Go.Sort Go.Lib Go.Shelf Go.Proofs

/-- a track in memory -/
def TrV (W : World) (tv : Value) (P : List (List Fx)) : Prop := ∃ a c, tv = .slice a P.length c ∧ ∀ (i : Nat) (p : List Fx), P[i]? = some p → ∃ g v, a = some ⟨g, 0, none⟩ ∧ g < W.heap.size ∧ W.cell? ⟨g, i, none⟩ = some v ∧ FxV W v p
theorem TrV.still {W W' : World} {tv : Value} {P : List (List Fx)} (h : TrV W tv P) (hb : Below W.heap.size W W') : TrV W' tv P := by
  obtain ⟨a, c, e, h⟩ := h
  refine ⟨a, c, e, fun i p hp => ?_⟩
  obtain ⟨g, v, h1, h2, h3, h4⟩ := h i p hp
  exact ⟨g, v, h1, Nat.lt_of_lt_of_le h2 hb.size, (hb.cell h2).trans h3, h4.still hb⟩
theorem TrV.nil (W : World) : TrV W (.slice none 0 0) [] := ⟨none, 0, rfl, fun i p h => by simp at h⟩
theorem PtV.track {W : World} {T : Nat} {tv : Value} {vs : List Value} {P : List (List Fx)} (h : PtV W T tv vs P) : TrV W tv P := by
  obtain ⟨a, c, e⟩ := OwnR.slice h.o
  rw [List.length_map, h.len] at e
  refine ⟨a, c, e, fun i p hp => ?_⟩
  have hi : i < vs.length := by rw [h.len]; exact (List.getElem?_eq_some_iff.1 hp).1
  obtain ⟨v, hv⟩ : ∃ v, vs[i]? = some v := ⟨_, List.getElem?_eq_getElem hi⟩
  obtain ⟨g, cap, C, e2, _, hC, hr, _⟩ := OwnR.rows h.o (by rw [List.length_map]; omega)
  rw [e] at e2
  injection e2 with e2
  refine ⟨g, v, e2, (Array.getElem?_eq_some_iff.1 hC).1, ?_, (h.f i v p hv hp).fxV⟩
  have h9 := hr i (row1 v) (by rw [List.getElem?_map, hv]; rfl) 0 (by decide)
  rw [Nat.zero_add, Nat.mul_one, Nat.add_zero] at h9
  exact h9.trans rfl
set_option maxRecDepth 100000 in
set_option maxHeartbeats 1600000 in
theorem sameTrack_any (t1 t2 : Value) (P : List (List Fx)) (w : World) (h1 : TrV w t1 P) (h2 : TrV w t2 P) (hn : P.length ≤ 1000) (hl : ∀ p ∈ P, p.length ≤ 100000) :
    Calls Try.prog 71 #[.agg #[t1], .agg #[t2]] w fun r w' => r = .returned (.bool true) ∧ Below w.heap.size w w' := by
  obtain ⟨a1, c1, rfl, hv1⟩ := h1
  obtain ⟨a2, c2, rfl, hv2⟩ := h2
  obtain ⟨n, hnn⟩ : ∃ n, n = P.length := ⟨_, rfl⟩
  rw [← hnn] at hn ⊢
  have HV1 := hid hv1
  have HV2 := hid hv2
  have HN := hid hnn
  have HL := hid hl
  clear hv1 hv2 hnn hl
  go_enter Try.func71, Try.ntmps71
  go_wp2_with fail
  go_loopw [16] (fun iv W => ∃ i : Nat, i ≤ n ∧ iv = .int .i64 (i : Int) ∧ Below w.heap.size w W ∧ W.heap[w.heap.size]? = some (.cells #[.slice a1 n c1] 64) ∧ W.heap[w.heap.size + 1]? = some (.cells #[.slice a2 n c2] 64)) (fun iv _ => n - (intOf iv).toNat)
  case atStart => exact ⟨0, by omega, rfl, ((Below.refl _ _).alloc (Nat.le_refl _) _).alloc (by simp) _, (by repeat' (first | (refine heap_alloc_at _ _ _ ?_; (first | rfl | (simp; done) | (simp; omega))) | (refine heap_alloc_past _ _ _ _ ?_))), (by repeat' (first | (refine heap_alloc_at _ _ _ ?_; (first | rfl | (simp; done) | (simp; omega))) | (refine heap_alloc_past _ _ _ _ ?_)))⟩
  case round =>
    obtain ⟨i, hi, rfl, hB, ha, hb⟩ := hrel
    have HB := hid hB
    have HA := hid ha
    have HC := hid hb
    clear hB ha hb
    by_cases hlt : i < n
    · have e3 : decide ((i : Int) < (n : Int)) = true := decide_eq_true (by omega)
      obtain ⟨p, hp⟩ : ∃ p, P[i]? = some p := ⟨_, List.getElem?_eq_getElem (by rw [← HN.out]; exact hlt)⟩
      obtain ⟨g1, v1, ha1, hg1, hc1, hf1⟩ := HV1.out i p hp
      obtain ⟨g2, v2, ha2, hg2, hc2, hf2⟩ := HV2.out i p hp
      subst ha1 ha2
      have HF1 := hid hf1
      have HF2 := hid hf2
      obtain ⟨d1, f1, e1, _⟩ := hf1.opens
      obtain ⟨d2, f2, e2, _⟩ := hf2.opens
      have hpl := HL.out p (List.mem_of_getElem? hp)
      have HBQ := hid (fun (d : Nat) (os : Array Obj) => HB.out.trans ((below_regrown wr d os).mono HB.out.size))
      have HS := hid (fun (d : Nat) (os : Array Obj) => sameFx_any v1 v2 p (Go.Sort.grow (redrawn wr d) os) hpl (HF1.out.still (HBQ.out d os)) (HF2.out.still (HBQ.out d os)))
      obtain ⟨pn, hpn⟩ : ∃ pn, pn = p.length := ⟨_, rfl⟩
      rw [← hpn] at e1 e2
      subst e1 e2
      have k1 := fun d os => cell_regrown (w := wr) (a := ⟨w.heap.size, 0, none⟩) (v := .slice (some ⟨g1, 0, none⟩) n c1) ((cell_row (j := 0) HA.out).trans rfl) d os
      have k2 := fun d os => cell_regrown (w := wr) (a := ⟨w.heap.size + 1, 0, none⟩) (v := .slice (some ⟨g2, 0, none⟩) n c2) ((cell_row (j := 0) HC.out).trans rfl) d os
      have m1 := fun d os => cell_regrown (w := wr) (a := ⟨g1, i, none⟩) (v := .slice d1 pn f1) ((HB.out.cell hg1).trans hc1) d os
      have m2 := fun d os => cell_regrown (w := wr) (a := ⟨g2, i, none⟩) (v := .slice d2 pn f2) ((HB.out.cell hg2).trans hc2) d os
      clear hp hc1 hc2 hf1 hf2 hpl hpn HF1 HF2
      go_upto_region 6 with fail
      refine wp_region_quiet_below (by kernel_rfl) (by kernel_rfl) ?_
      repeat (first | go_big_quiet_step ((go_at_call 67; with_reducible exact Calls.regrown_of (HS.out _ _))) | quiet_step ((go_at_call 67; with_reducible exact Calls.regrown_of (HS.out _ _))))
      refine wpQuiet_nil ?_
      intro _ hw'
      obtain ⟨⟨dqV, osV⟩, hw2⟩ := hw'
      subst hw2
      have HQV := hid (below_regrown wr dqV osV)
      generalize Sort.grow (redrawn wr dqV) osV = V at HQV ⊢
      have hsV := HQV.out.size
      have HB2 := hid (HB.out.trans (HQV.out.mono HB.out.size))
      have HA2 := hid (heap_still HQV.out HA.out)
      have HC2 := hid (heap_still HQV.out HC.out)
      clear k1 k2 m1 m2 HQV
      go_wp2_with fail
      exact ⟨⟨i + 1, by omega, by go_num, HB2.out, HA2.out, HC2.out⟩, by simp [intOf]; omega⟩
    · have e3 : decide ((i : Int) < (n : Int)) = false := decide_eq_false (by omega)
      go_wp2_with fail
      go_ret
      exact ⟨rfl, HB.out⟩
end Go.Proofs.Yteoikaedpgianaa
namespace Go.Proofs.Yteoikaedpgianaa
open Go.RowKit Go.Sort Go.Lib Go.Shelf Go.Proofs

theorem refL_zero {m0 m1 m2 m3 : Int} {L : List Fx} (h : refL m0 m1 m2 m3 L = 0) : rulesB m0 m1 m2 m3 = true ∧ ∀ p ∈ L, p.ok = true := by
  unfold refL at h
  cases hr : rulesB m0 m1 m2 m3 with
  | false => rw [refV_rules hr] at h; cases h
  | true =>
    refine ⟨rfl, fun p hp => ?_⟩
    obtain ⟨i, hi, rfl⟩ := List.mem_iff_getElem.1 hp
    cases hf : fixF (fixesF L i) with
    | false => rw [refV_fix hr hi hf] at h; cases h
    | true =>
      unfold fixesF at hf
      rw [getElem!_pos L i hi] at hf
      exact hf
theorem iss_len {L : List Fx} {m1 : Int} {D : List Fx} {Z : List (Int × Int)} (hD : Once L D) (hn : L.length ≤ 1000) (hZ : Z.Perm (cleanI m1 D)) : Z.length ≤ 100000 ∧ (cleanK m1 D).length ≤ 100000 := by
  have h1 := run_small (t := Fx.t) (near := nearB m1) D D.length
  have h2 := nodup_len (once_nodup hD.1) (fun x hx => (hD.2 x).1 hx)
  have h3 := hZ.length_eq
  unfold cleanI at h3
  unfold cleanK
  rw [List.length_append] at h3
  have h4 : (offsG Fx.t (runG Fx.t (nearB m1) D D.length).2.1).length = (runG Fx.t (nearB m1) D D.length).2.1.length := by unfold offsG; rw [List.length_map]
  omega
set_option maxRecDepth 100000 in
theorem xClean_u (v : Value) (xs : List Fx) (m0 m1 m2 m3 : Int) (w : World) (hv : FxV w v xs) (hn : xs.length ≤ 1000) :
    Calls Try.prog 65 #[v, .agg #[.int .i64 m0, .int .i64 m1, .int .i64 m2, .int .i64 m3]] w fun r w' => (∃ kv iv K Z e, r = .returned (.tuple #[kv, iv, .int .i64 e]) ∧ FxV w' kv K ∧ IssV w' iv Z ∧ K.length ≤ 100000 ∧ Z.length ≤ 100000 ∧ ∀ W, FxV W v xs → Calls Try.prog 66 #[v, .agg #[.int .i64 m0, .int .i64 m1, .int .i64 m2, .int .i64 m3]] W fun r w'' => (∃ kv' iv', r = .returned (.tuple #[kv', iv', .int .i64 e]) ∧ FxV w'' kv' K ∧ IssV w'' iv' Z) ∧ Below W.heap.size W w'') ∧ Below w.heap.size w w' := by
  by_cases he : refL m0 m1 m2 m3 xs = 0
  · obtain ⟨hr, hok⟩ := refL_zero he
    refine (xClean_ok v xs m0 m1 m2 m3 w hv hn hr hok).mono ?_
    rintro r w' ⟨⟨kv, iv, D, Z, rfl, hD, hk, hi, hZ, hu⟩, hb⟩
    have hl := iss_len hD hn hZ
    refine ⟨⟨kv, iv, cleanK m1 D, Z, 0, rfl, hk.fxV, hi, hl.2, hl.1, fun W hW => ?_⟩, hb⟩
    refine (rClean_ok v xs m0 m1 m2 m3 W hW hn hr hok).mono ?_
    rintro r w'' ⟨⟨kv', iv', E, rfl, hnd, hmem, htu, hk', hi'⟩, hb'⟩
    have hp : D.Perm E := (List.perm_ext_iff_of_nodup (once_nodup hD.1) hnd).2 fun a => by rw [hD.2, hmem]
    have hs := clean_same (t := Fx.t) (near := nearB m1) hp hD.times htu hZ hu
    rw [hs.1] at hk'
    rw [hs.2] at hi'
    exact ⟨⟨kv', iv', rfl, hk'.fxV, hi'⟩, hb'⟩
  · obtain ⟨ad, c, rfl, hrow⟩ := hv.open
    refine (xClean_err ad xs.length c (fixesF xs) m0 m1 m2 m3 w (by omega) hrow he).mono ?_
    rintro r w' ⟨rfl, hb⟩
    refine ⟨⟨_, _, [], [], _, rfl, .inl ⟨rfl, rfl⟩, .inl ⟨none, 0, rfl, rfl⟩, by simp, by simp, fun W hW => ?_⟩, hb⟩
    obtain ⟨ad2, c2, e2, hrow2⟩ := hW.open
    injection e2 with e2 _ e3
    subst e2 e3
    refine (rClean_err ad xs.length c (fixesF xs) m0 m1 m2 m3 W (by omega) hrow2 he).mono ?_
    rintro r w'' ⟨rfl, hb'⟩
    exact ⟨⟨_, _, rfl, .inl ⟨rfl, rfl⟩, .inl ⟨none, 0, rfl, rfl⟩⟩, hb'⟩
set_option maxRecDepth 100000 in
theorem xParts_u (v : Value) (xs : List Fx) (m0 m1 m2 m3 : Int) (w : World) (hv : FxV w v xs) (hn : xs.length ≤ 1000) :
    Calls Try.prog 69 #[v, .agg #[.int .i64 m0, .int .i64 m1, .int .i64 m2, .int .i64 m3]] w fun r w' => (∃ tv P e, r = .returned (.tuple #[.agg #[tv], .int .i64 e]) ∧ TrV w' tv P ∧ P.length ≤ 1000 ∧ (∀ p ∈ P, p.length ≤ 100000) ∧ ∀ W, FxV W v xs → Calls Try.prog 70 #[v, .agg #[.int .i64 m0, .int .i64 m1, .int .i64 m2, .int .i64 m3]] W fun r w'' => (∃ tv', r = .returned (.tuple #[.agg #[tv'], .int .i64 e]) ∧ TrV w'' tv' P) ∧ Below W.heap.size W w'') ∧ Below w.heap.size w w' := by
  by_cases he : refL m0 m1 m2 m3 xs = 0
  · obtain ⟨hr, hok⟩ := refL_zero he
    cases ha : allN (ascF xs) xs.length with
    | true =>
      refine (xParts_ok v xs m0 m1 m2 m3 w hv hn hr hok ha).mono ?_
      rintro r w' ⟨⟨tv, vs, T, rfl, hP, _⟩, hb⟩
      have hc := parts_count (t := Fx.t) (near := nearB m1) (gap := m0) (K := xs) xs.length
      refine ⟨⟨tv, _, 0, rfl, hP.track, by omega, fun p hp => ?_, fun W hW => ?_⟩, hb⟩
      · have h1 := (List.sublist_flatten_of_mem hp).length_le
        rw [parts_flat (t := Fx.t) (near := nearB m1) (gap := m0) (K := xs) xs.length (Nat.le_refl _), List.length_take] at h1
        omega
      · refine (rParts_ok v xs m0 m1 m2 m3 W hW hn hr hok ha).mono ?_
        rintro r w'' ⟨⟨tv', vs', T', rfl, hP', _⟩, hb'⟩
        exact ⟨⟨tv', rfl, hP'.track⟩, hb'⟩
    | false =>
      refine (xParts_bad v xs m0 m1 m2 m3 w hv hn hr hok ha).mono ?_
      rintro r w' ⟨rfl, hb⟩
      refine ⟨⟨_, [], 2, rfl, TrV.nil _, by simp, by simp, fun W hW => ?_⟩, hb⟩
      refine (rParts_bad v xs m0 m1 m2 m3 W hW hn hr hok ha).mono ?_
      rintro r w'' ⟨rfl, hb'⟩
      exact ⟨⟨_, rfl, TrV.nil _⟩, hb'⟩
  · obtain ⟨ad, c, rfl, hrow⟩ := hv.open
    refine (xParts_err ad xs.length c (fixesF xs) m0 m1 m2 m3 w (by omega) hrow he).mono ?_
    rintro r w' ⟨rfl, hb⟩
    refine ⟨⟨_, [], _, rfl, TrV.nil _, by simp, by simp, fun W hW => ?_⟩, hb⟩
    obtain ⟨ad2, c2, e2, hrow2⟩ := hW.open
    injection e2 with e2 _ e3
    subst e2 e3
    refine (rParts_err ad xs.length c (fixesF xs) m0 m1 m2 m3 W (by omega) hrow2 he).mono ?_
    rintro r w'' ⟨rfl, hb'⟩
    exact ⟨⟨_, rfl, TrV.nil _⟩, hb'⟩

set_option maxRecDepth 100000 in
set_option maxHeartbeats 3200000 in
theorem trackcleans_law (pv : Value) (xs : List Fx) (m0 m1 m2 m3 : Int) (w : World) (hv : FxV w pv xs) (hnS : xs.length ≤ 9223372036854775807) :
    Calls Try.prog 17 #[pv, .agg #[.int .i64 m0, .int .i64 m1, .int .i64 m2, .int .i64 m3]] w fun r w' => r = .returned (.bool true) ∧ Below w.heap.size w w' := by
  obtain ⟨pa, pc, rfl, _⟩ := hv.opens
  obtain ⟨n, hn⟩ : ∃ n, n = xs.length := ⟨_, rfl⟩
  rw [← hn] at hnS hv ⊢
  have HN := hid hn
  have HV := hid hv
  clear hn hv
  by_cases h40 : 40 < n
  · have d1 : decide ((40 : Int) < (n : Int)) = true := decide_eq_true (by omega)
    go_enter Try.func17, Try.ntmps17
    go_wp2_with fail
    refine (awake_any _).mono ?_
    rintro r w9 ⟨rfl, hb⟩
    have HB9 := hid (show Below w.heap.size w w9 from ((Below.refl _ _).alloc (Nat.le_refl _) _ : Below w.heap.size w (w.alloc _)).trans (hb.mono ((Below.refl _ _).alloc (Nat.le_refl _) _ : Below w.heap.size w (w.alloc _)).size))
    clear hb
    go_wp2_with fail
    go_ret
    exact ⟨rfl, HB9.out⟩
  have d1 : decide ((40 : Int) < (n : Int)) = false := decide_eq_false (by omega)
  have hn4 : xs.length ≤ 1000 := by rw [← HN.out]; omega
  have HB0 := hid (show Below w.heap.size w (w.alloc (.cells #[.int .i64 m0, .int .i64 m1, .int .i64 m2, .int .i64 m3] 61)) from (Below.refl _ _).alloc (Nat.le_refl _) _)
  have HM0 := hid (heap_alloc_at w (.cells #[.int .i64 m0, .int .i64 m1, .int .i64 m2, .int .i64 m3] 61) w.heap.size rfl)
  go_enter Try.func17, Try.ntmps17
  go_wp2_with fail
  refine (xClean_u (.slice pa n pc) xs m0 m1 m2 m3 _ (HV.out.still HB0.out) hn4).mono ?_
  rintro r w1 ⟨⟨kv, iv, K, Z, e, rfl, hk, hz, hkl, hzl, href⟩, hb⟩
  have HK := hid hk
  have HZ := hid hz
  have HREF := hid href
  have HM1 := hid (heap_still hb HM0.out)
  have HB1 := hid (HB0.out.trans (hb.mono HB0.out.size))
  clear hk hz href hb HB0 HM0
  have cm0 : w1.cell? ⟨w.heap.size, 0, none⟩ = some (.int .i64 m0) := (cell_row (j := 0) HM1.out).trans rfl
  have cm1 : w1.cell? ⟨w.heap.size, 1, none⟩ = some (.int .i64 m1) := (cell_row (j := 1) HM1.out).trans rfl
  have cm2 : w1.cell? ⟨w.heap.size, 2, none⟩ = some (.int .i64 m2) := (cell_row (j := 2) HM1.out).trans rfl
  have cm3 : w1.cell? ⟨w.heap.size, 3, none⟩ = some (.int .i64 m3) := (cell_row (j := 3) HM1.out).trans rfl
  go_wp2_with fail
  clear cm0 cm1 cm2 cm3
  refine (HREF.out w1 (HV.out.still HB1.out)).mono ?_
  rintro r w2 ⟨⟨kv2, iv2, rfl, hk2, hz2⟩, hb⟩
  have HK1 := hid (HK.out.still hb)
  have HZ1 := hid (HZ.out.still hb)
  have HK2 := hid hk2
  have HZ2 := hid hz2
  have HM2 := hid (heap_still hb HM1.out)
  have HB2 := hid (HB1.out.trans (hb.mono HB1.out.size))
  clear hk2 hz2 hb HREF HK HZ HM1 HB1
  go_wp2_with fail
  refine (sameFx_any kv kv2 K w2 hkl HK1.out HK2.out).mono ?_
  rintro r w3 ⟨rfl, hb⟩
  have HZ3 := hid (HZ1.out.still hb)
  have HZ4 := hid (HZ2.out.still hb)
  have HM3 := hid (heap_still hb HM2.out)
  have HB3 := hid (HB2.out.trans (hb.mono HB2.out.size))
  clear hb HK1 HK2 HZ1 HZ2 HM2 HB2
  go_wp2_with fail
  refine (sameIss_any iv iv2 Z w3 hzl HZ3.out HZ4.out).mono ?_
  rintro r w4 ⟨rfl, hb⟩
  have HM4 := hid (heap_still hb HM3.out)
  have HB4 := hid (HB3.out.trans (hb.mono HB3.out.size))
  clear hb HZ3 HZ4 HM3 HB3
  have cm0 : w4.cell? ⟨w.heap.size, 0, none⟩ = some (.int .i64 m0) := (cell_row (j := 0) HM4.out).trans rfl
  have cm1 : w4.cell? ⟨w.heap.size, 1, none⟩ = some (.int .i64 m1) := (cell_row (j := 1) HM4.out).trans rfl
  have cm2 : w4.cell? ⟨w.heap.size, 2, none⟩ = some (.int .i64 m2) := (cell_row (j := 2) HM4.out).trans rfl
  have cm3 : w4.cell? ⟨w.heap.size, 3, none⟩ = some (.int .i64 m3) := (cell_row (j := 3) HM4.out).trans rfl
  go_wp2_with fail
  clear cm0 cm1 cm2 cm3
  refine (xParts_u (.slice pa n pc) xs m0 m1 m2 m3 w4 (HV.out.still HB4.out) hn4).mono ?_
  rintro r w5 ⟨⟨tv, P, f, rfl, ht, hpl, hpp, href⟩, hb⟩
  have HT := hid ht
  have HREF := hid href
  have HM5 := hid (heap_still hb HM4.out)
  have HB5 := hid (HB4.out.trans (hb.mono HB4.out.size))
  obtain ⟨ta, tc, htv, _⟩ := ht
  obtain ⟨tn, htn⟩ : ∃ tn, tn = P.length := ⟨_, rfl⟩
  rw [← htn] at htv
  subst htv
  clear href hb htn HM4 HB4
  have HA5 := hid (show Below w5.heap.size w5 (w5.alloc (.cells #[.slice ta tn tc] 64)) from (Below.refl _ _).alloc (Nat.le_refl _) _)
  have HMA := hid (heap_still HA5.out HM5.out)
  have cm0 : (w5.alloc (.cells #[.slice ta tn tc] 64)).cell? ⟨w.heap.size, 0, none⟩ = some (.int .i64 m0) := (cell_row (j := 0) HMA.out).trans rfl
  have cm1 : (w5.alloc (.cells #[.slice ta tn tc] 64)).cell? ⟨w.heap.size, 1, none⟩ = some (.int .i64 m1) := (cell_row (j := 1) HMA.out).trans rfl
  have cm2 : (w5.alloc (.cells #[.slice ta tn tc] 64)).cell? ⟨w.heap.size, 2, none⟩ = some (.int .i64 m2) := (cell_row (j := 2) HMA.out).trans rfl
  have cm3 : (w5.alloc (.cells #[.slice ta tn tc] 64)).cell? ⟨w.heap.size, 3, none⟩ = some (.int .i64 m3) := (cell_row (j := 3) HMA.out).trans rfl
  go_wp2_with fail
  clear cm0 cm1 cm2 cm3
  have HB5A := hid (HB5.out.trans (HA5.out.mono HB5.out.size))
  have HT5 := hid (HT.out.still HA5.out)
  have HC5 := hid (heap_alloc_at w5 (.cells #[.slice ta tn tc] 64) w5.heap.size rfl)
  refine (HREF.out _ (HV.out.still HB5A.out)).mono ?_
  rintro r w6 ⟨⟨tv2, rfl, ht⟩, hb⟩
  have HT6 := hid (HT5.out.still hb)
  have HU6 := hid ht
  have HC6 := hid (heap_still hb HC5.out)
  have HB6 := hid (HB5A.out.trans (hb.mono HB5A.out.size))
  obtain ⟨ub, uc, huv, _⟩ := ht
  obtain ⟨un, hun⟩ : ∃ un, un = P.length := ⟨_, rfl⟩
  rw [← hun] at huv
  subst huv
  clear hb hun HREF HT HM5 HB5 HA5 HMA HB5A HT5 HC5
  have HA6 := hid (show Below w6.heap.size w6 (w6.alloc (.cells #[.slice ub un uc] 64)) from (Below.refl _ _).alloc (Nat.le_refl _) _)
  have c11 : (w6.alloc (.cells #[.slice ub un uc] 64)).cell? ⟨w5.heap.size, 0, none⟩ = some (.slice ta tn tc) := (cell_row (j := 0) (heap_still HA6.out HC6.out)).trans rfl
  go_wp2_with fail
  clear c11
  refine (sameTrack_any _ _ P _ (HT6.out.still HA6.out) (HU6.out.still HA6.out) hpl hpp).mono ?_
  rintro r w7 ⟨rfl, hb⟩
  have HB7 := hid ((HB6.out.trans (HA6.out.mono HB6.out.size)).trans (hb.mono (HB6.out.trans (HA6.out.mono HB6.out.size)).size))
  clear hb HT6 HU6 HC6 HB6 HA6
  go_wp2_with fail
  refine (awake_any _).mono ?_
  rintro r w9 ⟨rfl, hb⟩
  have HB9 := hid (show Below w.heap.size w w9 from HB7.out.trans (hb.mono HB7.out.size))
  clear hb
  go_wp2_with fail
  go_ret
  exact ⟨rfl, HB9.out⟩
end Go.Proofs.Yteoikaedpgianaa
