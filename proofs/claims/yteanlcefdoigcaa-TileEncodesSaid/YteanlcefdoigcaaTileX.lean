/- One tile is found valid just if it is (program and reference), whatever its key and its points, of which there are at most as many as a slice holds. -/
import Derived.Test.YteanlcefdoigcaaTileM
namespace Go.Proofs.Yteanlcefdoigcaa
open Go.ChangeShapes Go.WideShapes Go.RowKit Go.Sort

set_option maxRecDepth 100000 in
set_option maxHeartbeats 6400000 in
theorem xtile_any (k : Ky) (v : Value) (P : List Pt) (w : World) (hp : PtsV w v P) (hn : P.length ≤ maxLen) :
    Calls Try.prog 86 #[.agg #[.int .i64 k.L, .int .i64 k.x, .int .i64 k.y, .int .i64 k.z, v]] w fun r w' => r = .returned (.bool (decide (TlOk ⟨k, P⟩))) ∧ Below w.heap.size w w' := by
  obtain ⟨gv, hgv⟩ : ∃ gv, gv = decide (TlOk ⟨k, P⟩) := ⟨_, rfl⟩
  rw [← hgv]
  have HNO := hid (fun h : ¬ TlOk ⟨k, P⟩ => show gv = false by rw [hgv]; exact decide_eq_false h)
  have HYES := hid (fun h : TlOk ⟨k, P⟩ => show gv = true by rw [hgv]; exact decide_eq_true h)
  clear hgv
  have HP := hid hp
  have HPN := hid hn
  obtain ⟨a, cap, rfl, hpd⟩ := hp
  obtain ⟨n, hnl⟩ : ∃ n, n = P.length := ⟨_, rfl⟩
  rw [← hnl] at HP hn ⊢
  have hn63 : n ≤ 9223372036854775807 := by unfold maxLen at hn; omega
  have HN := hid hnl
  have HPD := hid hpd
  clear hn hnl hpd
  obtain ⟨kL, kx, ky, kz⟩ := k
  cases hkb : keyB kL kx ky kz
  · have HF := hid (HNO.out (fun h => by have := h.key; simp only at this; rw [hkb] at this; cases this))
    have HK := hid hkb
    clear hkb
    go_enter Try.func86, Try.ntmps86
    go_wp2_with fail
    refine (xKey_any _ _ _ _ _).mono ?_
    rintro r w1 ⟨rfl, hb⟩
    rw [HK.out]
    have HB1 := hid ((by refine Below.trans ?_ (hb.mono ?_); (focus ((repeat' (first | (with_reducible exact Below.refl _ _) | (with_reducible assumption) | (with_reducible refine Below.alloc ?_ ?_ _) | (with_reducible refine Below.drew ?_) | (with_reducible refine below_drewN ?_ _) | (with_reducible refine Below.setCell ?_ ?_ _) | (with_reducible refine below_setRow ?_ ?_ _) | go_size)); done)); (focus (first | (simp; done) | (simp; omega)))) : Below w.heap.size w w1)
    clear hb
    go_wp2_with fail
    go_ret
    exact ⟨by rw [HF.out]; rfl, HB1.out⟩
  · have HK := hid hkb
    have hkl := keyB_yes hkb
    have HKY := hid hkl
    clear hkb hkl
    by_cases hn0 : n = 0
    · have hP0 : P = [] := List.eq_nil_of_length_eq_zero (by rw [← HN.out]; exact hn0)
      have HF := hid (HNO.out (fun h => h.ne hP0))
      subst hn0
      go_enter Try.func86, Try.ntmps86
      go_wp2_with fail
      refine (xKey_any _ _ _ _ _).mono ?_
      rintro r w1 ⟨rfl, hb⟩
      rw [HK.out]
      have HB1 := hid ((by refine Below.trans ?_ (hb.mono ?_); (focus ((repeat' (first | (with_reducible exact Below.refl _ _) | (with_reducible assumption) | (with_reducible refine Below.alloc ?_ ?_ _) | (with_reducible refine Below.drew ?_) | (with_reducible refine below_drewN ?_ _) | (with_reducible refine Below.setCell ?_ ?_ _) | (with_reducible refine below_setRow ?_ ?_ _) | go_size)); done)); (focus (first | (simp; done) | (simp; omega)))) : Below w.heap.size w w1)
      have t4 : w1.cell? ⟨w.heap.size, 4, none⟩ = some (.slice a 0 cap) := (cell_row (j := 4) (heap_still hb (heap_alloc_at _ _ _ rfl))).trans rfl
      clear hb
      go_wp2_with fail
      go_ret
      exact ⟨by rw [HF.out]; rfl, HB1.out⟩
    · have d0 : ((n : Int) == 0) = false := by simp; omega
      have hnp : (n : Int) ≠ 0 := by omega
      have hPn : P ≠ [] := fun e => hn0 (by rw [HN.out, e]; rfl)
      obtain ⟨b, off, rfl, hbw, hrows⟩ := HPD.out.resolve_left hPn
      have HRW := hid hrows
      have HBW := hid hbw
      have HPNE := hid hPn
      clear hrows hbw hPn
      go_enter Try.func86, Try.ntmps86
      go_wp2_with fail
      refine (xKey_any _ _ _ _ _).mono ?_
      rintro r w1 ⟨rfl, hb⟩
      rw [HK.out]
      have HB1 := hid ((by refine Below.trans ?_ (hb.mono ?_); (focus ((repeat' (first | (with_reducible exact Below.refl _ _) | (with_reducible assumption) | (with_reducible refine Below.alloc ?_ ?_ _) | (with_reducible refine Below.drew ?_) | (with_reducible refine below_drewN ?_ _) | (with_reducible refine Below.setCell ?_ ?_ _) | (with_reducible refine below_setRow ?_ ?_ _) | go_size)); done)); (focus (first | (simp; done) | (simp; omega)))) : Below w.heap.size w w1)
      have HR1 := hid (show w1.heap[w.heap.size]? = some (.cells #[.int .i64 kL, .int .i64 kx, .int .i64 ky, .int .i64 kz, .slice (some ⟨b, off, none⟩) n cap] 49) from heap_still hb (heap_alloc_at _ _ _ rfl))
      have t4 : w1.cell? ⟨w.heap.size, 4, none⟩ = some (.slice (some ⟨b, off, none⟩) n cap) := (cell_row (j := 4) HR1.out).trans rfl
      have HP1 := hid (HP.out.still HB1.out)
      clear hb
      cases hg : goodL P
      · have HF := hid (HNO.out (fun h => by have := h.good; simp only at this; rw [hg] at this; cases this))
        have HG := hid hg
        clear hg
        go_wp2_with fail
        refine (good_list _ P w1 HP1.out HPN.out).mono ?_
        rintro r w2 ⟨rfl, hb⟩
        rw [HG.out]
        have HB2 := hid (HB1.out.trans (hb.mono HB1.out.size))
        clear hb
        go_wp2_with fail
        go_ret
        exact ⟨by rw [HF.out]; rfl, HB2.out⟩
      · have HG := hid hg
        have HFINE := hid (goodL_facts hg).2.1
        have hn1k : n ≤ 1024 := by rw [HN.out]; exact (goodL_facts hg).2.2
        clear hg
        go_wp2_with fail
        refine (good_list _ P w1 HP1.out HPN.out).mono ?_
        rintro r w2 ⟨rfl, hb⟩
        rw [HG.out]
        have HB2 := hid (HB1.out.trans (hb.mono HB1.out.size))
        have HR2 := hid (heap_still hb HR1.out)
        clear hb t4 hn63
        have t4 : w2.cell? ⟨w.heap.size, 4, none⟩ = some (.slice (some ⟨b, off, none⟩) n cap) := (cell_row (j := 4) HR2.out).trans rfl
        go_wp2_with fail
        clear t4
        have hgs : w.heap.size < w2.heap.size := (Array.getElem?_eq_some_iff.1 HR2.out).1
        go_loopw [24] (fun iv W => ∃ i : Nat, i ≤ n ∧ iv = .int .i64 (i : Int) ∧ StepOk ⟨kL, kx, ky, kz⟩ P i ∧ Below w2.heap.size w2 W) (fun iv _ => n - (intOf iv).toNat)
        case atStart => exact ⟨0, by omega, rfl, StepOk.zero _ _, Below.refl _ _⟩
        case round =>
          obtain ⟨i, hi, rfl, hst, hB⟩ := hrel
          have HST := hid hst
          have HB4 := hid hB
          have hz4 := hB.size
          clear hst hB
          have HBR := hid (HB2.out.trans (HB4.out.mono HB2.out.size))
          by_cases hlt : i < n
          · have d1 : decide ((i : Int) < (n : Int)) = true := decide_eq_true (by omega)
            obtain ⟨p, hp⟩ : ∃ p, P[i]? = some p := ⟨_, List.getElem?_eq_getElem (by rw [← HN.out]; exact hlt)⟩
            have HPI := hid hp
            have HFP := hid (HFINE.out p (List.mem_of_getElem? hp))
            have hcs : ∀ j, j < 9 → wr.cell? ⟨b, off + i * 9 + j, none⟩ = some (.int .i64 (p.f j)) := fun j hj => by
              rw [HBR.out.cell HBW.out, HRW.out i p.row (by rw [List.getElem?_map, hp]; rfl) j hj, Pt.row_at p j hj]
            have HNX0 := hid (fun (hc : cellK kL.toNat p = ⟨kL, kx, ky, kz⟩) (ha : ∀ q, 0 < i → P[i - 1]? = some q → q.id < p.id) => StepOk.next HST.out hp hc ha)
            obtain ⟨l, hl12, hkl⟩ : ∃ l : Nat, l ≤ 12 ∧ kL = l := by
              obtain ⟨h1, _⟩ := HKY.out
              exact ⟨kL.toNat, by omega, by omega⟩
            have HKL := hid (show ((kL.toNat : Nat) : Int) = kL by rw [hkl]; simp)
            have HXC := hid (fun W => xCell_any p.id p.x p.y p.zl p.zh p.wd p.nm p.of p.cl kL.toNat (by omega) HFP.out.2.1 HFP.out.2.2.1 HFP.out.2.2.2 W)
            clear hp hkl hl12
            obtain ⟨p0, p1, p2, p3, p4, p5, p6, p7, p8⟩ := p
            simp only [HKL.out] at HXC
            have a0 : wr.cell? ⟨b, off + i * 9, none⟩ = some (.int .i64 p0) := hcs 0 (by decide)
            have a1 : wr.cell? ⟨b, off + i * 9 + 1, none⟩ = some (.int .i64 p1) := hcs 1 (by decide)
            have a2 : wr.cell? ⟨b, off + i * 9 + 2, none⟩ = some (.int .i64 p2) := hcs 2 (by decide)
            have a3 : wr.cell? ⟨b, off + i * 9 + 3, none⟩ = some (.int .i64 p3) := hcs 3 (by decide)
            have a4 : wr.cell? ⟨b, off + i * 9 + 4, none⟩ = some (.int .i64 p4) := hcs 4 (by decide)
            have a5 : wr.cell? ⟨b, off + i * 9 + 5, none⟩ = some (.int .i64 p5) := hcs 5 (by decide)
            have a6 : wr.cell? ⟨b, off + i * 9 + 6, none⟩ = some (.int .i64 p6) := hcs 6 (by decide)
            have a7 : wr.cell? ⟨b, off + i * 9 + 7, none⟩ = some (.int .i64 p7) := hcs 7 (by decide)
            have a8 : wr.cell? ⟨b, off + i * 9 + 8, none⟩ = some (.int .i64 p8) := hcs 8 (by decide)
            clear hcs
            go_upto_region 6 with fail
            refine gen_world (fun W5 hW5 => ?_)
            have HP5 := hid (show W5.heap[wr.heap.size]? = some (.cells #[.int .i64 p0, .int .i64 p1, .int .i64 p2, .int .i64 p3, .int .i64 p4, .int .i64 p5, .int .i64 p6, .int .i64 p7, .int .i64 p8] 36) by rw [hW5]; exact heap_alloc_at _ _ _ rfl)
            have HB5 := hid (show Below w2.heap.size w2 W5 by rw [hW5]; exact HB4.out.alloc hz4 _)
            have HT5 := hid (heap_still HB5.out HR2.out)
            have HBX := hid (show Below w.heap.size w W5 from HB2.out.trans (HB5.out.mono HB2.out.size))
            clear hW5 a0 a1 a2 a3 a4 a5 a6 a7 a8
            obtain ⟨g, hg⟩ : ∃ g, g = wr.heap.size := ⟨_, rfl⟩
            rw [← hg] at HP5 ⊢
            clear hg
            have t0 := fun d os => cell_regrown (show W5.cell? ⟨w.heap.size, 0, none⟩ = some (.int .i64 kL) from (cell_row (j := 0) HT5.out).trans rfl) d os
            have t1 := fun d os => cell_regrown (show W5.cell? ⟨w.heap.size, 1, none⟩ = some (.int .i64 kx) from (cell_row (j := 1) HT5.out).trans rfl) d os
            have t2 := fun d os => cell_regrown (show W5.cell? ⟨w.heap.size, 2, none⟩ = some (.int .i64 ky) from (cell_row (j := 2) HT5.out).trans rfl) d os
            have t3 := fun d os => cell_regrown (show W5.cell? ⟨w.heap.size, 3, none⟩ = some (.int .i64 kz) from (cell_row (j := 3) HT5.out).trans rfl) d os
            have t4 := fun d os => cell_regrown (show W5.cell? ⟨w.heap.size, 4, none⟩ = some (.slice (some ⟨b, off, none⟩) n cap) from (cell_row (j := 4) HT5.out).trans rfl) d os
            have c0 := fun d os => cell_regrown (show W5.cell? ⟨g, 0, none⟩ = some (.int .i64 p0) from (cell_row (j := 0) HP5.out).trans rfl) d os
            have c1 := fun d os => cell_regrown (show W5.cell? ⟨g, 1, none⟩ = some (.int .i64 p1) from (cell_row (j := 1) HP5.out).trans rfl) d os
            have c2 := fun d os => cell_regrown (show W5.cell? ⟨g, 2, none⟩ = some (.int .i64 p2) from (cell_row (j := 2) HP5.out).trans rfl) d os
            have c3 := fun d os => cell_regrown (show W5.cell? ⟨g, 3, none⟩ = some (.int .i64 p3) from (cell_row (j := 3) HP5.out).trans rfl) d os
            have c4 := fun d os => cell_regrown (show W5.cell? ⟨g, 4, none⟩ = some (.int .i64 p4) from (cell_row (j := 4) HP5.out).trans rfl) d os
            have c5 := fun d os => cell_regrown (show W5.cell? ⟨g, 5, none⟩ = some (.int .i64 p5) from (cell_row (j := 5) HP5.out).trans rfl) d os
            have c6 := fun d os => cell_regrown (show W5.cell? ⟨g, 6, none⟩ = some (.int .i64 p6) from (cell_row (j := 6) HP5.out).trans rfl) d os
            have c7 := fun d os => cell_regrown (show W5.cell? ⟨g, 7, none⟩ = some (.int .i64 p7) from (cell_row (j := 7) HP5.out).trans rfl) d os
            have c8 := fun d os => cell_regrown (show W5.cell? ⟨g, 8, none⟩ = some (.int .i64 p8) from (cell_row (j := 8) HP5.out).trans rfl) d os
            by_cases hi0 : i = 0
            · have dg : decide ((0 : Int) < (i : Int)) = false := decide_eq_false (by omega)
              have dg2 : ¬ 0 < i := by omega
              cases hcb : decide (cellK kL.toNat ⟨p0, p1, p2, p3, p4, p5, p6, p7, p8⟩ = ⟨kL, kx, ky, kz⟩)
              · have heq : ∀ W, (Op.equalIn 10000 39 (.agg (cellC kL.toNat p1 p2 p3)) (.agg #[.int .i64 kL, .int .i64 kx, .int .i64 ky, .int .i64 kz])).run Try.prog W = .ok false W := eqKeys (cellK kL.toNat ⟨p0, p1, p2, p3, p4, p5, p6, p7, p8⟩) ⟨kL, kx, ky, kz⟩ false hcb.symm
                have HF := hid (HNO.out (TlOk.not_cell (t := ⟨⟨kL, kx, ky, kz⟩, P⟩) HPI.out (of_decide_eq_false hcb)))
                clear hcb
                go_wp2_with fail
                refine wp_region_quiet_below (by kernel_rfl) (by kernel_rfl) ?_
                repeat (first | go_big_quiet_step ((go_at_call 52; with_reducible exact Calls.regrown_of (HXC.out _))) | quiet_step ((go_at_call 52; with_reducible exact Calls.regrown_of (HXC.out _))))
                refine wpQuiet_nil ?_
                intro _ hw'
                obtain ⟨⟨dqV, osV⟩, hw2⟩ := hw'
                subst hw2
                have HQV := hid (below_regrown W5 dqV osV)
                generalize Sort.grow (redrawn W5 dqV) osV = V at HQV ⊢
                have hsV := HQV.out.size
                clear c0 c1 c2 c3 c4 c5 c6 c7 c8 t0 t1 t2 t3 t4
                clear heq
                go_wp2_with fail
                go_ret
                exact ⟨by rw [HF.out]; rfl, HBX.out.trans (HQV.out.mono HBX.out.size)⟩
              · have heq : ∀ W, (Op.equalIn 10000 39 (.agg (cellC kL.toNat p1 p2 p3)) (.agg #[.int .i64 kL, .int .i64 kx, .int .i64 ky, .int .i64 kz])).run Try.prog W = .ok true W := eqKeys (cellK kL.toNat ⟨p0, p1, p2, p3, p4, p5, p6, p7, p8⟩) ⟨kL, kx, ky, kz⟩ true hcb.symm
                have HST2 := hid (HNX0.out (of_decide_eq_true hcb) (fun q h _ => absurd h dg2))
                clear hcb
                go_wp2_with fail
                refine wp_region_quiet_below (by kernel_rfl) (by kernel_rfl) ?_
                repeat (first | go_big_quiet_step ((go_at_call 52; with_reducible exact Calls.regrown_of (HXC.out _))) | quiet_step ((go_at_call 52; with_reducible exact Calls.regrown_of (HXC.out _))))
                refine wpQuiet_nil ?_
                intro _ hw'
                obtain ⟨⟨dqV, osV⟩, hw2⟩ := hw'
                subst hw2
                have HQV := hid (below_regrown W5 dqV osV)
                generalize Sort.grow (redrawn W5 dqV) osV = V at HQV ⊢
                have hsV := HQV.out.size
                clear c0 c1 c2 c3 c4 c5 c6 c7 c8 t0 t1 t2 t3 t4
                clear heq
                go_wp2_with fail
                exact ⟨⟨i + 1, by omega, by go_num, HST2.out, HB5.out.trans (HQV.out.mono HB5.out.size)⟩, by simp [intOf]; omega⟩
            · obtain ⟨q, hq⟩ : ∃ q, P[i - 1]? = some q := ⟨_, List.getElem?_eq_getElem (by rw [← HN.out]; omega)⟩
              have b0 := fun d os => cell_regrown (show W5.cell? ⟨b, off + (i - 1) * 9, none⟩ = some (.int .i64 q.id) by
                rw [HBX.out.cell HBW.out]
                exact (HRW.out (i - 1) q.row (by rw [List.getElem?_map, hq]; rfl) 0 (by decide)).trans rfl) d os
              have dg : decide ((0 : Int) < (i : Int)) = true := decide_eq_true (by omega)
              have dg2 : 0 < i := by omega
              have HQ := hid hq
              clear hq
              by_cases hle : p0 ≤ q.id
              · have HF := hid (HNO.out (TlOk.not_asc (t := ⟨⟨kL, kx, ky, kz⟩, P⟩) dg2 HQ.out HPI.out (show ¬ q.id < p0 by omega)))
                have dl : decide (p0 ≤ q.id) = true := decide_eq_true hle
                go_wp2_with fail
                refine wp_region_quiet_below (by kernel_rfl) (by kernel_rfl) ?_
                repeat (first | go_big_quiet_step (fail) | quiet_step (fail))
                refine wpQuiet_nil ?_
                intro _ hw'
                obtain ⟨⟨dqV, osV⟩, hw2⟩ := hw'
                subst hw2
                have HQV := hid (below_regrown W5 dqV osV)
                generalize Sort.grow (redrawn W5 dqV) osV = V at HQV ⊢
                have hsV := HQV.out.size
                clear c0 c1 c2 c3 c4 c5 c6 c7 c8 t0 t1 t2 t3 t4
                clear b0
                go_wp2_with fail
                go_ret
                exact ⟨by rw [HF.out]; rfl, HBX.out.trans (HQV.out.mono HBX.out.size)⟩
              · have dl : decide (p0 ≤ q.id) = false := decide_eq_false hle
                have HLT := hid (show q.id < p0 by omega)
                have HPV := hid (fun (x : Pt) (_ : 0 < i) (hx : P[i - 1]? = some x) => show x.id < p0 from by rw [Option.some.inj (hx.symm.trans HQ.out)]; exact HLT.out)
                cases hcb : decide (cellK kL.toNat ⟨p0, p1, p2, p3, p4, p5, p6, p7, p8⟩ = ⟨kL, kx, ky, kz⟩)
                · have heq : ∀ W, (Op.equalIn 10000 39 (.agg (cellC kL.toNat p1 p2 p3)) (.agg #[.int .i64 kL, .int .i64 kx, .int .i64 ky, .int .i64 kz])).run Try.prog W = .ok false W := eqKeys (cellK kL.toNat ⟨p0, p1, p2, p3, p4, p5, p6, p7, p8⟩) ⟨kL, kx, ky, kz⟩ false hcb.symm
                  have HF := hid (HNO.out (TlOk.not_cell (t := ⟨⟨kL, kx, ky, kz⟩, P⟩) HPI.out (of_decide_eq_false hcb)))
                  clear hcb
                  go_wp2_with fail
                  refine wp_region_quiet_below (by kernel_rfl) (by kernel_rfl) ?_
                  repeat (first | go_big_quiet_step ((go_at_call 52; with_reducible exact Calls.regrown_of (HXC.out _))) | quiet_step ((go_at_call 52; with_reducible exact Calls.regrown_of (HXC.out _))))
                  refine wpQuiet_nil ?_
                  intro _ hw'
                  obtain ⟨⟨dqV, osV⟩, hw2⟩ := hw'
                  subst hw2
                  have HQV := hid (below_regrown W5 dqV osV)
                  generalize Sort.grow (redrawn W5 dqV) osV = V at HQV ⊢
                  have hsV := HQV.out.size
                  clear c0 c1 c2 c3 c4 c5 c6 c7 c8 t0 t1 t2 t3 t4
                  clear heq
                  go_wp2_with fail
                  go_ret
                  exact ⟨by rw [HF.out]; rfl, HBX.out.trans (HQV.out.mono HBX.out.size)⟩
                · have heq : ∀ W, (Op.equalIn 10000 39 (.agg (cellC kL.toNat p1 p2 p3)) (.agg #[.int .i64 kL, .int .i64 kx, .int .i64 ky, .int .i64 kz])).run Try.prog W = .ok true W := eqKeys (cellK kL.toNat ⟨p0, p1, p2, p3, p4, p5, p6, p7, p8⟩) ⟨kL, kx, ky, kz⟩ true hcb.symm
                  have HST2 := hid (HNX0.out (of_decide_eq_true hcb) HPV.out)
                  clear hcb
                  go_wp2_with fail
                  refine wp_region_quiet_below (by kernel_rfl) (by kernel_rfl) ?_
                  repeat (first | go_big_quiet_step ((go_at_call 52; with_reducible exact Calls.regrown_of (HXC.out _))) | quiet_step ((go_at_call 52; with_reducible exact Calls.regrown_of (HXC.out _))))
                  refine wpQuiet_nil ?_
                  intro _ hw'
                  obtain ⟨⟨dqV, osV⟩, hw2⟩ := hw'
                  subst hw2
                  have HQV := hid (below_regrown W5 dqV osV)
                  generalize Sort.grow (redrawn W5 dqV) osV = V at HQV ⊢
                  have hsV := HQV.out.size
                  clear c0 c1 c2 c3 c4 c5 c6 c7 c8 t0 t1 t2 t3 t4
                  clear heq
                  go_wp2_with fail
                  exact ⟨⟨i + 1, by omega, by go_num, HST2.out, HB5.out.trans (HQV.out.mono HB5.out.size)⟩, by simp [intOf]; omega⟩
          · obtain rfl : i = n := by omega
            have d1 : decide ((i : Int) < (i : Int)) = false := by simp
            have HF := hid (HYES.out (StepOk.done (by rw [← HN.out]; exact HST.out) HK.out HPNE.out HG.out))
            go_wp2_with fail
            go_ret
            exact ⟨by rw [HF.out]; rfl, HBR.out⟩
set_option maxRecDepth 100000 in
set_option maxHeartbeats 6400000 in
theorem rtile_any (k : Ky) (v : Value) (P : List Pt) (w : World) (hp : PtsV w v P) (hn : P.length ≤ maxLen) :
    Calls Try.prog 56 #[.agg #[.int .i64 k.L, .int .i64 k.x, .int .i64 k.y, .int .i64 k.z, v]] w fun r w' => r = .returned (.bool (decide (TlOk ⟨k, P⟩))) ∧ Below w.heap.size w w' := by
  obtain ⟨gv, hgv⟩ : ∃ gv, gv = decide (TlOk ⟨k, P⟩) := ⟨_, rfl⟩
  rw [← hgv]
  have HNO := hid (fun h : ¬ TlOk ⟨k, P⟩ => show gv = false by rw [hgv]; exact decide_eq_false h)
  have HYES := hid (fun h : TlOk ⟨k, P⟩ => show gv = true by rw [hgv]; exact decide_eq_true h)
  clear hgv
  have HP := hid hp
  have HPN := hid hn
  obtain ⟨a, cap, rfl, hpd⟩ := hp
  obtain ⟨n, hnl⟩ : ∃ n, n = P.length := ⟨_, rfl⟩
  rw [← hnl] at HP hn ⊢
  have hn63 : n ≤ 9223372036854775807 := by unfold maxLen at hn; omega
  have HN := hid hnl
  have HPD := hid hpd
  clear hn hnl hpd
  obtain ⟨kL, kx, ky, kz⟩ := k
  cases hkb : keyB kL kx ky kz
  · have HF := hid (HNO.out (fun h => by have := h.key; simp only at this; rw [hkb] at this; cases this))
    have HK := hid hkb
    clear hkb
    go_enter Try.func56, Try.ntmps56
    go_wp2_with fail
    refine (rKey_any _ _ _ _ _).mono ?_
    rintro r w1 ⟨rfl, hb⟩
    rw [HK.out]
    have HB1 := hid ((by refine Below.trans ?_ (hb.mono ?_); (focus ((repeat' (first | (with_reducible exact Below.refl _ _) | (with_reducible assumption) | (with_reducible refine Below.alloc ?_ ?_ _) | (with_reducible refine Below.drew ?_) | (with_reducible refine below_drewN ?_ _) | (with_reducible refine Below.setCell ?_ ?_ _) | (with_reducible refine below_setRow ?_ ?_ _) | go_size)); done)); (focus (first | (simp; done) | (simp; omega)))) : Below w.heap.size w w1)
    clear hb
    go_wp2_with fail
    go_ret
    exact ⟨by rw [HF.out]; rfl, HB1.out⟩
  · have HK := hid hkb
    have hkl := keyB_yes hkb
    have HKY := hid hkl
    clear hkb hkl
    by_cases hn0 : n = 0
    · have hP0 : P = [] := List.eq_nil_of_length_eq_zero (by rw [← HN.out]; exact hn0)
      have HF := hid (HNO.out (fun h => h.ne hP0))
      subst hn0
      go_enter Try.func56, Try.ntmps56
      go_wp2_with fail
      refine (rKey_any _ _ _ _ _).mono ?_
      rintro r w1 ⟨rfl, hb⟩
      rw [HK.out]
      have HB1 := hid ((by refine Below.trans ?_ (hb.mono ?_); (focus ((repeat' (first | (with_reducible exact Below.refl _ _) | (with_reducible assumption) | (with_reducible refine Below.alloc ?_ ?_ _) | (with_reducible refine Below.drew ?_) | (with_reducible refine below_drewN ?_ _) | (with_reducible refine Below.setCell ?_ ?_ _) | (with_reducible refine below_setRow ?_ ?_ _) | go_size)); done)); (focus (first | (simp; done) | (simp; omega)))) : Below w.heap.size w w1)
      have t4 : w1.cell? ⟨w.heap.size, 4, none⟩ = some (.slice a 0 cap) := (cell_row (j := 4) (heap_still hb (heap_alloc_at _ _ _ rfl))).trans rfl
      clear hb
      go_wp2_with fail
      go_ret
      exact ⟨by rw [HF.out]; rfl, HB1.out⟩
    · have d0 : ((n : Int) == 0) = false := by simp; omega
      have hnp : (n : Int) ≠ 0 := by omega
      have hPn : P ≠ [] := fun e => hn0 (by rw [HN.out, e]; rfl)
      obtain ⟨b, off, rfl, hbw, hrows⟩ := HPD.out.resolve_left hPn
      have HRW := hid hrows
      have HBW := hid hbw
      have HPNE := hid hPn
      clear hrows hbw hPn
      go_enter Try.func56, Try.ntmps56
      go_wp2_with fail
      refine (rKey_any _ _ _ _ _).mono ?_
      rintro r w1 ⟨rfl, hb⟩
      rw [HK.out]
      have HB1 := hid ((by refine Below.trans ?_ (hb.mono ?_); (focus ((repeat' (first | (with_reducible exact Below.refl _ _) | (with_reducible assumption) | (with_reducible refine Below.alloc ?_ ?_ _) | (with_reducible refine Below.drew ?_) | (with_reducible refine below_drewN ?_ _) | (with_reducible refine Below.setCell ?_ ?_ _) | (with_reducible refine below_setRow ?_ ?_ _) | go_size)); done)); (focus (first | (simp; done) | (simp; omega)))) : Below w.heap.size w w1)
      have HR1 := hid (show w1.heap[w.heap.size]? = some (.cells #[.int .i64 kL, .int .i64 kx, .int .i64 ky, .int .i64 kz, .slice (some ⟨b, off, none⟩) n cap] 49) from heap_still hb (heap_alloc_at _ _ _ rfl))
      have t4 : w1.cell? ⟨w.heap.size, 4, none⟩ = some (.slice (some ⟨b, off, none⟩) n cap) := (cell_row (j := 4) HR1.out).trans rfl
      have HP1 := hid (HP.out.still HB1.out)
      clear hb
      cases hg : goodL P
      · have HF := hid (HNO.out (fun h => by have := h.good; simp only at this; rw [hg] at this; cases this))
        have HG := hid hg
        clear hg
        go_wp2_with fail
        refine (rvalid_list _ P w1 HP1.out ).mono ?_
        rintro r w2 ⟨rfl, hb⟩
        rw [HG.out]
        have HB2 := hid (HB1.out.trans (hb.mono HB1.out.size))
        clear hb
        go_wp2_with fail
        go_ret
        exact ⟨by rw [HF.out]; rfl, HB2.out⟩
      · have HG := hid hg
        have HFINE := hid (goodL_facts hg).2.1
        have hn1k : n ≤ 1024 := by rw [HN.out]; exact (goodL_facts hg).2.2
        clear hg
        go_wp2_with fail
        refine (rvalid_list _ P w1 HP1.out ).mono ?_
        rintro r w2 ⟨rfl, hb⟩
        rw [HG.out]
        have HB2 := hid (HB1.out.trans (hb.mono HB1.out.size))
        have HR2 := hid (heap_still hb HR1.out)
        clear hb t4 hn63
        have t4 : w2.cell? ⟨w.heap.size, 4, none⟩ = some (.slice (some ⟨b, off, none⟩) n cap) := (cell_row (j := 4) HR2.out).trans rfl
        go_wp2_with fail
        clear t4
        have hgs : w.heap.size < w2.heap.size := (Array.getElem?_eq_some_iff.1 HR2.out).1
        go_loopw [24] (fun iv W => ∃ i : Nat, i ≤ n ∧ iv = .int .i64 (i : Int) ∧ StepOk ⟨kL, kx, ky, kz⟩ P i ∧ Below w2.heap.size w2 W) (fun iv _ => n - (intOf iv).toNat)
        case atStart => exact ⟨0, by omega, rfl, StepOk.zero _ _, Below.refl _ _⟩
        case round =>
          obtain ⟨i, hi, rfl, hst, hB⟩ := hrel
          have HST := hid hst
          have HB4 := hid hB
          have hz4 := hB.size
          clear hst hB
          have HBR := hid (HB2.out.trans (HB4.out.mono HB2.out.size))
          by_cases hlt : i < n
          · have d1 : decide ((i : Int) < (n : Int)) = true := decide_eq_true (by omega)
            obtain ⟨p, hp⟩ : ∃ p, P[i]? = some p := ⟨_, List.getElem?_eq_getElem (by rw [← HN.out]; exact hlt)⟩
            have HPI := hid hp
            have HFP := hid (HFINE.out p (List.mem_of_getElem? hp))
            have hcs : ∀ j, j < 9 → wr.cell? ⟨b, off + i * 9 + j, none⟩ = some (.int .i64 (p.f j)) := fun j hj => by
              rw [HBR.out.cell HBW.out, HRW.out i p.row (by rw [List.getElem?_map, hp]; rfl) j hj, Pt.row_at p j hj]
            have HNX0 := hid (fun (hc : cellK kL.toNat p = ⟨kL, kx, ky, kz⟩) (ha : ∀ q, 0 < i → P[i - 1]? = some q → q.id < p.id) => StepOk.next HST.out hp hc ha)
            obtain ⟨l, hl12, hkl⟩ : ∃ l : Nat, l ≤ 12 ∧ kL = l := by
              obtain ⟨h1, _⟩ := HKY.out
              exact ⟨kL.toNat, by omega, by omega⟩
            have HKL := hid (show ((kL.toNat : Nat) : Int) = kL by rw [hkl]; simp)
            have HXC := hid (fun W => rCell_any p.id p.x p.y p.zl p.zh p.wd p.nm p.of p.cl kL.toNat (by omega) HFP.out.2.1 HFP.out.2.2.1 HFP.out.2.2.2 W)
            clear hp hkl hl12
            obtain ⟨p0, p1, p2, p3, p4, p5, p6, p7, p8⟩ := p
            simp only [HKL.out] at HXC
            have a0 : wr.cell? ⟨b, off + i * 9, none⟩ = some (.int .i64 p0) := hcs 0 (by decide)
            have a1 : wr.cell? ⟨b, off + i * 9 + 1, none⟩ = some (.int .i64 p1) := hcs 1 (by decide)
            have a2 : wr.cell? ⟨b, off + i * 9 + 2, none⟩ = some (.int .i64 p2) := hcs 2 (by decide)
            have a3 : wr.cell? ⟨b, off + i * 9 + 3, none⟩ = some (.int .i64 p3) := hcs 3 (by decide)
            have a4 : wr.cell? ⟨b, off + i * 9 + 4, none⟩ = some (.int .i64 p4) := hcs 4 (by decide)
            have a5 : wr.cell? ⟨b, off + i * 9 + 5, none⟩ = some (.int .i64 p5) := hcs 5 (by decide)
            have a6 : wr.cell? ⟨b, off + i * 9 + 6, none⟩ = some (.int .i64 p6) := hcs 6 (by decide)
            have a7 : wr.cell? ⟨b, off + i * 9 + 7, none⟩ = some (.int .i64 p7) := hcs 7 (by decide)
            have a8 : wr.cell? ⟨b, off + i * 9 + 8, none⟩ = some (.int .i64 p8) := hcs 8 (by decide)
            clear hcs
            go_upto_region 6 with fail
            refine gen_world (fun W5 hW5 => ?_)
            have HP5 := hid (show W5.heap[wr.heap.size]? = some (.cells #[.int .i64 p0, .int .i64 p1, .int .i64 p2, .int .i64 p3, .int .i64 p4, .int .i64 p5, .int .i64 p6, .int .i64 p7, .int .i64 p8] 36) by rw [hW5]; exact heap_alloc_at _ _ _ rfl)
            have HB5 := hid (show Below w2.heap.size w2 W5 by rw [hW5]; exact HB4.out.alloc hz4 _)
            have HT5 := hid (heap_still HB5.out HR2.out)
            have HBX := hid (show Below w.heap.size w W5 from HB2.out.trans (HB5.out.mono HB2.out.size))
            clear hW5 a0 a1 a2 a3 a4 a5 a6 a7 a8
            obtain ⟨g, hg⟩ : ∃ g, g = wr.heap.size := ⟨_, rfl⟩
            rw [← hg] at HP5 ⊢
            clear hg
            have t0 := fun d os => cell_regrown (show W5.cell? ⟨w.heap.size, 0, none⟩ = some (.int .i64 kL) from (cell_row (j := 0) HT5.out).trans rfl) d os
            have t1 := fun d os => cell_regrown (show W5.cell? ⟨w.heap.size, 1, none⟩ = some (.int .i64 kx) from (cell_row (j := 1) HT5.out).trans rfl) d os
            have t2 := fun d os => cell_regrown (show W5.cell? ⟨w.heap.size, 2, none⟩ = some (.int .i64 ky) from (cell_row (j := 2) HT5.out).trans rfl) d os
            have t3 := fun d os => cell_regrown (show W5.cell? ⟨w.heap.size, 3, none⟩ = some (.int .i64 kz) from (cell_row (j := 3) HT5.out).trans rfl) d os
            have t4 := fun d os => cell_regrown (show W5.cell? ⟨w.heap.size, 4, none⟩ = some (.slice (some ⟨b, off, none⟩) n cap) from (cell_row (j := 4) HT5.out).trans rfl) d os
            have c0 := fun d os => cell_regrown (show W5.cell? ⟨g, 0, none⟩ = some (.int .i64 p0) from (cell_row (j := 0) HP5.out).trans rfl) d os
            have c1 := fun d os => cell_regrown (show W5.cell? ⟨g, 1, none⟩ = some (.int .i64 p1) from (cell_row (j := 1) HP5.out).trans rfl) d os
            have c2 := fun d os => cell_regrown (show W5.cell? ⟨g, 2, none⟩ = some (.int .i64 p2) from (cell_row (j := 2) HP5.out).trans rfl) d os
            have c3 := fun d os => cell_regrown (show W5.cell? ⟨g, 3, none⟩ = some (.int .i64 p3) from (cell_row (j := 3) HP5.out).trans rfl) d os
            have c4 := fun d os => cell_regrown (show W5.cell? ⟨g, 4, none⟩ = some (.int .i64 p4) from (cell_row (j := 4) HP5.out).trans rfl) d os
            have c5 := fun d os => cell_regrown (show W5.cell? ⟨g, 5, none⟩ = some (.int .i64 p5) from (cell_row (j := 5) HP5.out).trans rfl) d os
            have c6 := fun d os => cell_regrown (show W5.cell? ⟨g, 6, none⟩ = some (.int .i64 p6) from (cell_row (j := 6) HP5.out).trans rfl) d os
            have c7 := fun d os => cell_regrown (show W5.cell? ⟨g, 7, none⟩ = some (.int .i64 p7) from (cell_row (j := 7) HP5.out).trans rfl) d os
            have c8 := fun d os => cell_regrown (show W5.cell? ⟨g, 8, none⟩ = some (.int .i64 p8) from (cell_row (j := 8) HP5.out).trans rfl) d os
            by_cases hi0 : i = 0
            · have dg : decide ((0 : Int) < (i : Int)) = false := decide_eq_false (by omega)
              have dg2 : ¬ 0 < i := by omega
              cases hcb : decide (cellK kL.toNat ⟨p0, p1, p2, p3, p4, p5, p6, p7, p8⟩ = ⟨kL, kx, ky, kz⟩)
              · have heq : ∀ W, (Op.equalIn 10000 39 (.agg (cellC kL.toNat p1 p2 p3)) (.agg #[.int .i64 kL, .int .i64 kx, .int .i64 ky, .int .i64 kz])).run Try.prog W = .ok false W := eqKeys (cellK kL.toNat ⟨p0, p1, p2, p3, p4, p5, p6, p7, p8⟩) ⟨kL, kx, ky, kz⟩ false hcb.symm
                have HF := hid (HNO.out (TlOk.not_cell (t := ⟨⟨kL, kx, ky, kz⟩, P⟩) HPI.out (of_decide_eq_false hcb)))
                clear hcb
                go_wp2_with fail
                refine wp_region_quiet_below (by kernel_rfl) (by kernel_rfl) ?_
                repeat (first | go_big_quiet_step ((go_at_call 53; with_reducible exact Calls.regrown_of (HXC.out _))) | quiet_step ((go_at_call 53; with_reducible exact Calls.regrown_of (HXC.out _))))
                refine wpQuiet_nil ?_
                intro _ hw'
                obtain ⟨⟨dqV, osV⟩, hw2⟩ := hw'
                subst hw2
                have HQV := hid (below_regrown W5 dqV osV)
                generalize Sort.grow (redrawn W5 dqV) osV = V at HQV ⊢
                have hsV := HQV.out.size
                clear c0 c1 c2 c3 c4 c5 c6 c7 c8 t0 t1 t2 t3 t4
                clear heq
                go_wp2_with fail
                go_ret
                exact ⟨by rw [HF.out]; rfl, HBX.out.trans (HQV.out.mono HBX.out.size)⟩
              · have heq : ∀ W, (Op.equalIn 10000 39 (.agg (cellC kL.toNat p1 p2 p3)) (.agg #[.int .i64 kL, .int .i64 kx, .int .i64 ky, .int .i64 kz])).run Try.prog W = .ok true W := eqKeys (cellK kL.toNat ⟨p0, p1, p2, p3, p4, p5, p6, p7, p8⟩) ⟨kL, kx, ky, kz⟩ true hcb.symm
                have HST2 := hid (HNX0.out (of_decide_eq_true hcb) (fun q h _ => absurd h dg2))
                clear hcb
                go_wp2_with fail
                refine wp_region_quiet_below (by kernel_rfl) (by kernel_rfl) ?_
                repeat (first | go_big_quiet_step ((go_at_call 53; with_reducible exact Calls.regrown_of (HXC.out _))) | quiet_step ((go_at_call 53; with_reducible exact Calls.regrown_of (HXC.out _))))
                refine wpQuiet_nil ?_
                intro _ hw'
                obtain ⟨⟨dqV, osV⟩, hw2⟩ := hw'
                subst hw2
                have HQV := hid (below_regrown W5 dqV osV)
                generalize Sort.grow (redrawn W5 dqV) osV = V at HQV ⊢
                have hsV := HQV.out.size
                clear c0 c1 c2 c3 c4 c5 c6 c7 c8 t0 t1 t2 t3 t4
                clear heq
                go_wp2_with fail
                exact ⟨⟨i + 1, by omega, by go_num, HST2.out, HB5.out.trans (HQV.out.mono HB5.out.size)⟩, by simp [intOf]; omega⟩
            · obtain ⟨q, hq⟩ : ∃ q, P[i - 1]? = some q := ⟨_, List.getElem?_eq_getElem (by rw [← HN.out]; omega)⟩
              have b0 := fun d os => cell_regrown (show W5.cell? ⟨b, off + (i - 1) * 9, none⟩ = some (.int .i64 q.id) by
                rw [HBX.out.cell HBW.out]
                exact (HRW.out (i - 1) q.row (by rw [List.getElem?_map, hq]; rfl) 0 (by decide)).trans rfl) d os
              have dg : decide ((0 : Int) < (i : Int)) = true := decide_eq_true (by omega)
              have dg2 : 0 < i := by omega
              have HQ := hid hq
              clear hq
              by_cases hle : p0 ≤ q.id
              · have HF := hid (HNO.out (TlOk.not_asc (t := ⟨⟨kL, kx, ky, kz⟩, P⟩) dg2 HQ.out HPI.out (show ¬ q.id < p0 by omega)))
                have dl : decide (p0 ≤ q.id) = true := decide_eq_true hle
                go_wp2_with fail
                refine wp_region_quiet_below (by kernel_rfl) (by kernel_rfl) ?_
                repeat (first | go_big_quiet_step (fail) | quiet_step (fail))
                refine wpQuiet_nil ?_
                intro _ hw'
                obtain ⟨⟨dqV, osV⟩, hw2⟩ := hw'
                subst hw2
                have HQV := hid (below_regrown W5 dqV osV)
                generalize Sort.grow (redrawn W5 dqV) osV = V at HQV ⊢
                have hsV := HQV.out.size
                clear c0 c1 c2 c3 c4 c5 c6 c7 c8 t0 t1 t2 t3 t4
                clear b0
                go_wp2_with fail
                go_ret
                exact ⟨by rw [HF.out]; rfl, HBX.out.trans (HQV.out.mono HBX.out.size)⟩
              · have dl : decide (p0 ≤ q.id) = false := decide_eq_false hle
                have HLT := hid (show q.id < p0 by omega)
                have HPV := hid (fun (x : Pt) (_ : 0 < i) (hx : P[i - 1]? = some x) => show x.id < p0 from by rw [Option.some.inj (hx.symm.trans HQ.out)]; exact HLT.out)
                cases hcb : decide (cellK kL.toNat ⟨p0, p1, p2, p3, p4, p5, p6, p7, p8⟩ = ⟨kL, kx, ky, kz⟩)
                · have heq : ∀ W, (Op.equalIn 10000 39 (.agg (cellC kL.toNat p1 p2 p3)) (.agg #[.int .i64 kL, .int .i64 kx, .int .i64 ky, .int .i64 kz])).run Try.prog W = .ok false W := eqKeys (cellK kL.toNat ⟨p0, p1, p2, p3, p4, p5, p6, p7, p8⟩) ⟨kL, kx, ky, kz⟩ false hcb.symm
                  have HF := hid (HNO.out (TlOk.not_cell (t := ⟨⟨kL, kx, ky, kz⟩, P⟩) HPI.out (of_decide_eq_false hcb)))
                  clear hcb
                  go_wp2_with fail
                  refine wp_region_quiet_below (by kernel_rfl) (by kernel_rfl) ?_
                  repeat (first | go_big_quiet_step ((go_at_call 53; with_reducible exact Calls.regrown_of (HXC.out _))) | quiet_step ((go_at_call 53; with_reducible exact Calls.regrown_of (HXC.out _))))
                  refine wpQuiet_nil ?_
                  intro _ hw'
                  obtain ⟨⟨dqV, osV⟩, hw2⟩ := hw'
                  subst hw2
                  have HQV := hid (below_regrown W5 dqV osV)
                  generalize Sort.grow (redrawn W5 dqV) osV = V at HQV ⊢
                  have hsV := HQV.out.size
                  clear c0 c1 c2 c3 c4 c5 c6 c7 c8 t0 t1 t2 t3 t4
                  clear heq
                  go_wp2_with fail
                  go_ret
                  exact ⟨by rw [HF.out]; rfl, HBX.out.trans (HQV.out.mono HBX.out.size)⟩
                · have heq : ∀ W, (Op.equalIn 10000 39 (.agg (cellC kL.toNat p1 p2 p3)) (.agg #[.int .i64 kL, .int .i64 kx, .int .i64 ky, .int .i64 kz])).run Try.prog W = .ok true W := eqKeys (cellK kL.toNat ⟨p0, p1, p2, p3, p4, p5, p6, p7, p8⟩) ⟨kL, kx, ky, kz⟩ true hcb.symm
                  have HST2 := hid (HNX0.out (of_decide_eq_true hcb) HPV.out)
                  clear hcb
                  go_wp2_with fail
                  refine wp_region_quiet_below (by kernel_rfl) (by kernel_rfl) ?_
                  repeat (first | go_big_quiet_step ((go_at_call 53; with_reducible exact Calls.regrown_of (HXC.out _))) | quiet_step ((go_at_call 53; with_reducible exact Calls.regrown_of (HXC.out _))))
                  refine wpQuiet_nil ?_
                  intro _ hw'
                  obtain ⟨⟨dqV, osV⟩, hw2⟩ := hw'
                  subst hw2
                  have HQV := hid (below_regrown W5 dqV osV)
                  generalize Sort.grow (redrawn W5 dqV) osV = V at HQV ⊢
                  have hsV := HQV.out.size
                  clear c0 c1 c2 c3 c4 c5 c6 c7 c8 t0 t1 t2 t3 t4
                  clear heq
                  go_wp2_with fail
                  exact ⟨⟨i + 1, by omega, by go_num, HST2.out, HB5.out.trans (HQV.out.mono HB5.out.size)⟩, by simp [intOf]; omega⟩
          · obtain rfl : i = n := by omega
            have d1 : decide ((i : Int) < (i : Int)) = false := by simp
            have HF := hid (HYES.out (StepOk.done (by rw [← HN.out]; exact HST.out) HK.out HPNE.out HG.out))
            go_wp2_with fail
            go_ret
            exact ⟨by rw [HF.out]; rfl, HBR.out⟩
end Go.Proofs.Yteanlcefdoigcaa
