/- Details: what the program and the reference return for whatever tiles (at most 900) and level. -/
import Derived.Test.YteanlcefdoigcaaRTls
import Derived.Test.YteanlcefdoigcaaLevM
namespace Go.Proofs.Yteanlcefdoigcaa
open Go.ChangeShapes Go.WideShapes Go.RowKit Go.Maps Go.Sort

theorem OwnR.nilV {W : World} {base t sz : Nat} {v : Value} {l : List (List Value)} (h : OwnR W base t sz v l) : NilV v := fun c e => by
  rcases h.2.2 with ⟨h1, _⟩ | ⟨g, cap, cur, h1, _⟩
  · rw [h1] at e
    injection e with _ _ e
    exact e.symm
  · rw [h1] at e
    injection e with e
    cases e
set_option maxRecDepth 100000 in
set_option maxHeartbeats 6400000 in
theorem xdetail_any (v : Value) (E : List Te) (lv : Int) (w : World) (hT : TilesV w v E) (hl : E.length ≤ 900) (hp : ∀ e ∈ E, e.pts.length ≤ maxLen) :
    Calls Try.prog 26 #[v, .int .i64 lv] w fun r w' => (∃ d e D, r = .returned (.tuple #[d, .int .i64 e]) ∧ OwnP w' w.heap.size d D ∧ DetRes (E.map Te.tl) lv e D) ∧ Below w.heap.size w w' := by
  obtain ⟨gv, hgv⟩ : ∃ gv, gv = decide (TlsOk (E.map Te.tl)) := ⟨_, rfl⟩
  have HGC := hid (show Calls Try.prog 59 #[v] w fun r w' => r = .returned (.bool gv) ∧ Below w.heap.size w w' from hgv ▸ xtls_any v E w hT (by omega) hp)
  have HNO := hid (fun h : gv = false => show detErr (E.map Te.tl) lv = 81 from detErr_tile (of_decide_eq_false (hgv ▸ h)))
  have HYES := hid (fun h : gv = true => of_decide_eq_true (show decide (TlsOk (E.map Te.tl)) = true from hgv ▸ h))
  clear hgv
  have HT := hid hT
  obtain ⟨⟨a, cap, rfl, hrow⟩, hpv⟩ := hT
  obtain ⟨n, hnl⟩ : ∃ n, n = E.length := ⟨_, rfl⟩
  rw [← hnl] at hl HGC ⊢
  have HN := hid hnl
  have HROW := hid hrow
  have HPVS := hid hpv
  clear hnl hrow hpv hp HT
  obtain ⟨i0, hi, hz0, hz1, hz2⟩ := info_parts info36
  have HI := hid hi
  have HZ0 := hid hz0
  have HZ1 := hid hz1
  have HZ2 := hid hz2
  clear hi hz0 hz1 hz2
  go_enter Try.func26, Try.ntmps26
  go_wp2_with fail
  refine HGC.out.mono ?_
  rintro r w1 ⟨rfl, hb1⟩
  have HB1 := hid hb1
  clear hb1 HGC
  cases gv
  · have HR := hid (DetRes.bad (HNO.out rfl) (by decide))
    go_wp2_with fail
    go_ret2
    exact ⟨⟨_, _, [], rfl, OwnR.nil _ _ _ _, HR.out⟩, HB1.out⟩
  have HOKT := hid (HYES.out rfl)
  clear HYES HNO
  by_cases hlo : lv < 0
  · have d2 : decide (lv < 0) = true := decide_eq_true hlo
    have HR := hid (DetRes.bad (detErr_arg (lv := lv) HOKT.out (by omega)) (by decide))
    go_wp2_with fail
    go_ret2
    exact ⟨⟨_, _, [], rfl, OwnR.nil _ _ _ _, HR.out⟩, HB1.out⟩
  have d2 : decide (lv < 0) = false := decide_eq_false hlo
  by_cases hhi : 12 < lv
  · have d3 : decide (12 < lv) = true := decide_eq_true hhi
    have HR := hid (DetRes.bad (detErr_arg (lv := lv) HOKT.out (by omega)) (by decide))
    go_wp2_with fail
    go_ret2
    exact ⟨⟨_, _, [], rfl, OwnR.nil _ _ _ _, HR.out⟩, HB1.out⟩
  have d3 : decide (12 < lv) = false := decide_eq_false hhi
  have HDE := hid (detErr_ok (lv := lv) HOKT.out (by omega))
  go_wp2_with fail
  go_loopw [6, 20] (fun ov' iv W => ∃ (i : Nat) (ov : Value), ov = ov' ∧ i ≤ n ∧ iv = .int .i64 (i : Int) ∧ OwnP W w.heap.size ov (detL ((E.map Te.tl).take i) lv) ∧ Below w.heap.size w W) (fun _ iv _ => n - (intOf iv).toNat)
  case atStart => exact ⟨0, _, rfl, by omega, rfl, OwnR.nil _ _ _ _, HB1.out⟩
  case round =>
    obtain ⟨i, ov, rfl, hi, rfl, hov, hB⟩ := hrel
    have HOV := hid hov
    have HB4 := hid hB
    have hz4 := hB.size
    clear hov hB
    by_cases hlt : i < n
    · have d1 : decide ((i : Int) < (n : Int)) = true := decide_eq_true (by omega)
      obtain ⟨e, he⟩ : ∃ e, E[i]? = some e := ⟨_, List.getElem?_eq_getElem (by rw [← HN.out]; exact hlt)⟩
      have HTI := hid (show (E.map Te.tl)[i]? = some e.tl by rw [List.getElem?_map, he]; rfl)
      have hEn : E ≠ [] := fun h => by rw [h] at he; simp at he
      obtain ⟨b, off, rfl, hbw, hrows⟩ := HROW.out.resolve_left hEn
      have HRW := hid hrows
      have HBW := hid hbw
      have hpe := HPVS.out e (List.mem_of_getElem? he)
      have HTO := hid (HOKT.out.all e.tl (List.mem_of_getElem? HTI.out))
      have hcs : ∀ j, j < 5 → wr.cell? ⟨b, off + i * 5 + j, none⟩ = e.row[j]? := fun j hj => by
        rw [HB4.out.cell hbw, hrows i e.row (by rw [List.getElem?_map, he]; rfl) j hj]
      clear he hEn hrows hbw
      obtain ⟨⟨k0, k1, k2, k3⟩, ev, P⟩ := e
      obtain ⟨ea, ec, hev, hpd⟩ := hpe
      obtain rfl : ev = .slice ea P.length ec := hev
      obtain ⟨pb, po, rfl, hpb, hpr⟩ := hpd.resolve_left HTO.out.ne
      have HPR := hid hpr
      have HPB := hid hpb
      clear hpd hpr hpb
      obtain ⟨m, hm⟩ : ∃ m, m = P.length := ⟨_, rfl⟩
      simp only [Te.row, Ky.row, ← hm] at hcs
      have HMP := hid hm
      have hm1k : m ≤ 1024 := by rw [hm]; exact HTO.out.len
      clear hm
      have a0 : wr.cell? ⟨b, off + i * 5, none⟩ = some (.int .i64 k0) := hcs 0 (by decide)
      have a1 : wr.cell? ⟨b, off + i * 5 + 1, none⟩ = some (.int .i64 k1) := hcs 1 (by decide)
      have a2 : wr.cell? ⟨b, off + i * 5 + 2, none⟩ = some (.int .i64 k2) := hcs 2 (by decide)
      have a3 : wr.cell? ⟨b, off + i * 5 + 3, none⟩ = some (.int .i64 k3) := hcs 3 (by decide)
      have a4 : wr.cell? ⟨b, off + i * 5 + 4, none⟩ = some (.slice (some ⟨pb, po, none⟩) m ec) := hcs 4 (by decide)
      clear hcs
      go_upto_region 9 with fail
      refine gen_world (fun W5 hW5 => ?_)
      have HT5 := hid (show W5.heap[wr.heap.size]? = some (.cells #[.int .i64 k0, .int .i64 k1, .int .i64 k2, .int .i64 k3, .slice (some ⟨pb, po, none⟩) m ec] 49) by rw [hW5]; exact heap_alloc_at _ _ _ rfl)
      have hb5 : Below wr.heap.size wr W5 := by rw [hW5]; exact (Below.refl _ _).alloc (Nat.le_refl _) _
      have HBX := hid (HB4.out.trans (hb5.mono hz4))
      have HOX := hid (OwnR.grow' HOV.out hb5)
      have HX3 := hid (RowsAt.still HPR.out HBX.out HPB.out)
      have hz5 := HBX.out.size
      clear hW5 hb5 a0 a1 a2 a3 a4 HOV
      obtain ⟨g, hg⟩ : ∃ g, g = wr.heap.size := ⟨_, rfl⟩
      rw [← hg] at HT5 ⊢
      clear hg
      have t0 : W5.cell? ⟨g, 0, none⟩ = some (.int .i64 k0) := (cell_row (j := 0) HT5.out).trans rfl
      have t4 : W5.cell? ⟨g, 4, none⟩ = some (.slice (some ⟨pb, po, none⟩) m ec) := (cell_row (j := 4) HT5.out).trans rfl
      have HNX := hid (detL_next lv HTI.out)
      by_cases hlev : k0 ≤ lv
      · have dl : decide (k0 ≤ lv) = true := decide_eq_true hlev
        have HNY := hid (show detL ((E.map Te.tl).take (i + 1)) lv = detL ((E.map Te.tl).take i) lv ++ P by rw [HNX.out]; exact congrArg _ (if_pos hlev))
        have HLB := hid (show ((detL ((E.map Te.tl).take i) lv).map Pt.row).length ≤ 1024 * i by
          rw [List.length_map]
          refine Nat.le_trans (detL_bd lv (HOKT.out.take i).all) ?_
          rw [List.length_take]
          exact Nat.mul_le_mul_left _ (Nat.min_le_left _ _))
        have HLN := hid (show (P.map Pt.row).length = m by rw [List.length_map]; exact HMP.out.symm)
        have HL1 := hid (show ((detL ((E.map Te.tl).take i) lv).map Pt.row).length + (P.map Pt.row).length ≤ maxLen by rw [HLN.out]; have := HLB.out; unfold maxLen; omega)
        have HL2 := hid (show (((detL ((E.map Te.tl).take i) lv).map Pt.row).length + (P.map Pt.row).length) * 72 ≤ 140737488355328 by rw [HLN.out]; have := HLB.out; omega)
        have HWD := hid (wide_map (enc := Pt.row) (k := 9) (fun _ => rfl) Pt.row_one P)
        clear HNX hlev
        go_wp2_with (first
          | (at_builtin
             refine wpList_append_rows rfl (.tmp 29) (.tmp 31) 22 rfl w.heap.size 36 i0 _ 9 72 Try.underlying22 HI.out HZ0.out HZ1.out HZ2.out rfl (by decide) _ ((detL ((E.map Te.tl).take i) lv).map Pt.row) (P.map Pt.row) rfl HOX.out pb po m ec HLN.out.symm rfl HX3.out HWD.out HL1.out HL2.out hz5 ?_
             intro v6 W6 hown6 hg6 z6
             clear z6
             rw [← List.map_append, ← HNY.out] at hown6
             have HO6 := hid hown6
             have HB6 := hid (show Below w.heap.size w W6 from HBX.out.grown hg6 hz5 (fun k hk => OwnR.ownBlock HOX.out k hk))
             clear hown6 hg6))
        exact ⟨⟨i + 1, _, rfl, by omega, by go_num, HO6.out, HB6.out⟩, by simp [intOf]; omega⟩
      · have dl : decide (k0 ≤ lv) = false := decide_eq_false hlev
        have HNY := hid (show detL ((E.map Te.tl).take (i + 1)) lv = detL ((E.map Te.tl).take i) lv from HNX.out.trans ((congrArg (detL ((E.map Te.tl).take i) lv ++ ·) (if_neg hlev)).trans (List.append_nil _)))
        clear HNX hlev
        go_wp2_with fail
        exact ⟨⟨i + 1, _, rfl, by omega, by go_num, by rw [HNY.out]; exact HOX.out, HBX.out⟩, by simp [intOf]; omega⟩
    · obtain rfl : i = n := by omega
      have d1 : decide ((i : Int) < (i : Int)) = false := by simp
      have HOA := hid (show OwnP wr w.heap.size ov (detL (E.map Te.tl) lv) by
        have := HOV.out
        rwa [HN.out, List.take_of_length_le (by rw [List.length_map]; exact Nat.le_refl _)] at this)
      have HLA := hid (show (detL (E.map Te.tl) lv).length ≤ 921600 by
        refine Nat.le_trans (detL_bd lv HOKT.out.all) ?_
        rw [List.length_map, ← HN.out]
        omega)
      clear HOV
      go_wp2_with fail
      refine (sortId_any ov _ w.heap.size wr HOA.out (by have := HLA.out; omega) (detL_ids HOKT.out.all lv)).mono ?_
      rintro r w9 ⟨rfl, L, hperm, hasc, hown, hg9⟩
      have HO9 := hid (show OwnP w9 w.heap.size ov L from hown)
      have HB9 := hid (show Below w.heap.size w w9 from HB4.out.grown hg9 hz4 (fun k hk => OwnR.ownBlock HOA.out k hk))
      have HR := hid (DetRes.good HDE.out (HOKT.out.det hperm hasc))
      clear hperm hasc hown hg9
      go_wp2_with fail
      go_ret2
      exact ⟨⟨_, _, L, rfl, HO9.out, HR.out⟩, HB9.out⟩
set_option maxRecDepth 100000 in
set_option maxHeartbeats 6400000 in
theorem rdetail_any (v : Value) (E : List Te) (lv : Int) (w : World) (hT : TilesV w v E) (hl : E.length ≤ 900) (hp : ∀ e ∈ E, e.pts.length ≤ maxLen) :
    Calls Try.prog 41 #[v, .int .i64 lv] w fun r w' => (∃ d e D, r = .returned (.tuple #[d, .int .i64 e]) ∧ OwnP w' w.heap.size d D ∧ DetRes (E.map Te.tl) lv e D) ∧ Below w.heap.size w w' := by
  obtain ⟨gv, hgv⟩ : ∃ gv, gv = decide (TlsOk (E.map Te.tl)) := ⟨_, rfl⟩
  have HGC := hid (show Calls Try.prog 25 #[v] w fun r w' => r = .returned (.bool gv) ∧ Below w.heap.size w w' from hgv ▸ rtls_any v E w hT (by omega) hp)
  have HNO := hid (fun h : gv = false => show detErr (E.map Te.tl) lv = 81 from detErr_tile (of_decide_eq_false (hgv ▸ h)))
  have HYES := hid (fun h : gv = true => of_decide_eq_true (show decide (TlsOk (E.map Te.tl)) = true from hgv ▸ h))
  clear hgv
  have HT := hid hT
  obtain ⟨⟨a, cap, rfl, hrow⟩, hpv⟩ := hT
  obtain ⟨n, hnl⟩ : ∃ n, n = E.length := ⟨_, rfl⟩
  rw [← hnl] at hl HGC ⊢
  have HN := hid hnl
  have HROW := hid hrow
  have HPVS := hid hpv
  clear hnl hrow hpv hp HT
  obtain ⟨i0, hi, hz0, hz1, hz2⟩ := info_parts info36
  have HI := hid hi
  have HZ0 := hid hz0
  have HZ1 := hid hz1
  have HZ2 := hid hz2
  clear hi hz0 hz1 hz2
  go_enter Try.func41, Try.ntmps41
  go_wp2_with fail
  refine HGC.out.mono ?_
  rintro r w1 ⟨rfl, hb1⟩
  have HB1 := hid hb1
  clear hb1 HGC
  cases gv
  · have HR := hid (DetRes.bad (HNO.out rfl) (by decide))
    go_wp2_with fail
    go_ret2
    exact ⟨⟨_, _, [], rfl, OwnR.nil _ _ _ _, HR.out⟩, HB1.out⟩
  have HOKT := hid (HYES.out rfl)
  clear HYES HNO
  go_wp2_with fail
  refine (from_any 0 lv 12 w1).mono ?_
  rintro r w2 ⟨rfl, rfl⟩
  have HB2 := HB1
  cases hlv : inB 0 12 lv
  · have HR := hid (DetRes.bad (detErr_arg (lv := lv) HOKT.out (by simp [inB] at hlv; omega)) (by decide))
    go_wp2_with fail
    go_ret2
    exact ⟨⟨_, _, [], rfl, OwnR.nil _ _ _ _, HR.out⟩, HB2.out⟩
  have HDE := hid (detErr_ok (lv := lv) HOKT.out (by simp [inB] at hlv; omega))
  clear hlv
  go_wp2_with fail
  go_loopw [6, 17] (fun ov' iv W => ∃ (i : Nat) (ov : Value), ov = ov' ∧ i ≤ n ∧ iv = .int .i64 (i : Int) ∧ OwnP W w.heap.size ov (detL ((E.map Te.tl).take i) lv) ∧ Below w.heap.size w W) (fun _ iv _ => n - (intOf iv).toNat)
  case atStart => exact ⟨0, _, rfl, by omega, rfl, OwnR.nil _ _ _ _, HB2.out⟩
  case round =>
    obtain ⟨i, ov, rfl, hi, rfl, hov, hB⟩ := hrel
    have HOV := hid hov
    have HB4 := hid hB
    have hz4 := hB.size
    clear hov hB
    by_cases hlt : i < n
    · have d1 : decide ((i : Int) < (n : Int)) = true := decide_eq_true (by omega)
      obtain ⟨e, he⟩ : ∃ e, E[i]? = some e := ⟨_, List.getElem?_eq_getElem (by rw [← HN.out]; exact hlt)⟩
      have HTI := hid (show (E.map Te.tl)[i]? = some e.tl by rw [List.getElem?_map, he]; rfl)
      have hEn : E ≠ [] := fun h => by rw [h] at he; simp at he
      obtain ⟨b, off, rfl, hbw, hrows⟩ := HROW.out.resolve_left hEn
      have HRW := hid hrows
      have HBW := hid hbw
      have hpe := HPVS.out e (List.mem_of_getElem? he)
      have HTO := hid (HOKT.out.all e.tl (List.mem_of_getElem? HTI.out))
      have hcs : ∀ j, j < 5 → wr.cell? ⟨b, off + i * 5 + j, none⟩ = e.row[j]? := fun j hj => by
        rw [HB4.out.cell hbw, hrows i e.row (by rw [List.getElem?_map, he]; rfl) j hj]
      clear he hEn hrows hbw
      obtain ⟨⟨k0, k1, k2, k3⟩, ev, P⟩ := e
      obtain ⟨ea, ec, hev, hpd⟩ := hpe
      obtain rfl : ev = .slice ea P.length ec := hev
      obtain ⟨pb, po, rfl, hpb, hpr⟩ := hpd.resolve_left HTO.out.ne
      have HPR := hid hpr
      have HPB := hid hpb
      clear hpd hpr hpb
      obtain ⟨m, hm⟩ : ∃ m, m = P.length := ⟨_, rfl⟩
      simp only [Te.row, Ky.row, ← hm] at hcs
      have HMP := hid hm
      have hm1k : m ≤ 1024 := by rw [hm]; exact HTO.out.len
      clear hm
      have a0 : wr.cell? ⟨b, off + i * 5, none⟩ = some (.int .i64 k0) := hcs 0 (by decide)
      have a1 : wr.cell? ⟨b, off + i * 5 + 1, none⟩ = some (.int .i64 k1) := hcs 1 (by decide)
      have a2 : wr.cell? ⟨b, off + i * 5 + 2, none⟩ = some (.int .i64 k2) := hcs 2 (by decide)
      have a3 : wr.cell? ⟨b, off + i * 5 + 3, none⟩ = some (.int .i64 k3) := hcs 3 (by decide)
      have a4 : wr.cell? ⟨b, off + i * 5 + 4, none⟩ = some (.slice (some ⟨pb, po, none⟩) m ec) := hcs 4 (by decide)
      clear hcs
      go_upto_region 9 with fail
      refine gen_world (fun W5 hW5 => ?_)
      have HT5 := hid (show W5.heap[wr.heap.size]? = some (.cells #[.int .i64 k0, .int .i64 k1, .int .i64 k2, .int .i64 k3, .slice (some ⟨pb, po, none⟩) m ec] 49) by rw [hW5]; exact heap_alloc_at _ _ _ rfl)
      have hb5 : Below wr.heap.size wr W5 := by rw [hW5]; exact (Below.refl _ _).alloc (Nat.le_refl _) _
      have HBX := hid (HB4.out.trans (hb5.mono hz4))
      have HOX := hid (OwnR.grow' HOV.out hb5)
      have HX3 := hid (RowsAt.still HPR.out HBX.out HPB.out)
      have hz5 := HBX.out.size
      clear hW5 hb5 a0 a1 a2 a3 a4 HOV
      obtain ⟨g, hg⟩ : ∃ g, g = wr.heap.size := ⟨_, rfl⟩
      rw [← hg] at HT5 ⊢
      clear hg
      have t0 : W5.cell? ⟨g, 0, none⟩ = some (.int .i64 k0) := (cell_row (j := 0) HT5.out).trans rfl
      have t4 : W5.cell? ⟨g, 4, none⟩ = some (.slice (some ⟨pb, po, none⟩) m ec) := (cell_row (j := 4) HT5.out).trans rfl
      have HNX := hid (detL_next lv HTI.out)
      by_cases hlev : k0 ≤ lv
      · have dl : decide (k0 ≤ lv) = true := decide_eq_true hlev
        have HNY := hid (show detL ((E.map Te.tl).take (i + 1)) lv = detL ((E.map Te.tl).take i) lv ++ P by rw [HNX.out]; exact congrArg _ (if_pos hlev))
        have HLB := hid (show ((detL ((E.map Te.tl).take i) lv).map Pt.row).length ≤ 1024 * i by
          rw [List.length_map]
          refine Nat.le_trans (detL_bd lv (HOKT.out.take i).all) ?_
          rw [List.length_take]
          exact Nat.mul_le_mul_left _ (Nat.min_le_left _ _))
        have HLN := hid (show (P.map Pt.row).length = m by rw [List.length_map]; exact HMP.out.symm)
        have HL1 := hid (show ((detL ((E.map Te.tl).take i) lv).map Pt.row).length + (P.map Pt.row).length ≤ maxLen by rw [HLN.out]; have := HLB.out; unfold maxLen; omega)
        have HL2 := hid (show (((detL ((E.map Te.tl).take i) lv).map Pt.row).length + (P.map Pt.row).length) * 72 ≤ 140737488355328 by rw [HLN.out]; have := HLB.out; omega)
        have HWD := hid (wide_map (enc := Pt.row) (k := 9) (fun _ => rfl) Pt.row_one P)
        clear HNX hlev
        go_wp2_with (first
          | (at_builtin
             refine wpList_append_rows rfl (.tmp 26) (.tmp 28) 22 rfl w.heap.size 36 i0 _ 9 72 Try.underlying22 HI.out HZ0.out HZ1.out HZ2.out rfl (by decide) _ ((detL ((E.map Te.tl).take i) lv).map Pt.row) (P.map Pt.row) rfl HOX.out pb po m ec HLN.out.symm rfl HX3.out HWD.out HL1.out HL2.out hz5 ?_
             intro v6 W6 hown6 hg6 z6
             clear z6
             rw [← List.map_append, ← HNY.out] at hown6
             have HO6 := hid hown6
             have HB6 := hid (show Below w.heap.size w W6 from HBX.out.grown hg6 hz5 (fun k hk => OwnR.ownBlock HOX.out k hk))
             clear hown6 hg6))
        exact ⟨⟨i + 1, _, rfl, by omega, by go_num, HO6.out, HB6.out⟩, by simp [intOf]; omega⟩
      · have dl : decide (k0 ≤ lv) = false := decide_eq_false hlev
        have HNY := hid (show detL ((E.map Te.tl).take (i + 1)) lv = detL ((E.map Te.tl).take i) lv from HNX.out.trans ((congrArg (detL ((E.map Te.tl).take i) lv ++ ·) (if_neg hlev)).trans (List.append_nil _)))
        clear HNX hlev
        go_wp2_with fail
        exact ⟨⟨i + 1, _, rfl, by omega, by go_num, by rw [HNY.out]; exact HOX.out, HBX.out⟩, by simp [intOf]; omega⟩
    · obtain rfl : i = n := by omega
      have d1 : decide ((i : Int) < (i : Int)) = false := by simp
      have HOA := hid (show OwnP wr w.heap.size ov (detL (E.map Te.tl) lv) by
        have := HOV.out
        rwa [HN.out, List.take_of_length_le (by rw [List.length_map]; exact Nat.le_refl _)] at this)
      have HLA := hid (show (detL (E.map Te.tl) lv).length ≤ 921600 by
        refine Nat.le_trans (detL_bd lv HOKT.out.all) ?_
        rw [List.length_map, ← HN.out]
        omega)
      clear HOV
      go_wp2_with fail
      refine (rsorted_any ov _ wr (OwnP.ptsV HOA.out) (OwnR.nilV HOA.out) (by have := HLA.out; omega)).mono ?_
      rintro r w9 ⟨⟨u, rfl, L, hown, hperm, hasc⟩, hb9⟩
      have HO9 := hid (show OwnP w9 w.heap.size u L from OwnR.mono hown hz4)
      have HB9 := hid (HB4.out.trans (hb9.mono hz4))
      have HR := hid (DetRes.good HDE.out (HOKT.out.det hperm hasc))
      clear hperm hasc hown hb9
      go_wp2_with fail
      go_ret2
      exact ⟨⟨_, _, L, rfl, HO9.out, HR.out⟩, HB9.out⟩
end Go.Proofs.Yteanlcefdoigcaa
