/- Select of both sides: 24 and 25. (Printed by wip/gen_select.py.) -/
import Derived.Test.YtpablkmdpoombaaRWanted
import Derived.Test.YtpablkmdpoombaaTlB
import Derived.Test.YtpablkmdpoombaaAidC
namespace Go.Proofs.Ytpablkmdpoombaa
open Go.RowKit

theorem size64 : (Try.prog.info? 64).map (·.size) = some 4 := by kernel_rfl
theorem size78s : (Try.prog.info? 78).map (·.size) = some 9 := by kernel_rfl
def selErr (o : Od) (T : List Tl) : Int := if odB o = true then detErr T o.lv else 103
structure SelRes (T : List Tl) (o : Od) (e : Int) (L : List Pt) : Prop where
  err : e = selErr o T
  none : e ≠ 0 → L = []
  some : e = 0 → ∃ D, IsDet T o.lv D ∧ L = D.filter (wantB o)
theorem SelRes.same {T : List Tl} {o : Od} {e e' : Int} {L L' : List Pt} (h : SelRes T o e L) (h' : SelRes T o e' L') : e = e' ∧ L = L' := by
  have he : e = e' := h.err.trans h'.err.symm
  subst he
  refine ⟨rfl, ?_⟩
  by_cases h0 : e = 0
  · obtain ⟨D, h1, h2⟩ := h.some h0
    obtain ⟨D', h3, h4⟩ := h'.some h0
    rw [h2, h4, h1.unique h3]
  · rw [h.none h0, h'.none h0]
theorem odB_ev {o : Od} (h : odB o = true) : 1 ≤ o.ev ∧ o.ev ≤ 1000 := by
  unfold odB at h
  simp only [Bool.and_eq_true] at h
  have h1 := h.1.1.1.2
  simpa [inB] using h1
theorem det_ok {T : List Tl} {lv : Int} (h : detErr T lv = 0) : TlsOk T := by
  unfold detErr at h
  by_cases h1 : TlsOk T
  · exact h1
  · rw [if_neg h1] at h; exact absurd h (by decide)
theorem det_len {T : List Tl} {lv e : Int} {D : List Pt} (h : DetRes T lv e D) (h0 : e = 0) (hg : TlsOk T → T.length ≤ 900) : D.length ≤ 921600 := by
  have hT := det_ok (h.err.symm.trans h0)
  rw [(h.some h0).perm.length_eq]
  have := detL_bd lv hT.all
  have := hg hT
  omega
theorem filter_no {o : Od} {D : List Pt} {i : Nat} {p : Pt} (hp : D[i]? = some p) (h : wantB o p = false) : (D.take (i + 1)).filter (wantB o) = (D.take i).filter (wantB o) := by
  rw [take_next hp, List.filter_append, List.filter_cons_of_neg (by rw [h]; decide)]; simp
theorem filter_yes {o : Od} {D : List Pt} {i : Nat} {p : Pt} (hp : D[i]? = some p) (h : wantB o p = true) : (D.take (i + 1)).filter (wantB o) = (D.take i).filter (wantB o) ++ [p] := by
  rw [take_next hp, List.filter_append, List.filter_cons_of_pos h]; simp
theorem filter_le {o : Od} {D : List Pt} {i : Nat} : ((D.take i).filter (wantB o)).length ≤ i :=
  Nat.le_trans (List.length_filter_le _ _) (by rw [List.length_take]; exact Nat.min_le_left _ _)
set_option maxRecDepth 100000 in
theorem xdetail_all (v : Value) (E : List Te) (lv : Int) (w : World) (hT : TilesV w v E) (hl : E.length ≤ 4398046511104) (hg : TlsOk (E.map Te.tl) → (E.map Te.tl).length ≤ 900) (hp : ∀ e ∈ E, e.pts.length ≤ maxLen) :
    Calls Try.prog 62 #[v, .int .i64 lv] w fun r w' => (∃ d e D, r = .returned (.tuple #[d, .int .i64 e]) ∧ OwnP w' w.heap.size d D ∧ DetRes (E.map Te.tl) lv e D) ∧ Below w.heap.size w w' := by
  by_cases hok : TlsOk (E.map Te.tl)
  · exact xdetail_any v E lv w hT (by have := hg hok; rwa [List.length_map] at this) hp
  have HGC := hid (show Calls Try.prog 98 #[v] w fun r w' => r = .returned (.bool false) ∧ Below w.heap.size w w' from (decide_eq_false hok) ▸ xtls_any v E w hT hl hp)
  have HR := hid (DetRes.bad (detErr_tile (lv := lv) hok) (by decide))
  obtain ⟨⟨a, cap, rfl, hrow⟩, hpv⟩ := hT
  generalize E.length = n at *
  clear hl hg hok hrow hpv hp
  go_enter Try.func62, Try.ntmps62
  go_wp2_with fail
  refine HGC.out.mono ?_
  rintro r w1 ⟨rfl, hb1⟩
  go_wp2_with fail
  go_ret2
  exact ⟨⟨_, _, [], rfl, OwnR.nil _ _ _ _, HR.out⟩, hb1⟩
set_option maxRecDepth 100000 in
theorem rdetail_all (v : Value) (E : List Te) (lv : Int) (w : World) (hT : TilesV w v E) (hl : E.length ≤ 4398046511104) (hg : TlsOk (E.map Te.tl) → (E.map Te.tl).length ≤ 900) (hp : ∀ e ∈ E, e.pts.length ≤ maxLen) :
    Calls Try.prog 64 #[v, .int .i64 lv] w fun r w' => (∃ d e D, r = .returned (.tuple #[d, .int .i64 e]) ∧ OwnP w' w.heap.size d D ∧ DetRes (E.map Te.tl) lv e D) ∧ Below w.heap.size w w' := by
  by_cases hok : TlsOk (E.map Te.tl)
  · exact rdetail_any v E lv w hT (by have := hg hok; rwa [List.length_map] at this) hp
  have HGC := hid (show Calls Try.prog 102 #[v] w fun r w' => r = .returned (.bool false) ∧ Below w.heap.size w w' from (decide_eq_false hok) ▸ rtls_any v E w hT hl hp)
  have HR := hid (DetRes.bad (detErr_tile (lv := lv) hok) (by decide))
  obtain ⟨⟨a, cap, rfl, hrow⟩, hpv⟩ := hT
  generalize E.length = n at *
  clear hl hg hok hrow hpv hp
  go_enter Try.func64, Try.ntmps64
  go_wp2_with fail
  refine HGC.out.mono ?_
  rintro r w1 ⟨rfl, hb1⟩
  go_wp2_with fail
  go_ret2
  exact ⟨⟨_, _, [], rfl, OwnR.nil _ _ _ _, HR.out⟩, hb1⟩
set_option maxRecDepth 100000 in
set_option maxHeartbeats 3200000 in
theorem xselect_any (v : Value) (E : List Te) (o : Od) (w : World) (hT : TilesV w v E) (ho : OdV w o) (hl : E.length ≤ 4398046511104) (hg : TlsOk (E.map Te.tl) → (E.map Te.tl).length ≤ 900) (hp : ∀ e ∈ E, e.pts.length ≤ maxLen) :
    Calls Try.prog 24 #[v, .agg o.row.toArray] w fun r w' => (∃ d e L, r = .returned (.tuple #[d, .int .i64 e]) ∧ OwnP w' w.heap.size d L ∧ SelRes (E.map Te.tl) o e L) ∧ Below w.heap.size w w' := by
  have HO := hid ho
  obtain ⟨lv, rv, R, cv, C, ev⟩ := o
  obtain ⟨⟨ra, rc, hrv, _⟩, _, ⟨ca, cc, hcv, _⟩, _⟩ := ho
  obtain rfl : rv = .slice ra R.length rc := hrv
  obtain rfl : cv = .slice ca C.length cc := hcv
  simp only [Od.row]
  generalize R.length = m at *
  generalize C.length = k at *
  obtain ⟨ob, hob⟩ : ∃ ob, ob = odB ⟨lv, .slice ra m rc, R, .slice ca k cc, C, ev⟩ := ⟨_, rfl⟩
  have HOC := hid (fun W (hb : Below w.heap.size w W) => show Calls Try.prog 21 #[.agg #[.int .i64 lv, .slice ra m rc, .slice ca k cc, .int .i64 ev]] W fun r w' => r = .returned (.bool ob) ∧ Below W.heap.size W w' from hob ▸ xorder_any ⟨lv, .slice ra m rc, R, .slice ca k cc, C, ev⟩ W (HO.out.still hb))
  have HOB := hid hob
  clear hob
  have HDC := hid (fun W (hb : Below w.heap.size w W) => xdetail_all v E lv W (hT.still hb) hl hg hp)
  have HWC := hid (fun W (hb : Below w.heap.size w W) (h : ob = true) (p : Pt) => xwanted_any ⟨lv, .slice ra m rc, R, .slice ca k cc, C, ev⟩ p W (HO.out.still hb) (odB_ev (HOB.out.symm.trans h)))
  have HDL := hid (fun (e : Int) (D : List Pt) (h : DetRes (E.map Te.tl) lv e D) (h0 : e = 0) => det_len h h0 hg)
  have HER := hid (fun (h : ob = true) => show selErr ⟨lv, .slice ra m rc, R, .slice ca k cc, C, ev⟩ (E.map Te.tl) = detErr (E.map Te.tl) lv by unfold selErr; rw [← HOB.out, h]; rfl)
  have HEN := hid (fun (h : ob = false) => show selErr ⟨lv, .slice ra m rc, R, .slice ca k cc, C, ev⟩ (E.map Te.tl) = 103 by unfold selErr; rw [← HOB.out, h]; rfl)
  obtain ⟨⟨a, cap, rfl, _⟩, _⟩ := hT
  generalize hEl : E.length = nE at *
  clear hl hg hp hEl
  obtain ⟨i0, hi, hz0, hz1, hz2⟩ := info_parts info36
  have HI := hid hi
  have HZ0 := hid hz0
  have HZ1 := hid hz1
  have HZ2 := hid hz2
  clear hi hz0 hz1 hz2
  go_enter Try.func24, Try.ntmps24
  go_upto_region 1 with fail
  refine gen_world (fun W0 hW0 => ?_)
  have KO0 := hid (show W0.heap[w.heap.size]? = some (.cells #[.int .i64 lv, .slice ra m rc, .slice ca k cc, .int .i64 ev] 64) by rw [hW0]; exact heap_alloc_at _ _ _ rfl)
  have HB0 := hid (show Below w.heap.size w W0 by rw [hW0]; exact (Below.refl _ _).alloc (Nat.le_refl _) _)
  clear hW0
  go_wp2_with (refine wpList_load_at rfl 64 (.tmp 3) rfl rfl KO0.out Try.underlying64 rfl size64 rfl ?_)
  refine (HOC.out _ HB0.out).mono ?_
  rintro r w1 ⟨rfl, hb⟩
  have KO1 := hid (heap_still hb KO0.out)
  have HB1 := hid (HB0.out.trans (hb.mono HB0.out.size))
  clear hb KO0 HB0
  cases ob
  · have HE := hid (HEN.out rfl)
    go_wp2_with fail
    go_ret2
    exact ⟨⟨_, _, [], rfl, OwnR.nil _ _ _ _, ⟨HE.out.symm, fun _ => rfl, fun h => absurd h (by decide)⟩⟩, HB1.out⟩
  have HE := hid (HER.out rfl)
  have q0 : w1.cell? ⟨w.heap.size, 0, none⟩ = some (.int .i64 lv) := (cell_row (j := 0) KO1.out).trans rfl
  go_wp2_with fail
  refine (HDC.out _ HB1.out).mono ?_
  rintro r w2 ⟨⟨d, e, D, rfl, hown, hres⟩, hb⟩
  have KO2 := hid (heap_still hb KO1.out)
  have HB2 := hid (HB1.out.trans (hb.mono HB1.out.size))
  have HW := hid hown
  have HS := hid hres
  clear hb KO1 HB1 hown hres q0
  by_cases he : e = 0
  · have HLEN := hid (HDL.out _ _ HS.out he)
    have HRES := hid (show ∀ L, L = D.filter (wantB ⟨lv, .slice ra m rc, R, .slice ca k cc, C, ev⟩) → SelRes (E.map Te.tl) ⟨lv, .slice ra m rc, R, .slice ca k cc, C, ev⟩ 0 L from fun L hL => ⟨he ▸ HS.out.err.trans HE.out.symm, fun h => absurd rfl h, fun _ => ⟨D, HS.out.some he, hL⟩⟩)
    subst he
    have HPV := hid (HW.out.ptsV)
    obtain ⟨da, dc, hd, hdr⟩ := HPV.out
    subst hd
    have HDR := hid hdr
    have hz2 := HB2.out.size
    clear hdr
    obtain ⟨n, hn⟩ : ∃ n, n = D.length := ⟨_, rfl⟩
    rw [← hn] at HLEN HW HPV ⊢
    have HN := hid hn
    have hn9 : n ≤ 921600 := HLEN.out
    clear hn
    go_wp2_with fail
    go_loopw [8, 26] (fun ov' iv W => ∃ (i : Nat) (ov : Value), ov = ov' ∧ i ≤ n ∧ iv = .int .i64 (i : Int) ∧ OwnP W w2.heap.size ov ((D.take i).filter (wantB ⟨lv, .slice ra m rc, R, .slice ca k cc, C, ev⟩)) ∧ Below w2.heap.size w2 W) (fun _ iv _ => n - (intOf iv).toNat)
    case atStart => exact ⟨0, _, rfl, by omega, rfl, OwnR.nil _ _ _ _, Below.refl _ _⟩
    case round =>
      obtain ⟨i, ov, rfl, hi, rfl, hov, hB⟩ := hrel
      have HOV := hid hov
      have HB4 := hid hB
      have hz4 := hB.size
      clear hov hB
      by_cases hlt : i < n
      · have d2 : decide ((i : Int) < (n : Int)) = true := decide_eq_true (by omega)
        obtain ⟨p, hp⟩ : ∃ p, D[i]? = some p := ⟨_, List.getElem?_eq_getElem (by rw [← HN.out]; exact hlt)⟩
        obtain ⟨b, off, rfl, hbw, hrows⟩ := HDR.out.resolve_left (fun h => by rw [h] at hp; simp at hp)
        have hcs : ∀ j, j < 9 → wr.cell? ⟨b, off + i * 9 + j, none⟩ = p.row[j]? := fun j hj => by
          rw [HB4.out.cell hbw, hrows i p.row (by rw [List.getElem?_map, hp]; rfl) j hj]
        have HP := hid hp
        clear hrows hp
        obtain ⟨p0, p1, p2, p3, p4, p5, p6, p7, p8⟩ := p
        simp only [Pt.row] at hcs
        have c0 : wr.cell? ⟨b, off + i * 9, none⟩ = some (.int .i64 p0) := hcs 0 (by decide)
        have c1 : wr.cell? ⟨b, off + i * 9 + 1, none⟩ = some (.int .i64 p1) := hcs 1 (by decide)
        have c2 : wr.cell? ⟨b, off + i * 9 + 2, none⟩ = some (.int .i64 p2) := hcs 2 (by decide)
        have c3 : wr.cell? ⟨b, off + i * 9 + 3, none⟩ = some (.int .i64 p3) := hcs 3 (by decide)
        have c4 : wr.cell? ⟨b, off + i * 9 + 4, none⟩ = some (.int .i64 p4) := hcs 4 (by decide)
        have c5 : wr.cell? ⟨b, off + i * 9 + 5, none⟩ = some (.int .i64 p5) := hcs 5 (by decide)
        have c6 : wr.cell? ⟨b, off + i * 9 + 6, none⟩ = some (.int .i64 p6) := hcs 6 (by decide)
        have c7 : wr.cell? ⟨b, off + i * 9 + 7, none⟩ = some (.int .i64 p7) := hcs 7 (by decide)
        have c8 : wr.cell? ⟨b, off + i * 9 + 8, none⟩ = some (.int .i64 p8) := hcs 8 (by decide)
        clear hcs
        go_upto_region 10 with fail
        refine gen_world (fun W5 hW5 => ?_)
        have HP5 := hid (show W5.heap[wr.heap.size]? = some (.cells #[.int .i64 p0, .int .i64 p1, .int .i64 p2, .int .i64 p3, .int .i64 p4, .int .i64 p5, .int .i64 p6, .int .i64 p7, .int .i64 p8] 78) by rw [hW5]; exact heap_alloc_at _ _ _ rfl)
        have KO5 := hid (show W5.heap[w.heap.size]? = some (.cells #[.int .i64 lv, .slice ra m rc, .slice ca k cc, .int .i64 ev] 64) by rw [hW5]; exact heap_alloc_past _ _ _ _ (heap_below HB4.out (Array.getElem?_eq_some_iff.1 KO2.out).1 KO2.out))
        have hb5 : Below wr.heap.size wr W5 := by rw [hW5]; exact (Below.refl _ _).alloc (Nat.le_refl _) _
        have HB5 := hid (HB4.out.trans (hb5.mono hz4))
        have HOX := hid (OwnR.grow' HOV.out hb5)
        clear hW5 hb5 c0 c1 c2 c3 c4 c5 c6 c7 c8 HOV
        obtain ⟨wb, hwb⟩ : ∃ wb, wb = wantB ⟨lv, .slice ra m rc, R, .slice ca k cc, C, ev⟩ ⟨p0, p1, p2, p3, p4, p5, p6, p7, p8⟩ := ⟨_, rfl⟩
        have HWN := hid (show Calls Try.prog 63 #[.agg #[.int .i64 p0, .int .i64 p1, .int .i64 p2, .int .i64 p3, .int .i64 p4, .int .i64 p5, .int .i64 p6, .int .i64 p7, .int .i64 p8], .agg #[.int .i64 lv, .slice ra m rc, .slice ca k cc, .int .i64 ev]] W5 fun r w' => r = .returned (.bool wb) ∧ Below W5.heap.size W5 w' from hwb ▸ HWC.out W5 (HB2.out.trans (HB5.out.mono hz2)) (by first | rfl | trivial) ⟨p0, p1, p2, p3, p4, p5, p6, p7, p8⟩)
        have HNO := hid (fun h : wb = false => filter_no (o := ⟨lv, .slice ra m rc, R, .slice ca k cc, C, ev⟩) HP.out (hwb.symm.trans h))
        have HYES := hid (fun h : wb = true => filter_yes (o := ⟨lv, .slice ra m rc, R, .slice ca k cc, C, ev⟩) HP.out (hwb.symm.trans h))
        clear hwb
        go_wp2_with (first | (refine wpList_load_at rfl 78 (.tmp 10) rfl rfl HP5.out Try.underlying78 rfl size78s rfl ?_) | (refine wpList_load_at rfl 64 (.tmp 3) rfl rfl KO5.out Try.underlying64 rfl size64 rfl ?_))
        refine HWN.out.mono ?_
        rintro r w6 ⟨rfl, hb⟩
        have HB6 := hid (HB5.out.trans (hb.mono HB5.out.size))
        have HO6 := hid (OwnR.grow' HOX.out hb)
        have HP6 := hid (heap_still hb HP5.out)
        clear hb HWN HOX HB5 HP5 KO5
        cases wb
        · have HF := hid (HNO.out rfl)
          clear HNO HYES
          go_wp2_with fail
          exact ⟨⟨i + 1, _, rfl, by omega, by go_num, by rw [HF.out]; exact HO6.out, HB6.out⟩, by simp [intOf]; omega⟩
        · have HF := hid (HYES.out rfl)
          clear HNO HYES
          have b0 : w6.cell? ⟨wr.heap.size, 0, none⟩ = some (.int .i64 p0) := (cell_row (j := 0) HP6.out).trans rfl
          have b1 : w6.cell? ⟨wr.heap.size, 1, none⟩ = some (.int .i64 p1) := (cell_row (j := 1) HP6.out).trans rfl
          have b2 : w6.cell? ⟨wr.heap.size, 2, none⟩ = some (.int .i64 p2) := (cell_row (j := 2) HP6.out).trans rfl
          have b3 : w6.cell? ⟨wr.heap.size, 3, none⟩ = some (.int .i64 p3) := (cell_row (j := 3) HP6.out).trans rfl
          have b4 : w6.cell? ⟨wr.heap.size, 4, none⟩ = some (.int .i64 p4) := (cell_row (j := 4) HP6.out).trans rfl
          have b5 : w6.cell? ⟨wr.heap.size, 5, none⟩ = some (.int .i64 p5) := (cell_row (j := 5) HP6.out).trans rfl
          have b6 : w6.cell? ⟨wr.heap.size, 6, none⟩ = some (.int .i64 p6) := (cell_row (j := 6) HP6.out).trans rfl
          have b7 : w6.cell? ⟨wr.heap.size, 7, none⟩ = some (.int .i64 p7) := (cell_row (j := 7) HP6.out).trans rfl
          have b8 : w6.cell? ⟨wr.heap.size, 8, none⟩ = some (.int .i64 p8) := (cell_row (j := 8) HP6.out).trans rfl
          have HRK := hid (RowsAt.one (heap_alloc_at w6 _ _ rfl) : RowsAt (w6.alloc (.cells #[.int .i64 p0, .int .i64 p1, .int .i64 p2, .int .i64 p3, .int .i64 p4, .int .i64 p5, .int .i64 p6, .int .i64 p7, .int .i64 p8] 78)) w6.heap.size 0 9 [[.int .i64 p0, .int .i64 p1, .int .i64 p2, .int .i64 p3, .int .i64 p4, .int .i64 p5, .int .i64 p6, .int .i64 p7, .int .i64 p8]])
          have HOA := hid (OwnR.grow' HO6.out ((Below.refl _ _).alloc (Nat.le_refl _) _) : OwnR (w6.alloc (.cells #[.int .i64 p0, .int .i64 p1, .int .i64 p2, .int .i64 p3, .int .i64 p4, .int .i64 p5, .int .i64 p6, .int .i64 p7, .int .i64 p8] 78)) w2.heap.size 78 9 ov (((D.take i).filter (wantB ⟨lv, .slice ra m rc, R, .slice ca k cc, C, ev⟩)).map Pt.row))
          have HBA := hid (HB6.out.alloc HB6.out.size _ : Below w2.heap.size w2 (w6.alloc (.cells #[.int .i64 p0, .int .i64 p1, .int .i64 p2, .int .i64 p3, .int .i64 p4, .int .i64 p5, .int .i64 p6, .int .i64 p7, .int .i64 p8] 78)))
          have hle := filter_le (o := ⟨lv, .slice ra m rc, R, .slice ca k cc, C, ev⟩) (D := D) (i := i)
          have HL1 := hid (show (((D.take i).filter (wantB ⟨lv, .slice ra m rc, R, .slice ca k cc, C, ev⟩)).map Pt.row).length + 1 ≤ maxLen by rw [List.length_map]; unfold maxLen; omega)
          have HL2 := hid (show ((((D.take i).filter (wantB ⟨lv, .slice ra m rc, R, .slice ca k cc, C, ev⟩)).map Pt.row).length + 1) * 72 ≤ 140737488355328 by rw [List.length_map]; omega)
          clear hle HO6
          go_wp2_with (first
            | (at_builtin
               refine wpList_append_rows rfl (.tmp 33) (.tmp 35) 22 rfl w2.heap.size 78 i0 _ 9 72 Try.underlying22 HI.out HZ0.out HZ1.out HZ2.out rfl (by decide) _ (((D.take i).filter (wantB ⟨lv, .slice ra m rc, R, .slice ca k cc, C, ev⟩)).map Pt.row) [[.int .i64 p0, .int .i64 p1, .int .i64 p2, .int .i64 p3, .int .i64 p4, .int .i64 p5, .int .i64 p6, .int .i64 p7, .int .i64 p8]] rfl HOA.out w6.heap.size 0 1 1 rfl rfl HRK.out (wide9d _ _ _ _ _ _ _ _ _) HL1.out HL2.out HBA.out.size ?_
               intro v7 W7 hown7 hg7 z7
               clear z7
               have HO7 := hid (show OwnP W7 w2.heap.size v7 ((D.take (i + 1)).filter (wantB ⟨lv, .slice ra m rc, R, .slice ca k cc, C, ev⟩)) by unfold OwnP; rw [HF.out, List.map_append]; exact hown7)
               have HB7 := hid (show Below w2.heap.size w2 W7 from HBA.out.grown hg7 HBA.out.size (fun k hk => OwnR.ownBlock HOA.out k hk))
               clear hown7 hg7)
            | (refine wpList_load_at rfl 78 (.tmp 10) rfl rfl HP6.out Try.underlying78 rfl size78s rfl ?_))
          exact ⟨⟨i + 1, _, rfl, by omega, by go_num, HO7.out, HB7.out⟩, by simp [intOf]; omega⟩
      · obtain rfl : i = n := by omega
        have d2 : decide ((i : Int) < (i : Int)) = false := by simp
        have HOA := hid (show OwnP wr w2.heap.size ov (D.filter (wantB ⟨lv, .slice ra m rc, R, .slice ca k cc, C, ev⟩)) by have h1 := HOV.out; rwa [HN.out, List.take_length] at h1)
        clear HOV
        go_wp2_with fail
        go_ret2
        exact ⟨⟨_, _, _, rfl, OwnR.mono HOA.out hz2, HRES.out _ rfl⟩, HB2.out.trans (HB4.out.mono hz2)⟩
  · have e1 : decide (e = 0) = false := decide_eq_false he
    have e2 : (e == 0) = false := by simpa using he
    have e3 : (e != 0) = true := by simpa using he
    have HRES := hid (show SelRes (E.map Te.tl) ⟨lv, .slice ra m rc, R, .slice ca k cc, C, ev⟩ e [] from ⟨HS.out.err.trans HE.out.symm, fun _ => rfl, fun h => absurd h he⟩)
    go_wp2_with fail
    go_ret2
    exact ⟨⟨_, _, [], rfl, OwnR.nil _ _ _ _, HRES.out⟩, HB2.out⟩
set_option maxRecDepth 100000 in
set_option maxHeartbeats 3200000 in
theorem rselect_any (v : Value) (E : List Te) (o : Od) (w : World) (hT : TilesV w v E) (ho : OdV w o) (hl : E.length ≤ 4398046511104) (hg : TlsOk (E.map Te.tl) → (E.map Te.tl).length ≤ 900) (hp : ∀ e ∈ E, e.pts.length ≤ maxLen) :
    Calls Try.prog 25 #[v, .agg o.row.toArray] w fun r w' => (∃ d e L, r = .returned (.tuple #[d, .int .i64 e]) ∧ OwnP w' w.heap.size d L ∧ SelRes (E.map Te.tl) o e L) ∧ Below w.heap.size w w' := by
  have HO := hid ho
  obtain ⟨lv, rv, R, cv, C, ev⟩ := o
  obtain ⟨⟨ra, rc, hrv, _⟩, _, ⟨ca, cc, hcv, _⟩, _⟩ := ho
  obtain rfl : rv = .slice ra R.length rc := hrv
  obtain rfl : cv = .slice ca C.length cc := hcv
  simp only [Od.row]
  generalize R.length = m at *
  generalize C.length = k at *
  obtain ⟨ob, hob⟩ : ∃ ob, ob = odB ⟨lv, .slice ra m rc, R, .slice ca k cc, C, ev⟩ := ⟨_, rfl⟩
  have HOC := hid (fun W (hb : Below w.heap.size w W) => show Calls Try.prog 22 #[.agg #[.int .i64 lv, .slice ra m rc, .slice ca k cc, .int .i64 ev]] W fun r w' => r = .returned (.bool ob) ∧ Below W.heap.size W w' from hob ▸ rorder_any ⟨lv, .slice ra m rc, R, .slice ca k cc, C, ev⟩ W (HO.out.still hb))
  have HOB := hid hob
  clear hob
  have HDC := hid (fun W (hb : Below w.heap.size w W) => rdetail_all v E lv W (hT.still hb) hl hg hp)
  have HWC := hid (fun W (hb : Below w.heap.size w W) (h : ob = true) (p : Pt) => rwanted_any ⟨lv, .slice ra m rc, R, .slice ca k cc, C, ev⟩ p W (HO.out.still hb) (odB_ev (HOB.out.symm.trans h)))
  have HDL := hid (fun (e : Int) (D : List Pt) (h : DetRes (E.map Te.tl) lv e D) (h0 : e = 0) => det_len h h0 hg)
  have HER := hid (fun (h : ob = true) => show selErr ⟨lv, .slice ra m rc, R, .slice ca k cc, C, ev⟩ (E.map Te.tl) = detErr (E.map Te.tl) lv by unfold selErr; rw [← HOB.out, h]; rfl)
  have HEN := hid (fun (h : ob = false) => show selErr ⟨lv, .slice ra m rc, R, .slice ca k cc, C, ev⟩ (E.map Te.tl) = 103 by unfold selErr; rw [← HOB.out, h]; rfl)
  obtain ⟨⟨a, cap, rfl, _⟩, _⟩ := hT
  generalize hEl : E.length = nE at *
  clear hl hg hp hEl
  obtain ⟨i0, hi, hz0, hz1, hz2⟩ := info_parts info36
  have HI := hid hi
  have HZ0 := hid hz0
  have HZ1 := hid hz1
  have HZ2 := hid hz2
  clear hi hz0 hz1 hz2
  go_enter Try.func25, Try.ntmps25
  go_upto_region 1 with fail
  refine gen_world (fun W0 hW0 => ?_)
  have KO0 := hid (show W0.heap[w.heap.size]? = some (.cells #[.int .i64 lv, .slice ra m rc, .slice ca k cc, .int .i64 ev] 64) by rw [hW0]; exact heap_alloc_at _ _ _ rfl)
  have HB0 := hid (show Below w.heap.size w W0 by rw [hW0]; exact (Below.refl _ _).alloc (Nat.le_refl _) _)
  clear hW0
  go_wp2_with (refine wpList_load_at rfl 64 (.tmp 3) rfl rfl KO0.out Try.underlying64 rfl size64 rfl ?_)
  refine (HOC.out _ HB0.out).mono ?_
  rintro r w1 ⟨rfl, hb⟩
  have KO1 := hid (heap_still hb KO0.out)
  have HB1 := hid (HB0.out.trans (hb.mono HB0.out.size))
  clear hb KO0 HB0
  cases ob
  · have HE := hid (HEN.out rfl)
    go_wp2_with fail
    go_ret2
    exact ⟨⟨_, _, [], rfl, OwnR.nil _ _ _ _, ⟨HE.out.symm, fun _ => rfl, fun h => absurd h (by decide)⟩⟩, HB1.out⟩
  have HE := hid (HER.out rfl)
  have q0 : w1.cell? ⟨w.heap.size, 0, none⟩ = some (.int .i64 lv) := (cell_row (j := 0) KO1.out).trans rfl
  go_wp2_with fail
  refine (HDC.out _ HB1.out).mono ?_
  rintro r w2 ⟨⟨d, e, D, rfl, hown, hres⟩, hb⟩
  have KO2 := hid (heap_still hb KO1.out)
  have HB2 := hid (HB1.out.trans (hb.mono HB1.out.size))
  have HW := hid hown
  have HS := hid hres
  clear hb KO1 HB1 hown hres q0
  by_cases he : e = 0
  · have HLEN := hid (HDL.out _ _ HS.out he)
    have HRES := hid (show ∀ L, L = D.filter (wantB ⟨lv, .slice ra m rc, R, .slice ca k cc, C, ev⟩) → SelRes (E.map Te.tl) ⟨lv, .slice ra m rc, R, .slice ca k cc, C, ev⟩ 0 L from fun L hL => ⟨he ▸ HS.out.err.trans HE.out.symm, fun h => absurd rfl h, fun _ => ⟨D, HS.out.some he, hL⟩⟩)
    subst he
    have HPV := hid (HW.out.ptsV)
    obtain ⟨da, dc, hd, hdr⟩ := HPV.out
    subst hd
    have HDR := hid hdr
    have hz2 := HB2.out.size
    clear hdr
    obtain ⟨n, hn⟩ : ∃ n, n = D.length := ⟨_, rfl⟩
    rw [← hn] at HLEN HW HPV ⊢
    have HN := hid hn
    have hn9 : n ≤ 921600 := HLEN.out
    clear hn
    go_wp2_with fail
    go_loopw [8, 26] (fun ov' iv W => ∃ (i : Nat) (ov : Value), ov = ov' ∧ i ≤ n ∧ iv = .int .i64 (i : Int) ∧ OwnP W w2.heap.size ov ((D.take i).filter (wantB ⟨lv, .slice ra m rc, R, .slice ca k cc, C, ev⟩)) ∧ Below w2.heap.size w2 W) (fun _ iv _ => n - (intOf iv).toNat)
    case atStart => exact ⟨0, _, rfl, by omega, rfl, OwnR.nil _ _ _ _, Below.refl _ _⟩
    case round =>
      obtain ⟨i, ov, rfl, hi, rfl, hov, hB⟩ := hrel
      have HOV := hid hov
      have HB4 := hid hB
      have hz4 := hB.size
      clear hov hB
      by_cases hlt : i < n
      · have d2 : decide ((i : Int) < (n : Int)) = true := decide_eq_true (by omega)
        obtain ⟨p, hp⟩ : ∃ p, D[i]? = some p := ⟨_, List.getElem?_eq_getElem (by rw [← HN.out]; exact hlt)⟩
        obtain ⟨b, off, rfl, hbw, hrows⟩ := HDR.out.resolve_left (fun h => by rw [h] at hp; simp at hp)
        have hcs : ∀ j, j < 9 → wr.cell? ⟨b, off + i * 9 + j, none⟩ = p.row[j]? := fun j hj => by
          rw [HB4.out.cell hbw, hrows i p.row (by rw [List.getElem?_map, hp]; rfl) j hj]
        have HP := hid hp
        clear hrows hp
        obtain ⟨p0, p1, p2, p3, p4, p5, p6, p7, p8⟩ := p
        simp only [Pt.row] at hcs
        have c0 : wr.cell? ⟨b, off + i * 9, none⟩ = some (.int .i64 p0) := hcs 0 (by decide)
        have c1 : wr.cell? ⟨b, off + i * 9 + 1, none⟩ = some (.int .i64 p1) := hcs 1 (by decide)
        have c2 : wr.cell? ⟨b, off + i * 9 + 2, none⟩ = some (.int .i64 p2) := hcs 2 (by decide)
        have c3 : wr.cell? ⟨b, off + i * 9 + 3, none⟩ = some (.int .i64 p3) := hcs 3 (by decide)
        have c4 : wr.cell? ⟨b, off + i * 9 + 4, none⟩ = some (.int .i64 p4) := hcs 4 (by decide)
        have c5 : wr.cell? ⟨b, off + i * 9 + 5, none⟩ = some (.int .i64 p5) := hcs 5 (by decide)
        have c6 : wr.cell? ⟨b, off + i * 9 + 6, none⟩ = some (.int .i64 p6) := hcs 6 (by decide)
        have c7 : wr.cell? ⟨b, off + i * 9 + 7, none⟩ = some (.int .i64 p7) := hcs 7 (by decide)
        have c8 : wr.cell? ⟨b, off + i * 9 + 8, none⟩ = some (.int .i64 p8) := hcs 8 (by decide)
        clear hcs
        go_upto_region 10 with fail
        refine gen_world (fun W5 hW5 => ?_)
        have HP5 := hid (show W5.heap[wr.heap.size]? = some (.cells #[.int .i64 p0, .int .i64 p1, .int .i64 p2, .int .i64 p3, .int .i64 p4, .int .i64 p5, .int .i64 p6, .int .i64 p7, .int .i64 p8] 78) by rw [hW5]; exact heap_alloc_at _ _ _ rfl)
        have KO5 := hid (show W5.heap[w.heap.size]? = some (.cells #[.int .i64 lv, .slice ra m rc, .slice ca k cc, .int .i64 ev] 64) by rw [hW5]; exact heap_alloc_past _ _ _ _ (heap_below HB4.out (Array.getElem?_eq_some_iff.1 KO2.out).1 KO2.out))
        have hb5 : Below wr.heap.size wr W5 := by rw [hW5]; exact (Below.refl _ _).alloc (Nat.le_refl _) _
        have HB5 := hid (HB4.out.trans (hb5.mono hz4))
        have HOX := hid (OwnR.grow' HOV.out hb5)
        clear hW5 hb5 c0 c1 c2 c3 c4 c5 c6 c7 c8 HOV
        obtain ⟨wb, hwb⟩ : ∃ wb, wb = wantB ⟨lv, .slice ra m rc, R, .slice ca k cc, C, ev⟩ ⟨p0, p1, p2, p3, p4, p5, p6, p7, p8⟩ := ⟨_, rfl⟩
        have HWN := hid (show Calls Try.prog 65 #[.agg #[.int .i64 p0, .int .i64 p1, .int .i64 p2, .int .i64 p3, .int .i64 p4, .int .i64 p5, .int .i64 p6, .int .i64 p7, .int .i64 p8], .agg #[.int .i64 lv, .slice ra m rc, .slice ca k cc, .int .i64 ev]] W5 fun r w' => r = .returned (.bool wb) ∧ Below W5.heap.size W5 w' from hwb ▸ HWC.out W5 (HB2.out.trans (HB5.out.mono hz2)) (by first | rfl | trivial) ⟨p0, p1, p2, p3, p4, p5, p6, p7, p8⟩)
        have HNO := hid (fun h : wb = false => filter_no (o := ⟨lv, .slice ra m rc, R, .slice ca k cc, C, ev⟩) HP.out (hwb.symm.trans h))
        have HYES := hid (fun h : wb = true => filter_yes (o := ⟨lv, .slice ra m rc, R, .slice ca k cc, C, ev⟩) HP.out (hwb.symm.trans h))
        clear hwb
        go_wp2_with (first | (refine wpList_load_at rfl 78 (.tmp 10) rfl rfl HP5.out Try.underlying78 rfl size78s rfl ?_) | (refine wpList_load_at rfl 64 (.tmp 3) rfl rfl KO5.out Try.underlying64 rfl size64 rfl ?_))
        refine HWN.out.mono ?_
        rintro r w6 ⟨rfl, hb⟩
        have HB6 := hid (HB5.out.trans (hb.mono HB5.out.size))
        have HO6 := hid (OwnR.grow' HOX.out hb)
        have HP6 := hid (heap_still hb HP5.out)
        clear hb HWN HOX HB5 HP5 KO5
        cases wb
        · have HF := hid (HNO.out rfl)
          clear HNO HYES
          go_wp2_with fail
          exact ⟨⟨i + 1, _, rfl, by omega, by go_num, by rw [HF.out]; exact HO6.out, HB6.out⟩, by simp [intOf]; omega⟩
        · have HF := hid (HYES.out rfl)
          clear HNO HYES
          have b0 : w6.cell? ⟨wr.heap.size, 0, none⟩ = some (.int .i64 p0) := (cell_row (j := 0) HP6.out).trans rfl
          have b1 : w6.cell? ⟨wr.heap.size, 1, none⟩ = some (.int .i64 p1) := (cell_row (j := 1) HP6.out).trans rfl
          have b2 : w6.cell? ⟨wr.heap.size, 2, none⟩ = some (.int .i64 p2) := (cell_row (j := 2) HP6.out).trans rfl
          have b3 : w6.cell? ⟨wr.heap.size, 3, none⟩ = some (.int .i64 p3) := (cell_row (j := 3) HP6.out).trans rfl
          have b4 : w6.cell? ⟨wr.heap.size, 4, none⟩ = some (.int .i64 p4) := (cell_row (j := 4) HP6.out).trans rfl
          have b5 : w6.cell? ⟨wr.heap.size, 5, none⟩ = some (.int .i64 p5) := (cell_row (j := 5) HP6.out).trans rfl
          have b6 : w6.cell? ⟨wr.heap.size, 6, none⟩ = some (.int .i64 p6) := (cell_row (j := 6) HP6.out).trans rfl
          have b7 : w6.cell? ⟨wr.heap.size, 7, none⟩ = some (.int .i64 p7) := (cell_row (j := 7) HP6.out).trans rfl
          have b8 : w6.cell? ⟨wr.heap.size, 8, none⟩ = some (.int .i64 p8) := (cell_row (j := 8) HP6.out).trans rfl
          have HRK := hid (RowsAt.one (heap_alloc_at w6 _ _ rfl) : RowsAt (w6.alloc (.cells #[.int .i64 p0, .int .i64 p1, .int .i64 p2, .int .i64 p3, .int .i64 p4, .int .i64 p5, .int .i64 p6, .int .i64 p7, .int .i64 p8] 78)) w6.heap.size 0 9 [[.int .i64 p0, .int .i64 p1, .int .i64 p2, .int .i64 p3, .int .i64 p4, .int .i64 p5, .int .i64 p6, .int .i64 p7, .int .i64 p8]])
          have HOA := hid (OwnR.grow' HO6.out ((Below.refl _ _).alloc (Nat.le_refl _) _) : OwnR (w6.alloc (.cells #[.int .i64 p0, .int .i64 p1, .int .i64 p2, .int .i64 p3, .int .i64 p4, .int .i64 p5, .int .i64 p6, .int .i64 p7, .int .i64 p8] 78)) w2.heap.size 78 9 ov (((D.take i).filter (wantB ⟨lv, .slice ra m rc, R, .slice ca k cc, C, ev⟩)).map Pt.row))
          have HBA := hid (HB6.out.alloc HB6.out.size _ : Below w2.heap.size w2 (w6.alloc (.cells #[.int .i64 p0, .int .i64 p1, .int .i64 p2, .int .i64 p3, .int .i64 p4, .int .i64 p5, .int .i64 p6, .int .i64 p7, .int .i64 p8] 78)))
          have hle := filter_le (o := ⟨lv, .slice ra m rc, R, .slice ca k cc, C, ev⟩) (D := D) (i := i)
          have HL1 := hid (show (((D.take i).filter (wantB ⟨lv, .slice ra m rc, R, .slice ca k cc, C, ev⟩)).map Pt.row).length + 1 ≤ maxLen by rw [List.length_map]; unfold maxLen; omega)
          have HL2 := hid (show ((((D.take i).filter (wantB ⟨lv, .slice ra m rc, R, .slice ca k cc, C, ev⟩)).map Pt.row).length + 1) * 72 ≤ 140737488355328 by rw [List.length_map]; omega)
          clear hle HO6
          go_wp2_with (first
            | (at_builtin
               refine wpList_append_rows rfl (.tmp 33) (.tmp 35) 22 rfl w2.heap.size 78 i0 _ 9 72 Try.underlying22 HI.out HZ0.out HZ1.out HZ2.out rfl (by decide) _ (((D.take i).filter (wantB ⟨lv, .slice ra m rc, R, .slice ca k cc, C, ev⟩)).map Pt.row) [[.int .i64 p0, .int .i64 p1, .int .i64 p2, .int .i64 p3, .int .i64 p4, .int .i64 p5, .int .i64 p6, .int .i64 p7, .int .i64 p8]] rfl HOA.out w6.heap.size 0 1 1 rfl rfl HRK.out (wide9d _ _ _ _ _ _ _ _ _) HL1.out HL2.out HBA.out.size ?_
               intro v7 W7 hown7 hg7 z7
               clear z7
               have HO7 := hid (show OwnP W7 w2.heap.size v7 ((D.take (i + 1)).filter (wantB ⟨lv, .slice ra m rc, R, .slice ca k cc, C, ev⟩)) by unfold OwnP; rw [HF.out, List.map_append]; exact hown7)
               have HB7 := hid (show Below w2.heap.size w2 W7 from HBA.out.grown hg7 HBA.out.size (fun k hk => OwnR.ownBlock HOA.out k hk))
               clear hown7 hg7)
            | (refine wpList_load_at rfl 78 (.tmp 10) rfl rfl HP6.out Try.underlying78 rfl size78s rfl ?_))
          exact ⟨⟨i + 1, _, rfl, by omega, by go_num, HO7.out, HB7.out⟩, by simp [intOf]; omega⟩
      · obtain rfl : i = n := by omega
        have d2 : decide ((i : Int) < (i : Int)) = false := by simp
        have HOA := hid (show OwnP wr w2.heap.size ov (D.filter (wantB ⟨lv, .slice ra m rc, R, .slice ca k cc, C, ev⟩)) by have h1 := HOV.out; rwa [HN.out, List.take_length] at h1)
        clear HOV
        go_wp2_with fail
        go_ret2
        exact ⟨⟨_, _, _, rfl, OwnR.mono HOA.out hz2, HRES.out _ rfl⟩, HB2.out.trans (HB4.out.mono hz2)⟩
  · have e1 : decide (e = 0) = false := decide_eq_false he
    have e2 : (e == 0) = false := by simpa using he
    have e3 : (e != 0) = true := by simpa using he
    have HRES := hid (show SelRes (E.map Te.tl) ⟨lv, .slice ra m rc, R, .slice ca k cc, C, ev⟩ e [] from ⟨HS.out.err.trans HE.out.symm, fun _ => rfl, fun h => absurd h he⟩)
    go_wp2_with fail
    go_ret2
    exact ⟨⟨_, _, [], rfl, OwnR.nil _ _ _ _, HRES.out⟩, HB2.out⟩
end Go.Proofs.Ytpablkmdpoombaa
