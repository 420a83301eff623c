/- PlantSelects: which points of tiles an order selects, for at most 80 tiles and points together; for others the law answers by itself. Every input, no condition but the form's own reach. (Printed by wip/gen_sellaw.py.) -/
import Derived.Test.YtpablkmdpoombaaSelect
import Derived.Test.YtpablkmdpoombaaPAwake
import Derived.Test.YtpablkmdpoombaaAidE
import Derived.SizedLaws
namespace Go.Proofs.Ytpablkmdpoombaa
open Go.ChangeShapes Go.WideShapes Go.ChangeAt Go.RowKit Go.Maps Go.Sort

/-- tiles and points together, as the law counts them -/
def wsum (a : Int) (E : List Te) : Int := E.foldl (fun s e => wrap64 (s + (e.pts.length : Int))) a
theorem wsum_next {a : Int} {E : List Te} {i : Nat} {e : Te} (he : E[i]? = some e) : wsum a (E.take (i + 1)) = wrap64 (wsum a (E.take i) + (e.pts.length : Int)) := by
  unfold wsum
  rw [take_next he, List.foldl_append]; rfl
def allPts (E : List Te) : Nat := (E.map (fun e => e.pts.length)).sum
theorem wsum_eq : ∀ (E : List Te) (a : Int), (∀ e ∈ E, e.pts.length ≤ 1024) → 0 ≤ a → a + 1024 * (E.length : Int) < 9223372036854775807 → wsum a E = a + (allPts E : Int)
  | [], a, _, _, _ => by simp [wsum, allPts]
  | e :: E, a, h, h0, hb => by
    have h1 := h e (by simp)
    have hl : ((e :: E).length : Int) = (E.length : Int) + 1 := by simp
    rw [hl] at hb
    have ew : wrap64 (a + (e.pts.length : Int)) = a + (e.pts.length : Int) := wrap64_id (by omega)
    have h2 := wsum_eq E (a + (e.pts.length : Int)) (fun x hx => h x (by simp [hx])) (by omega) (by omega)
    have h3 : wsum a (e :: E) = wsum (wrap64 (a + (e.pts.length : Int))) E := rfl
    rw [h3, ew, h2]
    unfold allPts
    simp only [List.map_cons, List.sum_cons, Int.natCast_add]
    omega
theorem detL_all : ∀ (E : List Te) (lv : Int), (detL (E.map Te.tl) lv).length ≤ allPts E
  | [], lv => by simp [detL, allPts]
  | e :: E, lv => by
    have ih := detL_all E lv
    have h1 : allPts (e :: E) = e.pts.length + allPts E := by simp [allPts]
    have h2 : (detL ((e :: E).map Te.tl) lv).length ≤ e.pts.length + (detL (E.map Te.tl) lv).length := by
      unfold detL
      rw [List.map_cons, List.filter_cons]
      split
      · rw [List.flatMap_cons, List.length_append]; exact Nat.le_refl _
      · exact Nat.le_add_left _ _
    omega
/-- the tiles, if good and not too wide, are few, and so are their points -/
theorem few_tiles {E : List Te} (hl : E.length ≤ 4398046511104) (h : TlsOk (E.map Te.tl)) (hw : ¬ 80 < wsum (E.length : Int) E) : E.length ≤ 80 ∧ allPts E ≤ 80 := by
  have h1 := wsum_eq E (E.length : Int) (fun e he => (h.all e.tl (List.mem_map_of_mem he)).len) (by omega) (by omega)
  omega
theorem sel_len {E : List Te} {o : Od} {e : Int} {L : List Pt} (h : SelRes (E.map Te.tl) o e L) (hl : E.length ≤ 4398046511104) (hw : ¬ 80 < wsum (E.length : Int) E) : L.length ≤ 4096 := by
  by_cases h0 : e = 0
  · obtain ⟨D, hd, rfl⟩ := h.some h0
    have hT : TlsOk (E.map Te.tl) := by
      have h1 := h.err
      rw [h0] at h1
      unfold selErr at h1
      split at h1
      · exact det_ok h1.symm
      · exact absurd h1 (by decide)
    have h2 := few_tiles hl hT hw
    have h3 := detL_all E o.lv
    have h4 := List.length_filter_le (wantB o) D
    have h5 := hd.perm.length_eq
    omega
  · rw [h.none h0]; simp
set_option maxRecDepth 100000 in
set_option maxHeartbeats 1600000 in
theorem pwide_any (va : Value) (E : List Te) (w : World) (ha : TilesV w va E) (hm : E.length ≤ maxLen) :
    Calls Try.prog 23 #[va] w fun r w' => r = .returned (.bool (decide (80 < wsum (E.length : Int) E))) ∧ Below w.heap.size w w' := by
  obtain ⟨⟨a, cap, rfl, hrow⟩, hpv⟩ := ha
  obtain ⟨S0, hS0⟩ : ∃ S0, S0 = wsum (E.length : Int) E := ⟨_, rfl⟩
  rw [← hS0]
  have HS0 := hid hS0
  clear hS0
  obtain ⟨n, hn⟩ : ∃ n, n = E.length := ⟨_, rfl⟩
  rw [← hn] at HS0 hm ⊢
  have hnm' : n ≤ 9223372036854775807 := by unfold maxLen at hm; omega
  have HN := hid hn
  have HROW := hid hrow
  have HPV := hid hpv
  clear hn hrow hpv hm
  go_enter Try.func23, Try.ntmps23
  go_wp2_with fail
  go_loopw [3, 10] (fun sv iv W => ∃ (i : Nat) (s : Int), i ≤ n ∧ iv = .int .i64 (i : Int) ∧ sv = .int .i64 s ∧ s = wsum (n : Int) (E.take i) ∧ Below w.heap.size w W) (fun _ iv _ => n - (intOf iv).toNat)
  case atStart => exact ⟨0, (n : Int), by omega, rfl, rfl, rfl, Below.refl _ _⟩
  case round =>
    obtain ⟨i, s, hi, rfl, rfl, hs, hB⟩ := hrel
    have HS := hid hs
    have HB4 := hid hB
    have hz4 := hB.size
    clear hs hB
    by_cases hlt : i < n
    · have d2 : decide ((i : Int) < (n : Int)) = true := decide_eq_true (by omega)
      obtain ⟨e, he⟩ : ∃ e, E[i]? = some e := ⟨_, List.getElem?_eq_getElem (by rw [← HN.out]; exact hlt)⟩
      have HNX := hid (wsum_next (a := (n : Int)) he)
      obtain ⟨b, off, rfl, hbw, hrows⟩ := HROW.out.resolve_left (fun h => by rw [h] at he; simp at he)
      have hpe := HPV.out e (List.mem_of_getElem? he)
      have hcs : ∀ y, y < 5 → wr.cell? ⟨b, off + i * 5 + y, none⟩ = e.row[y]? := fun y hy => by
        rw [HB4.out.cell hbw, hrows i e.row (by rw [List.getElem?_map, he]; rfl) y hy]
      clear he hrows hbw
      obtain ⟨⟨k0, k1, k2, k3⟩, ev, P⟩ := e
      obtain ⟨ea, ec, hev, _⟩ := hpe
      obtain rfl : ev = .slice ea P.length ec := hev
      simp only [Te.row, Ky.row] at hcs HNX
      obtain ⟨m, hm⟩ : ∃ m, m = P.length := ⟨_, rfl⟩
      rw [← hm] at hcs HNX
      clear hm
      have a0 : wr.cell? ⟨b, off + i * 5, none⟩ = some (.int .i64 k0) := hcs 0 (by decide)
      have a1 : wr.cell? ⟨b, off + i * 5 + 1, none⟩ = some (.int .i64 k1) := hcs 1 (by decide)
      have a2 : wr.cell? ⟨b, off + i * 5 + 2, none⟩ = some (.int .i64 k2) := hcs 2 (by decide)
      have a3 : wr.cell? ⟨b, off + i * 5 + 3, none⟩ = some (.int .i64 k3) := hcs 3 (by decide)
      have a4 : wr.cell? ⟨b, off + i * 5 + 4, none⟩ = some (.slice ea m ec) := hcs 4 (by decide)
      clear hcs
      go_upto_region 5 with fail
      refine gen_world (fun W5 hW5 => ?_)
      have HT5 := hid (show W5.heap[wr.heap.size]? = some (.cells #[.int .i64 k0, .int .i64 k1, .int .i64 k2, .int .i64 k3, .slice ea m ec] 111) by rw [hW5]; exact heap_alloc_at _ _ _ rfl)
      have HBX := hid (show Below w.heap.size w W5 by rw [hW5]; exact HB4.out.alloc hz4 _)
      clear hW5 a0 a1 a2 a3 a4
      have t4 : W5.cell? ⟨wr.heap.size, 4, none⟩ = some (.slice ea m ec) := (cell_row (j := 4) HT5.out).trans rfl
      go_wp2_with fail
      exact ⟨⟨i + 1, _, by omega, by go_num, rfl, by rw [HNX.out, ← HS.out], HBX.out⟩, by simp [intOf]; omega⟩
    · obtain rfl : i = n := by omega
      have d2 : decide ((i : Int) < (i : Int)) = false := by simp
      obtain rfl : s = S0 := by
        have h1 := HS.out
        rw [HN.out, List.take_length] at h1
        rw [h1, ← HN.out, HS0.out]
      by_cases h80 : 80 < s
      · have d3 : decide ((80 : Int) < s) = true := decide_eq_true h80
        go_wp2_with fail
        go_ret
        exact ⟨by first | rfl | (rw [d3]; rfl), HB4.out⟩
      · have d3 : decide ((80 : Int) < s) = false := decide_eq_false h80
        go_wp2_with fail
        go_ret
        exact ⟨by first | rfl | (rw [d3]; rfl), HB4.out⟩
set_option maxRecDepth 100000 in
set_option maxHeartbeats 3200000 in
theorem selects_law (v : Value) (E : List Te) (o : Od) (w : World) (hT : TilesV w v E) (ho : OdV w o) (hl : E.length ≤ 4398046511104) (hp : ∀ e ∈ E, e.pts.length ≤ maxLen) :
    Calls Try.prog 7 #[v, .agg o.row.toArray] w fun r w' => r = .returned (.bool true) ∧ Below w.heap.size w w' := by
  have HO := hid ho
  obtain ⟨lv, rv, R, cv, C, ev⟩ := o
  obtain ⟨⟨ra, rc, hrv, _⟩, hrl, ⟨ca, cc, hcv, _⟩, hcl⟩ := ho
  obtain rfl : rv = .slice ra R.length rc := hrv
  obtain rfl : cv = .slice ca C.length cc := hcv
  simp only [Od.row]
  have hrl' : R.length ≤ 9223372036854775807 := by have h1 : R.length ≤ maxLen := hrl; unfold maxLen at h1; omega
  have hcl' : C.length ≤ 9223372036854775807 := by have h1 : C.length ≤ maxLen := hcl; unfold maxLen at h1; omega
  clear hrl hcl
  generalize R.length = m at *
  generalize C.length = k at *
  obtain ⟨wb, hwb⟩ : ∃ wb, wb = decide (80 < wsum (E.length : Int) E) := ⟨_, rfl⟩
  have HWC := hid (fun W (hb : Below w.heap.size w W) => show Calls Try.prog 23 #[v] W fun r w' => r = .returned (.bool wb) ∧ Below W.heap.size W w' from hwb ▸ pwide_any v E W (hT.still hb) (by unfold maxLen; omega))
  have HWN := hid (fun (h : wb = false) => of_decide_eq_false (hwb.symm.trans h))
  clear hwb
  have HSX := hid (fun W (hb : Below w.heap.size w W) (h : wb = false) => xselect_any v E ⟨lv, .slice ra m rc, R, .slice ca k cc, C, ev⟩ W (hT.still hb) (HO.out.still hb) hl (fun g => by have := (few_tiles hl g (HWN.out h)).1; rw [List.length_map]; omega) hp)
  have HSR := hid (fun W (hb : Below w.heap.size w W) (h : wb = false) => rselect_any v E ⟨lv, .slice ra m rc, R, .slice ca k cc, C, ev⟩ W (hT.still hb) (HO.out.still hb) hl (fun g => by have := (few_tiles hl g (HWN.out h)).1; rw [List.length_map]; omega) hp)
  have HSL := hid (fun e L (h : SelRes (E.map Te.tl) ⟨lv, .slice ra m rc, R, .slice ca k cc, C, ev⟩ e L) (hw : wb = false) => sel_len h hl (HWN.out hw))
  obtain ⟨⟨a, cap, rfl, _⟩, _⟩ := hT
  generalize hEl : E.length = nE at *
  clear hl hp hEl
  go_enter Try.func7, Try.ntmps7
  go_upto_region 1 with fail
  refine gen_world (fun W0 hW0 => ?_)
  have KO0 := hid (show W0.heap[w.heap.size]? = some (.cells #[.int .i64 lv, .slice ra m rc, .slice ca k cc, .int .i64 ev] 64) by rw [hW0]; exact heap_alloc_at _ _ _ rfl)
  have HB0 := hid (show Below w.heap.size w W0 by rw [hW0]; exact (Below.refl _ _).alloc (Nat.le_refl _) _)
  clear hW0
  go_wp2_with fail
  refine (HWC.out _ HB0.out).mono ?_
  rintro r w1 ⟨rfl, hb⟩
  have KO1 := hid (heap_still hb KO0.out)
  have HBX := hid (HB0.out.trans (hb.mono HB0.out.size))
  clear hb KO0 HB0
  cases wb
  · have q1 : w1.cell? ⟨w.heap.size, 1, none⟩ = some (.slice ra m rc) := (cell_row (j := 1) KO1.out).trans rfl
    have q2 : w1.cell? ⟨w.heap.size, 2, none⟩ = some (.slice ca k cc) := (cell_row (j := 2) KO1.out).trans rfl
    by_cases hm : 80 < m
    · have d1 : decide ((80 : Int) < (m : Int)) = true := decide_eq_true (by omega)
      go_wp2_with fail
      refine (pawake_any _).mono ?_
      rintro r w9 ⟨rfl, hb⟩
      go_wp2_with fail
      go_ret
      exact ⟨rfl, HBX.out.trans (hb.mono HBX.out.size)⟩
    have d1 : decide ((80 : Int) < (m : Int)) = false := decide_eq_false (by omega)
    by_cases hk : 40 < k
    · have d2 : decide ((40 : Int) < (k : Int)) = true := decide_eq_true (by omega)
      go_wp2_with fail
      refine (pawake_any _).mono ?_
      rintro r w9 ⟨rfl, hb⟩
      go_wp2_with fail
      go_ret
      exact ⟨rfl, HBX.out.trans (hb.mono HBX.out.size)⟩
    have d2 : decide ((40 : Int) < (k : Int)) = false := decide_eq_false (by omega)
    go_wp2_with (refine wpList_load_at rfl 64 (.tmp 3) rfl rfl KO1.out Try.underlying64 rfl size64 rfl ?_)
    refine (HSX.out _ HBX.out (by first | rfl | trivial)).mono ?_
    rintro r w2 ⟨⟨da, e, L, rfl, hown, hres⟩, hb⟩
    have KO2 := hid (heap_still hb KO1.out)
    have HB2 := hid (HBX.out.trans (hb.mono HBX.out.size))
    have HPA := hid (hown.ptsV)
    have HRA := hid hres
    obtain ⟨aa, ac, hda⟩ := hown.slice
    subst hda
    clear hb hown hres q1 q2 KO1 HBX
    go_wp2_with (refine wpList_load_at rfl 64 (.tmp 3) rfl rfl KO2.out Try.underlying64 rfl size64 rfl ?_)
    refine (HSR.out _ HB2.out (by first | rfl | trivial)).mono ?_
    rintro r w3 ⟨⟨db, f, M, rfl, hown, hres⟩, hb⟩
    have HBX := hid (HB2.out.trans (hb.mono HB2.out.size))
    obtain ⟨rfl, rfl⟩ := hres.same HRA.out
    have HSM := hid (same_pts _ _ M w3 (HPA.out.still hb) (hown.ptsV) (HSL.out _ _ HRA.out (by first | rfl | trivial)))
    obtain ⟨ba, bc, hdb⟩ := hown.slice
    subst hdb
    clear hb hown hres HB2 KO2 HPA HRA HSL
    generalize M.length = nl at *
    go_wp2_with fail
    refine HSM.out.mono ?_
    rintro r w4 ⟨rfl, hb⟩
    have HB4 := hid (HBX.out.trans (hb.mono HBX.out.size))
    clear hb HBX HSM
    go_wp2_with fail
    refine (pawake_any _).mono ?_
    rintro r w9 ⟨rfl, hb⟩
    go_wp2_with fail
    go_ret
    exact ⟨rfl, HB4.out.trans (hb.mono HB4.out.size)⟩
  · go_wp2_with fail
    refine (pawake_any _).mono ?_
    rintro r w9 ⟨rfl, hb⟩
    go_wp2_with fail
    go_ret
    exact ⟨rfl, HBX.out.trans (hb.mono HBX.out.size)⟩
theorem rows_xy {w : World} {b off n : Nat} (h : rows w b off 2 n (List.replicate 2 (some .i64))) : ∃ S : List Xy, S.length = n ∧ RowsAt w b off 2 (S.map Xy.row) := by
  obtain ⟨S, h1, h2⟩ := list_of (R := fun i (p : Xy) => ∀ j, j < 2 → w.cell? ⟨b, off + i * 2 + j, none⟩ = p.row[j]?) n (fun i hi => by
    obtain ⟨cs, hf, hc⟩ := h i hi
    obtain ⟨zs, hl, rfl⟩ := lawCells hf
    match zs, hl with
    | [z0, z1], _ => exact ⟨⟨z0, z1⟩, fun j hj => by
        match j, hj with
        | 0, _ | 1, _ => exact hc _ _ rfl⟩)
  refine ⟨S, h1, fun i r hi j hj => ?_⟩
  rw [List.getElem?_map] at hi
  obtain ⟨p, hp, rfl⟩ := Option.map_eq_some_iff.1 hi
  exact h2 i p hp j hj
theorem rows_is {w : World} {b off n : Nat} (h : rows w b off 1 n (List.replicate 1 (some .i64))) : ∃ l : List Int, l.length = n ∧ ∀ (i : Nat) (z : Int), l[i]? = some z → w.cell? ⟨b, off + i, none⟩ = some (.int .i64 z) := by
  obtain ⟨S, h1, h2⟩ := list_of (R := fun i (z : Int) => w.cell? ⟨b, off + i, none⟩ = some (.int .i64 z)) n (fun i hi => by
    obtain ⟨cs, hf, hc⟩ := h i hi
    obtain ⟨z, vs, rfl, _, h3⟩ := fits_int (show fitsW (some .i64 :: []) cs from hf)
    have := hc 0 _ rfl
    rw [Nat.mul_one] at this
    exact ⟨z, this⟩)
  exact ⟨S, h1, h2⟩
theorem flat3s : flatOf Try.prog 10 3 = some (List.replicate 1 (some .i64)) := by kernel_rfl
theorem size3s : (Try.prog.info? 3).map (·.size) = some (List.replicate 1 (some IntKind.i64)).length := by kernel_rfl
theorem flat137s : flatOf Try.prog 10 137 = some (List.replicate 2 (some .i64)) := by kernel_rfl
theorem size137s : (Try.prog.info? 137).map (·.size) = some (List.replicate 2 (some IntKind.i64)).length := by kernel_rfl
theorem cells64 : Try.prog.cellsOf 64 = 4 := by kernel_rfl
theorem cells3s : Try.prog.cellsOf 3 = 1 := by kernel_rfl
theorem cells62s : Try.prog.cellsOf 62 = 1 := by kernel_rfl
theorem cells36s : Try.prog.cellsOf 36 = 1 := by kernel_rfl
theorem bytes111 : Try.prog.bytesOf 111 = 56 := by kernel_rfl
section
variable {H : Type} {enc : TypeId × Value → H} {w : World} {base : Nat} {spare : Nat → Bool} {held : Bool}
/-- a slice of tiles that was handed in takes no more memory than there are addresses -/
theorem tls_sized {v : Value} {d : DataW H} {p : List MemPlace} {E : List Te} {W : World} {ts : List TypeId} {ds : List (DataW H)} {j : Nat} (h : DataW.Trod enc Try.prog w base spare held 68 v d p) (hS : TilesV W v E)
    (hz : (DataW.weightsEach Try.prog ts ds).all (· ≤ reachBytes) = true) (ht : ts[j]? = some 68) (hd : ds[j]? = some d) : E.length * 56 ≤ 140737488351232 := by
  obtain ⟨⟨a0, c0, rfl, _⟩, _⟩ := hS
  obtain ⟨fuel, hx⟩ := h
  rcases Go.Deep.open_slice Try.underlying68 hx with ⟨h0, _⟩ | ⟨a, len, cap, m, n, D, Pl, h1, hb, hl, hm, hmm, hx1, hall⟩
  · simp [Value.cells] at h0
    obtain ⟨_, h2, _⟩ := h0
    subst h2
    simp
  · simp [Value.cells] at h1
    obtain ⟨_, h2, _⟩ := h1
    injection hx1 with hx1 _
    subst hx1
    have h3 := sized_slice hz ht hd Try.underlying68
    rw [List.length_map, List.length_range, bytes111] at h3
    have h4 : len * 56 ≤ (len + ((List.range (m - len)).map fun j => D (len + j)).length) * 56 := Nat.mul_le_mul_right 56 (Nat.le_add_right _ _)
    have h5 : reachBytes = 140737488351232 := rfl
    omega
theorem open_agg64 {P : Program} {w : World} {r : Reach} {b0 : Nat} {t : TypeId} {n : Nat} {v : Value} (hs : P.cellsOf t = n) (hagg : (match P.underlying t with | some (.struct _) => true | some (.array _ _) => true | _ => false) = true) (hv : Value.okWide P w r b0 t v) :
    ∃ cs : List Value, v = .agg cs.toArray ∧ cs.length = n := by
  obtain ⟨cs, rfl, hsz⟩ : ∃ cs, v = .agg cs ∧ cs.size = P.cellsOf t := by
    unfold Value.okWide at hv
    split at hv
    · obtain ⟨cs, rfl, h, _⟩ := hv; exact ⟨cs, rfl, h⟩
    · obtain ⟨cs, rfl, h, _⟩ := hv; exact ⟨cs, rfl, h⟩
    · rename_i h1 h2
      split at hagg
      · rename_i fs he; exact absurd he (h1 fs)
      · rename_i n e he; exact absurd he (h2 n e)
      · simp at hagg
  exact ⟨cs.toList, by simp, by simpa [hs] using hsz⟩
theorem xys_cell {fuel : Nat} {v : Value} {x : DataW H × List MemPlace} (hx : DataW.trod enc Try.prog w base spare held fuel 62 [v] = some x) : ∃ R : List Xy, XysV w v R ∧ R.length ≤ maxLen := by
  obtain ⟨a, len, cap, rfl, hl, hn, hr⟩ := open_cell_rows Try.underlying62 flat137s size137s (by decide) hx
  by_cases h0 : len = 0
  · subst h0
    exact ⟨[], ⟨a, cap, rfl, Or.inl rfl⟩, by simp⟩
  · obtain ⟨b, off, rfl, hb, hrows⟩ := hr (by omega)
    obtain ⟨S, h1, h2⟩ := rows_xy hrows
    subst h1
    exact ⟨S, ⟨_, cap, rfl, Or.inr ⟨b, off, rfl, hb, h2⟩⟩, hl⟩
theorem ints_cells {fuel : Nat} {v : Value} {x : DataW H × List MemPlace} (hx : DataW.trod enc Try.prog w base spare held fuel 36 [v] = some x) : ∃ l : List Int, IntsV w v l ∧ l.length ≤ maxLen := by
  obtain ⟨a, len, cap, rfl, hl, hn, hr⟩ := open_cell_rows Try.underlying36 flat3s size3s (by decide) hx
  by_cases h0 : len = 0
  · subst h0
    exact ⟨[], ⟨a, cap, rfl, Or.inl rfl⟩, by simp⟩
  · obtain ⟨b, off, rfl, hb, hrows⟩ := hr (by omega)
    obtain ⟨S, h1, h2⟩ := rows_is hrows
    subst h1
    exact ⟨S, ⟨_, cap, rfl, Or.inr ⟨b, off, rfl, hb, h2⟩⟩, hl⟩
set_option maxRecDepth 100000 in
theorem open_order {r : Reach} {b0 : Nat} {v : Value} {d : DataW H} {p : List MemPlace} (hv : Value.okWide Try.prog w r b0 64 v) (h : DataW.Trod enc Try.prog w base spare held 64 v d p) :
    ∃ o : Od, v = .agg o.row.toArray ∧ OdV w o := by
  obtain ⟨cs, rfl, hsz⟩ := open_agg64 cells64 (by kernel_rfl) hv
  clear hv
  obtain ⟨fuel, hx⟩ := h
  match cs, hsz with
  | [c0, c1, c2, c3], _ =>
    obtain ⟨xs, m, _, _, _, hxl, hf⟩ := DataW.trod_struct Try.underlying64 (show DataW.trod enc Try.prog w base spare held fuel 64 _ = _ from by simpa [Value.cells] using hx)
    have h0 := hf 0 _ rfl
    rw [List.getElem?_eq_getElem (by rw [hxl]; decide)] at h0
    have h1 := hf 1 _ rfl
    rw [List.getElem?_eq_getElem (by rw [hxl]; decide)] at h1
    have h2 := hf 2 _ rfl
    rw [List.getElem?_eq_getElem (by rw [hxl]; decide)] at h2
    have h3 := hf 3 _ rfl
    rw [List.getElem?_eq_getElem (by rw [hxl]; decide)] at h3
    have k0 := trod_flat 10 3 _ _ _ _ flat3s (by simp [cells3s]) h0
    obtain ⟨p0, v0, e0, _, _⟩ := fits_int (show fitsW (some .i64 :: []) _ from k0)
    simp [cells3s] at e0
    obtain ⟨rfl, _⟩ := e0
    have k3 := trod_flat 10 3 _ _ _ _ flat3s (by simp [cells3s]) h3
    obtain ⟨p3, v3, e3, _, _⟩ := fits_int (show fitsW (some .i64 :: []) _ from k3)
    simp [cells3s] at e3
    obtain ⟨rfl, _⟩ := e3
    obtain ⟨R, r1, r2⟩ := xys_cell (v := c1) (by simpa [Value.cells, cells62s] using h1)
    obtain ⟨C, r3, r4⟩ := ints_cells (v := c2) (by simpa [Value.cells, cells36s] using h2)
    exact ⟨⟨p0, c1, R, c2, C, p3⟩, rfl, ⟨r1, r2, r3, r4⟩⟩
end
set_option maxRecDepth 100000 in
theorem plantSelects_lifted (os : Os) (started : os.Started) (H : Type) (enc : TypeId × Value → H) :
    ReturnsInHanded {} Try.checked os 7 .any (Rows.plantSelectsSpec.pre6 enc Try.prog Try.f7 Rows.plantSelectsRow.domain false) (Rows.plantSelectsSpec.post enc Try.prog Try.f7 false true false false) := by
  refine law_lifted (C := Try.checked) (tb := 4) lawOwn started (by kernel_rfl) Try.func7 rfl ?_ (show Try.f7.resultTypes = #[4] by kernel_rfl) Try.underlying4 lawLaid ?_
    (ChangeSpec.witness6 (enc := enc) (C := Try.checked) false ⟨#[], #[.slice none 0 0, .agg #[.int .i64 0, .slice none 0 0, .slice none 0 0, .int .i64 0]], []⟩ 8 (by kernel_rfl) (by kernel_rfl) (by kernel_rfl) (by kernel_rfl)) ?_
  · intro ds hds
    match ds, hds with
    | [d1, d2], _ => exact ⟨rfl, rfl, rfl⟩
  · rw [Try.params7]
    intro t ht
    simp at ht
    rcases ht with rfl | rfl
    all_goals exact ⟨by kernel_rfl, of_decide_eq_true (by kernel_rfl)⟩
  · intro W base args ds p hval hA hlt hsz
    change DataW.TrodAll enc Try.prog W 0 (fun _ => true) true Try.f7.params.toList args.toList ds p at hA
    change ∀ (j : Nat) t v, Try.f7.params[j]? = some t → args[j]? = some v → Value.okWide Try.prog W .any base t v at hval
    rw [Try.params7] at hA hval
    obtain ⟨v0, vs0, d0, ds0, p0, q0, hargs, rfl, rfl, h0, r0⟩ := trodAll_cons hA
    obtain ⟨v1, vs1, d1, ds1, p1, q1, rfl, rfl, rfl, h1, r1⟩ := trodAll_cons r0
    obtain ⟨rfl, rfl, rfl⟩ := trodAll_nil r1
    obtain rfl : args = #[v0, v1] := by cases args; simp_all
    obtain ⟨E, hE, _, _, hTe⟩ := open_tiles (hval 0 68 v0 rfl rfl) h0
    have hE56 := tls_sized (j := 0) h0 hE hsz rfl rfl
    obtain ⟨o, rfl, hO⟩ := open_order (hval 1 64 v1 rfl rfl) h1
    exact selects_law v0 E o W hE hO (by omega) (fun e he => (hTe e he).len)
/-- PlantSelects, whatever the input. -/
theorem plantSelects_holds : Rows.PlantSelectsSaid :=
  OpenClaim.holds_of_wide 7 Try.f7 rfl rfl rfl rfl rfl rfl rfl ⟨rfl, rfl, rfl, rfl, rfl⟩ rfl rfl rfl rfl rfl (by kernel_rfl) Try.func7 (by kernel_rfl)
    (of_decide_eq_true (by kernel_rfl)) (by unfold Func.isWrapper; rw [if_neg (of_decide_eq_false (by kernel_rfl))]; exact ⟨rfl, rfl⟩)
    (fun os started H enc _ => plantSelects_lifted os started H enc)
#print axioms plantSelects_holds
end Go.Proofs.Ytpablkmdpoombaa
