/- Lists of tiles are found valid just if they are (program and reference): at most 1000000 tiles. -/
import Derived.Test.YteanlcefdoigcaaTileX
namespace Go.Proofs.Yteanlcefdoigcaa
open Go.ChangeShapes Go.WideShapes Go.RowKit Go.Maps Go.Sort

/-- the comparison of keys, whatever they are -/
def cmpW (a b : Ky) : Int := if a.L = b.L then (if a.x = b.x then (if a.y = b.y then (if a.z = b.z then 0 else wrap64 (a.z - b.z)) else wrap64 (a.y - b.y)) else wrap64 (a.x - b.x)) else wrap64 (a.L - b.L)
theorem cmpW_small {a b : Ky} (ha : a.small) (hb : b.small) : cmpW a b = cmpK a b := by
  unfold Ky.small at ha hb
  unfold cmpW cmpK wrap64
  by_cases h1 : a.L = b.L
  · rw [if_pos h1, if_pos h1]
    by_cases h2 : a.x = b.x
    · rw [if_pos h2, if_pos h2]
      by_cases h3 : a.y = b.y
      · rw [if_pos h3, if_pos h3]
        by_cases h4 : a.z = b.z
        · rw [if_pos h4, if_pos h4]
        · rw [if_neg h4, if_neg h4]; omega
      · rw [if_neg h3, if_neg h3]; omega
    · rw [if_neg h2, if_neg h2]; omega
  · rw [if_neg h1, if_neg h1]; omega
theorem TlOk.small {t : Tl} (h : TlOk t) : t.key.small := keyB_yes h.key
set_option maxRecDepth 100000 in
theorem order_raw (a b : Ky) (W : World) : Calls Try.prog 98 #[.agg a.row.toArray, .agg b.row.toArray] W fun e w' => e = .returned (.int .i64 (cmpW a b)) ∧ Grew W w' := by
  obtain ⟨aL, ax, ay, az⟩ := a
  obtain ⟨bL, bx, b_y, bz⟩ := b
  have HV := hid (show cmpW ⟨aL, ax, ay, az⟩ ⟨bL, bx, b_y, bz⟩ = if aL = bL then (if ax = bx then (if ay = b_y then (if az = bz then 0 else wrap64 (az - bz)) else wrap64 (ay - b_y)) else wrap64 (ax - bx)) else wrap64 (aL - bL) from rfl)
  simp only [Ky.row]
  have hi0 := idx160_0
  have hi1 := idx160_1
  have hi2 := idx160_2
  have hi3 := idx160_3
  go_enter Try.func98, Try.ntmps98
  go_wp2_with fail
  refine wp_loop_rounds 5 ?_
  rw [rounds_succ]
  by_cases h1 : aL = bL
  · subst h1
    go_wp2_with fail
    rw [rounds_succ]
    by_cases h2 : ax = bx
    · subst h2
      go_wp2_with fail
      rw [rounds_succ]
      by_cases h3 : ay = b_y
      · subst h3
        go_wp2_with fail
        rw [rounds_succ]
        by_cases h4 : az = bz
        · subst h4
          have HX := hid (show cmpW ⟨aL, ax, ay, az⟩ ⟨aL, ax, ay, az⟩ = 0 by rw [HV.out]; simp)
          go_wp2_with fail
          rw [rounds_succ]
          go_wp2_with fail
          go_ret
          exact ⟨by rw [HX.out]; rfl, (by repeat' (first | exact Grew.refl _ | refine Grew.alloc ?_ _ | refine Grew.drewN ?_ _))⟩
        · have HX := hid (show cmpW ⟨aL, ax, ay, az⟩ ⟨aL, ax, ay, bz⟩ = wrap64 (az - bz) by rw [HV.out]; simp [h4])
          have d1 : (az == bz) = false := by simp [h4]
          go_wp2_with fail
          go_ret
          exact ⟨by rw [HX.out]; rfl, (by repeat' (first | exact Grew.refl _ | refine Grew.alloc ?_ _ | refine Grew.drewN ?_ _))⟩
      · have HX := hid (show cmpW ⟨aL, ax, ay, az⟩ ⟨aL, ax, b_y, bz⟩ = wrap64 (ay - b_y) by rw [HV.out]; simp [h3])
        have d1 : (ay == b_y) = false := by simp [h3]
        go_wp2_with fail
        go_ret
        exact ⟨by rw [HX.out]; rfl, (by repeat' (first | exact Grew.refl _ | refine Grew.alloc ?_ _ | refine Grew.drewN ?_ _))⟩
    · have HX := hid (show cmpW ⟨aL, ax, ay, az⟩ ⟨aL, bx, b_y, bz⟩ = wrap64 (ax - bx) by rw [HV.out]; simp [h2])
      have d1 : (ax == bx) = false := by simp [h2]
      go_wp2_with fail
      go_ret
      exact ⟨by rw [HX.out]; rfl, (by repeat' (first | exact Grew.refl _ | refine Grew.alloc ?_ _ | refine Grew.drewN ?_ _))⟩
  · have HX := hid (show cmpW ⟨aL, ax, ay, az⟩ ⟨bL, bx, b_y, bz⟩ = wrap64 (aL - bL) by rw [HV.out, if_neg h1])
    have d1 : (aL == bL) = false := by simp [h1]
    go_wp2_with fail
    go_ret
    exact ⟨by rw [HX.out]; rfl, (by repeat' (first | exact Grew.refl _ | refine Grew.alloc ?_ _ | refine Grew.drewN ?_ _))⟩
theorem pw_lt {α : Type} {r : α → α → Prop} {E : List α} {i j : Nat} {a b : α} (hij : i < j) (hi : E[i]? = some a) (hj : E[j]? = some b) (h : E.Pairwise r) : r a b := by
  obtain ⟨h1, rfl⟩ := List.getElem?_eq_some_iff.1 hi
  obtain ⟨h2, rfl⟩ := List.getElem?_eq_some_iff.1 hj
  exact List.pairwise_iff_getElem.1 h i j h1 h2 hij
theorem made137 (W : World) : (Instr.makeMap 137 none).run Try.prog W = .ok (.map (some W.heap.size)) (W.alloc (.map #[] 0)) := by
  simp [Instr.makeMap, newObj]
  rfl
def seenI (ids : List Int) : Lit → Option Value := fun l => if ids.any (fun z => (Lit.int .i64 z).sameKey l) then some (.bool true) else none
theorem seenI_look (ids : List Int) (x : Int) : (seenI ids (.int .i64 x)).getD (.bool false) = .bool (ids.any (fun z => z == x)) := by
  unfold seenI
  simp only [same_int]
  cases ids.any (fun z => z == x) <;> rfl
theorem seenI_put (ids : List Int) (z : Int) : putG (seenI ids) (.int .i64 z) (.bool true) = seenI (ids ++ [z]) := by
  funext l
  by_cases h : l = .int .i64 z
  · subst h
    rw [putG_same (show WideAt.IsKeyLit (Lit.int .i64 z) from trivial)]
    unfold seenI
    rw [List.any_append]
    simp [same_int]
  · rw [putG_other h]
    unfold seenI
    rw [List.any_append]
    simp [sameKey_ne (Ne.symm h)]
def idsOf (T : List Tl) : List Int := (T.flatMap Tl.pts).map Pt.id
theorem idsOf_mem {T : List Tl} {z : Int} : z ∈ idsOf T ↔ ∃ t ∈ T, ∃ p ∈ t.pts, p.id = z := by
  unfold idsOf
  rw [List.mem_map]
  constructor
  · rintro ⟨p, h1, h2⟩
    obtain ⟨t, h3, h4⟩ := List.mem_flatMap.1 h1
    exact ⟨t, h3, p, h4, h2⟩
  · rintro ⟨t, h1, p, h2, h3⟩
    exact ⟨p, List.mem_flatMap.2 ⟨t, h1, h2⟩, h3⟩
theorem idsOf_next {T : List Tl} {i : Nat} {t : Tl} (ht : T[i]? = some t) : idsOf (T.take (i + 1)) = idsOf (T.take i) ++ t.pts.map Pt.id := by
  unfold idsOf
  rw [take_next ht, List.flatMap_append, List.map_append]
  simp
theorem apart_of_ids {T : List Tl} {i : Nat} {t : Tl} (h : ∀ q ∈ t.pts, q.id ∉ idsOf (T.take i)) : ∀ j a, j < i → T[j]? = some a → ∀ p ∈ a.pts, ∀ q ∈ t.pts, p.id ≠ q.id := fun j a hj ha p hp q hq e => by
  refine h q hq (idsOf_mem.2 ⟨a, ?_, p, hp, e⟩)
  rw [List.mem_iff_getElem?]
  exact ⟨j, by rw [List.getElem?_take_of_lt hj]; exact ha⟩
theorem not_apart_ids {T : List Tl} {i : Nat} {t : Tl} {q : Pt} (ht : T[i]? = some t) (hq : q ∈ t.pts) (h : q.id ∈ idsOf (T.take i)) : ¬ TlsOk T := by
  obtain ⟨a, h1, p, h2, h3⟩ := idsOf_mem.1 h
  obtain ⟨j, hj, e⟩ := mem_take h1
  exact TlsOk.not_apart hj e ht h2 hq h3
/-- an Id of a valid tile is new just if no tile before has it -/
theorem seen_at {t : Tl} (h : TlOk t) {ids : List Int} {j : Nat} {p : Pt} (hp : t.pts[j]? = some p) : (ids ++ (t.pts.take j).map Pt.id).any (fun z => z == p.id) = ids.any (fun z => z == p.id) := by
  rw [List.any_append]
  have : ((t.pts.take j).map Pt.id).any (fun z => z == p.id) = false := by
    rw [List.any_eq_false]
    intro z hz
    obtain ⟨q, hq, rfl⟩ := List.mem_map.1 hz
    obtain ⟨k, hk, e⟩ := mem_take hq
    obtain ⟨h1, rfl⟩ := List.getElem?_eq_some_iff.1 e
    obtain ⟨h2, rfl⟩ := List.getElem?_eq_some_iff.1 hp
    have := List.pairwise_iff_getElem.1 h.asc k j h1 h2 hk
    simp
    omega
  rw [this, Bool.or_false]
theorem any_mem {ids : List Int} {x : Int} : ids.any (fun z => z == x) = true ↔ x ∈ ids := by
  rw [List.any_eq_true]
  constructor
  · rintro ⟨z, h1, h2⟩
    rw [beq_iff_eq] at h2
    exact h2 ▸ h1
  · intro h
    exact ⟨x, h, beq_iff_eq.2 rfl⟩
set_option maxRecDepth 100000 in
set_option maxHeartbeats 6400000 in
theorem xtls_any (v : Value) (E : List Te) (w : World) (hT : TilesV w v E) (hl : E.length ≤ 1000000) (hp : ∀ e ∈ E, e.pts.length ≤ maxLen) :
    Calls Try.prog 59 #[v] w fun r w' => r = .returned (.bool (decide (TlsOk (E.map Te.tl)))) ∧ Below w.heap.size w w' := by
  obtain ⟨gv, hgv⟩ : ∃ gv, gv = decide (TlsOk (E.map Te.tl)) := ⟨_, rfl⟩
  rw [← hgv]
  have HNO := hid (fun h : ¬ TlsOk (E.map Te.tl) => show gv = false by rw [hgv]; exact decide_eq_false h)
  have HYES := hid (fun h : TlsOk (E.map Te.tl) => show gv = true by rw [hgv]; exact decide_eq_true h)
  clear hgv
  obtain ⟨⟨a, cap, rfl, hrow⟩, hpv⟩ := hT
  obtain ⟨n, hnl⟩ : ∃ n, n = E.length := ⟨_, rfl⟩
  rw [← hnl] at hl ⊢
  have HN := hid hnl
  have HROW := hid hrow
  have HPVS := hid hpv
  have HPL := hid hp
  clear hnl hrow hpv hp
  have hmm := made137
  go_enter Try.func59, Try.ntmps59
  go_wp2_with fail
  refine gen_world (fun W1 hW1 => ?_)
  have HM0 := hid (show MapAt Try.prog W1 3 w.heap.size 0 (seenI []) by rw [hW1]; exact MapAt.made w)
  have HB0 := hid (show Below w.heap.size w W1 by rw [hW1]; exact (Below.refl _ _).alloc (Nat.le_refl _) _)
  have hgs : w.heap.size < W1.heap.size := by rw [hW1]; simp
  clear hW1
  go_loopw [11] (fun iv W => ∃ i : Nat, i ≤ n ∧ iv = .int .i64 (i : Int) ∧ TlsOk ((E.map Te.tl).take i) ∧ MapAt Try.prog W 3 w.heap.size (1024 * i) (seenI (idsOf ((E.map Te.tl).take i))) ∧ Below w.heap.size w W ∧ w.heap.size < W.heap.size) (fun iv _ => n - (intOf iv).toNat)
  case atStart => exact ⟨0, by omega, rfl, TlsOk.nil, HM0.out, HB0.out, hgs⟩
  case round =>
    obtain ⟨i, hi, rfl, hok, hmap, hB, hgw⟩ := hrel
    have HOK := hid hok
    have HM := hid hmap
    have HB4 := hid hB
    have hz4 := hB.size
    clear hok hmap hB
    by_cases hlt : i < n
    · have d1 : decide ((i : Int) < (n : Int)) = true := decide_eq_true (by omega)
      obtain ⟨e, he⟩ : ∃ e, E[i]? = some e := ⟨_, List.getElem?_eq_getElem (by rw [← HN.out]; exact hlt)⟩
      have HTI := hid (show (E.map Te.tl)[i]? = some e.tl by rw [List.getElem?_map, he]; rfl)
      have hEn : E ≠ [] := fun h => by rw [h] at he; simp at he
      obtain ⟨b, off, rfl, hbw, hrows⟩ := HROW.out.resolve_left hEn
      have HRW := hid hrows
      have HBW := hid hbw
      have hpe := HPVS.out e (List.mem_of_getElem? he)
      have HPM := hid (HPL.out e (List.mem_of_getElem? he))
      have hcs : ∀ j, j < 5 → wr.cell? ⟨b, off + i * 5 + j, none⟩ = e.row[j]? := fun j hj => by
        rw [HB4.out.cell hbw, hrows i e.row (by rw [List.getElem?_map, he]; rfl) j hj]
      clear he hEn hrows hbw
      obtain ⟨⟨k0, k1, k2, k3⟩, ev, P⟩ := e
      obtain ⟨ea, ec, hev, hpd⟩ := hpe
      obtain rfl : ev = .slice ea P.length ec := hev
      have HPV0 := hid (show PtsV w (.slice ea P.length ec) P from ⟨ea, ec, rfl, hpd⟩)
      have HPD := hid hpd
      have HPMM := hid (show P.length ≤ maxLen from HPM.out)
      clear hpd HPM
      obtain ⟨m, hm⟩ : ∃ m, m = P.length := ⟨_, rfl⟩
      simp only [Te.row, Ky.row, ← hm] at hcs
      simp only [← hm] at HPV0
      have HMP := hid hm
      have HPM := HPMM
      clear hm
      have a0 : wr.cell? ⟨b, off + i * 5, none⟩ = some (.int .i64 k0) := hcs 0 (by decide)
      have a1 : wr.cell? ⟨b, off + i * 5 + 1, none⟩ = some (.int .i64 k1) := hcs 1 (by decide)
      have a2 : wr.cell? ⟨b, off + i * 5 + 2, none⟩ = some (.int .i64 k2) := hcs 2 (by decide)
      have a3 : wr.cell? ⟨b, off + i * 5 + 3, none⟩ = some (.int .i64 k3) := hcs 3 (by decide)
      have a4 : wr.cell? ⟨b, off + i * 5 + 4, none⟩ = some (.slice ea m ec) := hcs 4 (by decide)
      clear hcs
      go_upto_region 5 with fail
      refine gen_world (fun W5 hW5 => ?_)
      have HT5 := hid (show W5.heap[wr.heap.size]? = some (.cells #[.int .i64 k0, .int .i64 k1, .int .i64 k2, .int .i64 k3, .slice ea m ec] 49) by rw [hW5]; exact heap_alloc_at _ _ _ rfl)
      have HBX := hid (show Below w.heap.size w W5 by rw [hW5]; exact HB4.out.alloc hz4 _)
      have HM5 := hid (show MapAt Try.prog W5 3 w.heap.size (1024 * i) (seenI (idsOf ((E.map Te.tl).take i))) by rw [hW5]; exact HM.out.grow ((Below.refl _ _).alloc (Nat.le_refl _) _))
      have hgw5 : w.heap.size < W5.heap.size := by rw [hW5]; simp; omega
      have hgt : w.heap.size < wr.heap.size := hgw
      clear hW5 a0 a1 a2 a3 a4 HM
      obtain ⟨g, hg⟩ : ∃ g, g = wr.heap.size := ⟨_, rfl⟩
      rw [← hg] at HT5 hgt ⊢
      clear hg
      have HPV := hid (HPV0.out.still HBX.out)
      have T0 := fun d os => cell_regrown (show W5.cell? ⟨g, 0, none⟩ = some (.int .i64 k0) from (cell_row (j := 0) HT5.out).trans rfl) d os
      have T1 := fun d os => cell_regrown (show W5.cell? ⟨g, 1, none⟩ = some (.int .i64 k1) from (cell_row (j := 1) HT5.out).trans rfl) d os
      have T2 := fun d os => cell_regrown (show W5.cell? ⟨g, 2, none⟩ = some (.int .i64 k2) from (cell_row (j := 2) HT5.out).trans rfl) d os
      have T3 := fun d os => cell_regrown (show W5.cell? ⟨g, 3, none⟩ = some (.int .i64 k3) from (cell_row (j := 3) HT5.out).trans rfl) d os
      have T4 := fun d os => cell_regrown (show W5.cell? ⟨g, 4, none⟩ = some (.slice ea m ec) from (cell_row (j := 4) HT5.out).trans rfl) d os
      by_cases hi0 : i = 0
      · have dg : decide ((0 : Int) < (i : Int)) = false := decide_eq_false (by omega)
        have dg2 : ¬ 0 < i := by omega
        have HOC := hid (fun (W : World) => grew_below (Grew.refl W))
        cases htb : decide (TlOk ⟨⟨k0, k1, k2, k3⟩, P⟩)
        · have HF := hid (HNO.out (TlsOk.not_ok HTI.out (of_decide_eq_false htb)))
          have HTC := hid (fun d os => (show Calls Try.prog 86 #[.agg #[.int .i64 k0, .int .i64 k1, .int .i64 k2, .int .i64 k3, .slice ea m ec]] (grow (redrawn W5 d) os) fun r w' => r = .returned (.bool false) ∧ Below (grow (redrawn W5 d) os).heap.size (grow (redrawn W5 d) os) w' from htb ▸ xtile_any ⟨k0, k1, k2, k3⟩ (.slice ea m ec) P (grow (redrawn W5 d) os) (HPV.out.still (below_regrown W5 d os)) HPM.out))
          clear htb
          go_wp2_with fail
          refine wp_region_quiet_below (by kernel_rfl) (by kernel_rfl) ?_
          repeat (first | go_big_quiet_step ((first | (go_at_call 98; with_reducible exact Calls.regrown_of (HOC.out _)) | (go_at_call 86; with_reducible exact Calls.regrown_of (HTC.out _ _)))) | quiet_step ((first | (go_at_call 98; with_reducible exact Calls.regrown_of (HOC.out _)) | (go_at_call 86; with_reducible exact Calls.regrown_of (HTC.out _ _)))))
          refine wpQuiet_nil ?_
          intro _ hw'
          obtain ⟨⟨dqV, osV⟩, hw2⟩ := hw'
          subst hw2
          have HQV := hid (below_regrown W5 dqV osV)
          generalize Sort.grow (redrawn W5 dqV) osV = V at HQV ⊢
          have hsV := HQV.out.size
          clear T0 T1 T2 T3 T4
          go_wp2_with fail
          go_ret
          exact ⟨by rw [HF.out]; rfl, HBX.out.trans (HQV.out.mono HBX.out.size)⟩
        · have HTOK := hid (of_decide_eq_true htb)
          have HTC := hid (fun d os => (show Calls Try.prog 86 #[.agg #[.int .i64 k0, .int .i64 k1, .int .i64 k2, .int .i64 k3, .slice ea m ec]] (grow (redrawn W5 d) os) fun r w' => r = .returned (.bool true) ∧ Below (grow (redrawn W5 d) os).heap.size (grow (redrawn W5 d) os) w' from htb ▸ xtile_any ⟨k0, k1, k2, k3⟩ (.slice ea m ec) P (grow (redrawn W5 d) os) (HPV.out.still (below_regrown W5 d os)) HPM.out))
          clear htb
          have HLT := hid (fun (a : Tl) (h : 0 < i) (_ : (E.map Te.tl)[i - 1]? = some a) => show a.key.lt ⟨k0, k1, k2, k3⟩ from absurd h dg2)
          go_wp2_with fail
          refine wp_region_quiet_below (by kernel_rfl) (by kernel_rfl) ?_
          repeat (first | go_big_quiet_step ((first | (go_at_call 98; with_reducible exact Calls.regrown_of (HOC.out _)) | (go_at_call 86; with_reducible exact Calls.regrown_of (HTC.out _ _)))) | quiet_step ((first | (go_at_call 98; with_reducible exact Calls.regrown_of (HOC.out _)) | (go_at_call 86; with_reducible exact Calls.regrown_of (HTC.out _ _)))))
          refine wpQuiet_nil ?_
          intro _ hw'
          obtain ⟨⟨dqV, osV⟩, hw2⟩ := hw'
          subst hw2
          have HQV := hid (below_regrown W5 dqV osV)
          generalize Sort.grow (redrawn W5 dqV) osV = V at HQV ⊢
          have hsV := HQV.out.size
          have HTV := hid (heap_still HQV.out HT5.out)
          have HMV := hid (HM5.out.grow HQV.out)
          have HBV := hid (HBX.out.trans (HQV.out.mono HBX.out.size))
          have hgwV : w.heap.size < V.heap.size := by omega
          clear T0 T1 T2 T3 T4
          have t4 : V.cell? ⟨g, 4, none⟩ = some (.slice ea m ec) := (cell_row (j := 4) HTV.out).trans rfl
          obtain ⟨pb, po, rfl, hpb, hpr⟩ := HPD.out.resolve_left HTOK.out.ne
          have HPR := hid hpr
          have HPB := hid hpb
          have hm1k : m ≤ 1024 := by rw [HMP.out]; exact (goodL_facts HTOK.out.good).2.2
          clear hpr hpb
          go_wp2_with fail
          clear t4
          go_loopw [38] (fun jv W => ∃ j : Nat, j ≤ m ∧ jv = .int .i64 (j : Int) ∧ (∀ q ∈ P.take j, q.id ∉ idsOf ((E.map Te.tl).take i)) ∧ MapAt Try.prog W 3 w.heap.size (1024 * i + j) (seenI (idsOf ((E.map Te.tl).take i) ++ (P.take j).map Pt.id)) ∧ Below w.heap.size w W ∧ w.heap.size < W.heap.size) (fun jv _ => m - (intOf jv).toNat)
          case atStart => exact ⟨0, by omega, rfl, fun q hq => by simp at hq, by rw [List.take_zero, List.map_nil, List.append_nil]; exact HMV.out, HBV.out, hgwV⟩
          case round =>
            obtain ⟨j, hj, rfl, hnew, hmap, hB, hgw2⟩ := hrel
            have HNEW := hid hnew
            have HM6 := hid hmap
            have HB6 := hid hB
            have hz6 := hB.size
            clear hnew hmap hB
            by_cases hjm : j < m
            · have d2 : decide ((j : Int) < (m : Int)) = true := decide_eq_true (by omega)
              obtain ⟨p, hp⟩ : ∃ p, P[j]? = some p := ⟨_, List.getElem?_eq_getElem (by rw [← HMP.out]; exact hjm)⟩
              have hcs : ∀ q, q < 9 → wr.cell? ⟨pb, po + j * 9 + q, none⟩ = some (.int .i64 (p.f q)) := fun q hq => by
                rw [HB6.out.cell HPB.out, HPR.out j p.row (by rw [List.getElem?_map, hp]; rfl) q hq, Pt.row_at p q hq]
              have HSEEN := hid (seen_at (ids := idsOf ((E.map Te.tl).take i)) HTOK.out hp)
              have HPI := hid hp
              have HFI := hid ((goodL_facts HTOK.out.good).2.1 p (List.mem_of_getElem? hp)).1
              clear hp
              obtain ⟨p0, p1, p2, p3, p4, p5, p6, p7, p8⟩ := p
              have HKEY := hid (keyOf_int_mk (P := Try.prog) Try.underlying3 (show (Lit.int .i64 p0).wf = true from WalkArith.wf_i64 (by have := HFI.out; simp only at this; omega)))
              have a0 : wr.cell? ⟨pb, po + j * 9, none⟩ = some (.int .i64 p0) := hcs 0 (by decide)
              have a1 : wr.cell? ⟨pb, po + j * 9 + 1, none⟩ = some (.int .i64 p1) := hcs 1 (by decide)
              have a2 : wr.cell? ⟨pb, po + j * 9 + 2, none⟩ = some (.int .i64 p2) := hcs 2 (by decide)
              have a3 : wr.cell? ⟨pb, po + j * 9 + 3, none⟩ = some (.int .i64 p3) := hcs 3 (by decide)
              have a4 : wr.cell? ⟨pb, po + j * 9 + 4, none⟩ = some (.int .i64 p4) := hcs 4 (by decide)
              have a5 : wr.cell? ⟨pb, po + j * 9 + 5, none⟩ = some (.int .i64 p5) := hcs 5 (by decide)
              have a6 : wr.cell? ⟨pb, po + j * 9 + 6, none⟩ = some (.int .i64 p6) := hcs 6 (by decide)
              have a7 : wr.cell? ⟨pb, po + j * 9 + 7, none⟩ = some (.int .i64 p7) := hcs 7 (by decide)
              have a8 : wr.cell? ⟨pb, po + j * 9 + 8, none⟩ = some (.int .i64 p8) := hcs 8 (by decide)
              clear hcs
              go_upto_region 10 with fail
              refine gen_world (fun W7 hW7 => ?_)
              have HP7 := hid (show W7.heap[wr.heap.size]? = some (.cells #[.int .i64 p0, .int .i64 p1, .int .i64 p2, .int .i64 p3, .int .i64 p4, .int .i64 p5, .int .i64 p6, .int .i64 p7, .int .i64 p8] 36) by rw [hW7]; exact heap_alloc_at _ _ _ rfl)
              have HB7 := hid (show Below w.heap.size w W7 by rw [hW7]; exact HB6.out.alloc hz6 _)
              have hgw7 : w.heap.size < W7.heap.size := by rw [hW7]; simp; omega
              have HM7 := hid (show MapAt Try.prog W7 3 w.heap.size (1024 * i + j) (seenI (idsOf ((E.map Te.tl).take i) ++ (P.take j).map Pt.id)) by rw [hW7]; exact HM6.out.grow ((Below.refl _ _).alloc (Nat.le_refl _) _))
              clear hW7 a0 a1 a2 a3 a4 a5 a6 a7 a8 HM6
              have c0 : W7.cell? ⟨wr.heap.size, 0, none⟩ = some (.int .i64 p0) := (cell_row (j := 0) HP7.out).trans rfl
              have hlook := HM7.out.look law3 Try.underlying137 (zero4 W7) HKEY.out
              rw [seenI_look, HSEEN.out] at hlook
              cases hq : (idsOf ((E.map Te.tl).take i)).any (fun z => z == p0)
              · rw [hq] at hlook
                have HNI := hid (fun h => absurd (any_mem.2 h) (by rw [hq]; simp) : ¬ p0 ∈ idsOf ((E.map Te.tl).take i))
                clear hq
                have hml : 1024 * i + j < maxLen := by unfold maxLen; omega
                go_wp2_with (at_mapUpdate; refine wpList_put rfl (.tmp 46) (.tmp 48) (.const (.bool true)) 137 rfl law3 Try.underlying137 rfl HM7.out hml (.int .i64 p0) (.bool true) (.int .i64 p0) rfl rfl HKEY.out ?_; intro w8 hm8 hg8)
                rw [seenI_put, List.append_assoc] at hm8
                have hs8 := hg8.size
                have HTK := hid (take_next HPI.out)
                refine ⟨⟨j + 1, by omega, by go_num, ?_, ?_, HB7.out.grown hg8 (by omega) (fun j hj => by injection hj with hj; omega), by omega⟩, by simp [intOf]; omega⟩
                · rw [HTK.out]
                  intro q hq
                  rcases List.mem_append.1 hq with g1 | g1
                  · exact HNEW.out q g1
                  · obtain rfl := List.mem_singleton.1 g1
                    exact HNI.out
                · rw [HTK.out, List.map_append]
                  exact hm8
              · rw [hq] at hlook
                have HF := hid (HNO.out (not_apart_ids HTI.out (List.mem_of_getElem? HPI.out) (any_mem.1 hq)))
                clear hq
                go_wp2_with fail
                go_ret
                exact ⟨by rw [HF.out]; rfl, HB7.out⟩
            · obtain rfl : j = m := by omega
              have d2 : decide ((j : Int) < (j : Int)) = false := by simp
              have HTKE := hid (show P.take j = P by rw [HMP.out]; exact List.take_length)
              have HNX := hid (TlsOk.next HOK.out HTI.out HTOK.out HLT.out (apart_of_ids (by have := HNEW.out; rw [HTKE.out] at this; exact this)))
              have HM9 := hid (show MapAt Try.prog wr 3 w.heap.size (1024 * (i + 1)) (seenI (idsOf ((E.map Te.tl).take (i + 1)))) by
                rw [idsOf_next HTI.out]
                have := HM6.out
                rw [HTKE.out] at this
                exact this.mono (by omega))
              go_wp2_with fail
              exact ⟨⟨i + 1, by omega, by go_num, HNX.out, HM9.out, HB6.out, hgw2⟩, by simp [intOf]; omega⟩
      · obtain ⟨e, he⟩ : ∃ e, E[i - 1]? = some e := ⟨_, List.getElem?_eq_getElem (by rw [← HN.out]; omega)⟩
        have HEI := hid (show (E.map Te.tl)[i - 1]? = some e.tl by rw [List.getElem?_map, he]; rfl)
        have hes : ∀ j, j < 5 → W5.cell? ⟨b, off + (i - 1) * 5 + j, none⟩ = e.row[j]? := fun j hj => by
          rw [HBX.out.cell HBW.out, HRW.out (i - 1) e.row (by rw [List.getElem?_map, he]; rfl) j hj]
        have HAOK := hid (HOK.out.all e.tl (by rw [List.mem_iff_getElem?]; exact ⟨i - 1, by rw [List.getElem?_take_of_lt (by omega)]; exact HEI.out⟩))
        clear he
        obtain ⟨⟨e0, e1, e2, e3⟩, qv, qp⟩ := e
        simp only [Te.row, Ky.row] at hes
        have b0 := fun d os => cell_regrown (show W5.cell? ⟨b, off + (i - 1) * 5, none⟩ = some (.int .i64 e0) from hes 0 (by decide)) d os
        have b1 := fun d os => cell_regrown (show W5.cell? ⟨b, off + (i - 1) * 5 + 1, none⟩ = some (.int .i64 e1) from hes 1 (by decide)) d os
        have b2 := fun d os => cell_regrown (show W5.cell? ⟨b, off + (i - 1) * 5 + 2, none⟩ = some (.int .i64 e2) from hes 2 (by decide)) d os
        have b3 := fun d os => cell_regrown (show W5.cell? ⟨b, off + (i - 1) * 5 + 3, none⟩ = some (.int .i64 e3) from hes 3 (by decide)) d os
        clear hes
        have dg : decide ((0 : Int) < (i : Int)) = true := decide_eq_true (by omega)
        have dg2 : 0 < i := by omega
        have hcw := fun h : TlOk ⟨⟨k0, k1, k2, k3⟩, P⟩ => cmpW_small HAOK.out.small h.small
        obtain ⟨cw, hcwe⟩ : ∃ cw, cw = cmpW ⟨e0, e1, e2, e3⟩ ⟨k0, k1, k2, k3⟩ := ⟨_, rfl⟩
        have HOC := hid (show ∀ W, Calls Try.prog 98 #[.agg #[.int .i64 e0, .int .i64 e1, .int .i64 e2, .int .i64 e3], .agg #[.int .i64 k0, .int .i64 k1, .int .i64 k2, .int .i64 k3]] W fun r w' => r = .returned (.int .i64 cw) ∧ Below W.heap.size W w' from fun W => by
          rw [hcwe]
          exact (order_raw ⟨e0, e1, e2, e3⟩ ⟨k0, k1, k2, k3⟩ W).mono (fun r w' h => ⟨h.1, grew_below h.2⟩))
        have HCW := hid (fun h : TlOk ⟨⟨k0, k1, k2, k3⟩, P⟩ => hcwe.trans (hcw h))
        clear hcwe hcw
        by_cases hge : 0 ≤ cw
        · have HF := hid (HNO.out (fun h => by
            have h1 := h.all _ (List.mem_of_getElem? HTI.out)
            have h2 := HCW.out h1
            have h3 := pw_lt (show i - 1 < i by omega) HEI.out HTI.out h.order
            have h4 : cw < 0 := by rw [h2]; exact (cmpK_lt _ _).2 h3
            omega))
          have dl : decide (0 ≤ cw) = true := decide_eq_true hge
          clear HCW
          go_wp2_with fail
          refine wp_region_quiet_below (by kernel_rfl) (by kernel_rfl) ?_
          repeat (first | go_big_quiet_step ((go_at_call 98; with_reducible exact Calls.regrown_of (HOC.out _))) | quiet_step ((go_at_call 98; with_reducible exact Calls.regrown_of (HOC.out _))))
          refine wpQuiet_nil ?_
          intro _ hw'
          obtain ⟨⟨dqV, osV⟩, hw2⟩ := hw'
          subst hw2
          have HQV := hid (below_regrown W5 dqV osV)
          generalize Sort.grow (redrawn W5 dqV) osV = V at HQV ⊢
          have hsV := HQV.out.size
          clear T0 T1 T2 T3 T4
          go_wp2_with fail
          go_ret
          exact ⟨by rw [HF.out]; rfl, HBX.out.trans (HQV.out.mono HBX.out.size)⟩
        · have dl : decide (0 ≤ cw) = false := decide_eq_false hge
          have HLTE := hid (fun h : TlOk ⟨⟨k0, k1, k2, k3⟩, P⟩ => show (⟨e0, e1, e2, e3⟩ : Ky).lt ⟨k0, k1, k2, k3⟩ from (cmpK_lt _ _).1 (show cmpK ⟨e0, e1, e2, e3⟩ ⟨k0, k1, k2, k3⟩ < 0 by have h2 : cw = cmpK ⟨e0, e1, e2, e3⟩ ⟨k0, k1, k2, k3⟩ := HCW.out h; omega))
          clear HCW hge
          cases htb : decide (TlOk ⟨⟨k0, k1, k2, k3⟩, P⟩)
          · have HF := hid (HNO.out (TlsOk.not_ok HTI.out (of_decide_eq_false htb)))
            have HTC := hid (fun d os => (show Calls Try.prog 86 #[.agg #[.int .i64 k0, .int .i64 k1, .int .i64 k2, .int .i64 k3, .slice ea m ec]] (grow (redrawn W5 d) os) fun r w' => r = .returned (.bool false) ∧ Below (grow (redrawn W5 d) os).heap.size (grow (redrawn W5 d) os) w' from htb ▸ xtile_any ⟨k0, k1, k2, k3⟩ (.slice ea m ec) P (grow (redrawn W5 d) os) (HPV.out.still (below_regrown W5 d os)) HPM.out))
            clear htb
            go_wp2_with fail
            refine wp_region_quiet_below (by kernel_rfl) (by kernel_rfl) ?_
            repeat (first | go_big_quiet_step ((first | (go_at_call 98; with_reducible exact Calls.regrown_of (HOC.out _)) | (go_at_call 86; with_reducible exact Calls.regrown_of (HTC.out _ _)))) | quiet_step ((first | (go_at_call 98; with_reducible exact Calls.regrown_of (HOC.out _)) | (go_at_call 86; with_reducible exact Calls.regrown_of (HTC.out _ _)))))
            refine wpQuiet_nil ?_
            intro _ hw'
            obtain ⟨⟨dqV, osV⟩, hw2⟩ := hw'
            subst hw2
            have HQV := hid (below_regrown W5 dqV osV)
            generalize Sort.grow (redrawn W5 dqV) osV = V at HQV ⊢
            have hsV := HQV.out.size
            clear T0 T1 T2 T3 T4
            go_wp2_with fail
            go_ret
            exact ⟨by rw [HF.out]; rfl, HBX.out.trans (HQV.out.mono HBX.out.size)⟩
          · have HTOK := hid (of_decide_eq_true htb)
            have HTC := hid (fun d os => (show Calls Try.prog 86 #[.agg #[.int .i64 k0, .int .i64 k1, .int .i64 k2, .int .i64 k3, .slice ea m ec]] (grow (redrawn W5 d) os) fun r w' => r = .returned (.bool true) ∧ Below (grow (redrawn W5 d) os).heap.size (grow (redrawn W5 d) os) w' from htb ▸ xtile_any ⟨k0, k1, k2, k3⟩ (.slice ea m ec) P (grow (redrawn W5 d) os) (HPV.out.still (below_regrown W5 d os)) HPM.out))
            clear htb
            have HLT := hid (fun (a : Tl) (_ : 0 < i) (ha : (E.map Te.tl)[i - 1]? = some a) => show a.key.lt ⟨k0, k1, k2, k3⟩ from (Option.some.inj (HEI.out.symm.trans ha)) ▸ HLTE.out HTOK.out)
            go_wp2_with fail
            refine wp_region_quiet_below (by kernel_rfl) (by kernel_rfl) ?_
            repeat (first | go_big_quiet_step ((first | (go_at_call 98; with_reducible exact Calls.regrown_of (HOC.out _)) | (go_at_call 86; with_reducible exact Calls.regrown_of (HTC.out _ _)))) | quiet_step ((first | (go_at_call 98; with_reducible exact Calls.regrown_of (HOC.out _)) | (go_at_call 86; with_reducible exact Calls.regrown_of (HTC.out _ _)))))
            refine wpQuiet_nil ?_
            intro _ hw'
            obtain ⟨⟨dqV, osV⟩, hw2⟩ := hw'
            subst hw2
            have HQV := hid (below_regrown W5 dqV osV)
            generalize Sort.grow (redrawn W5 dqV) osV = V at HQV ⊢
            have hsV := HQV.out.size
            have HTV := hid (heap_still HQV.out HT5.out)
            have HMV := hid (HM5.out.grow HQV.out)
            have HBV := hid (HBX.out.trans (HQV.out.mono HBX.out.size))
            have hgwV : w.heap.size < V.heap.size := by omega
            clear T0 T1 T2 T3 T4
            have t4 : V.cell? ⟨g, 4, none⟩ = some (.slice ea m ec) := (cell_row (j := 4) HTV.out).trans rfl
            obtain ⟨pb, po, rfl, hpb, hpr⟩ := HPD.out.resolve_left HTOK.out.ne
            have HPR := hid hpr
            have HPB := hid hpb
            have hm1k : m ≤ 1024 := by rw [HMP.out]; exact (goodL_facts HTOK.out.good).2.2
            clear hpr hpb
            go_wp2_with fail
            clear t4
            go_loopw [38] (fun jv W => ∃ j : Nat, j ≤ m ∧ jv = .int .i64 (j : Int) ∧ (∀ q ∈ P.take j, q.id ∉ idsOf ((E.map Te.tl).take i)) ∧ MapAt Try.prog W 3 w.heap.size (1024 * i + j) (seenI (idsOf ((E.map Te.tl).take i) ++ (P.take j).map Pt.id)) ∧ Below w.heap.size w W ∧ w.heap.size < W.heap.size) (fun jv _ => m - (intOf jv).toNat)
            case atStart => exact ⟨0, by omega, rfl, fun q hq => by simp at hq, by rw [List.take_zero, List.map_nil, List.append_nil]; exact HMV.out, HBV.out, hgwV⟩
            case round =>
              obtain ⟨j, hj, rfl, hnew, hmap, hB, hgw2⟩ := hrel
              have HNEW := hid hnew
              have HM6 := hid hmap
              have HB6 := hid hB
              have hz6 := hB.size
              clear hnew hmap hB
              by_cases hjm : j < m
              · have d2 : decide ((j : Int) < (m : Int)) = true := decide_eq_true (by omega)
                obtain ⟨p, hp⟩ : ∃ p, P[j]? = some p := ⟨_, List.getElem?_eq_getElem (by rw [← HMP.out]; exact hjm)⟩
                have hcs : ∀ q, q < 9 → wr.cell? ⟨pb, po + j * 9 + q, none⟩ = some (.int .i64 (p.f q)) := fun q hq => by
                  rw [HB6.out.cell HPB.out, HPR.out j p.row (by rw [List.getElem?_map, hp]; rfl) q hq, Pt.row_at p q hq]
                have HSEEN := hid (seen_at (ids := idsOf ((E.map Te.tl).take i)) HTOK.out hp)
                have HPI := hid hp
                have HFI := hid ((goodL_facts HTOK.out.good).2.1 p (List.mem_of_getElem? hp)).1
                clear hp
                obtain ⟨p0, p1, p2, p3, p4, p5, p6, p7, p8⟩ := p
                have HKEY := hid (keyOf_int_mk (P := Try.prog) Try.underlying3 (show (Lit.int .i64 p0).wf = true from WalkArith.wf_i64 (by have := HFI.out; simp only at this; omega)))
                have a0 : wr.cell? ⟨pb, po + j * 9, none⟩ = some (.int .i64 p0) := hcs 0 (by decide)
                have a1 : wr.cell? ⟨pb, po + j * 9 + 1, none⟩ = some (.int .i64 p1) := hcs 1 (by decide)
                have a2 : wr.cell? ⟨pb, po + j * 9 + 2, none⟩ = some (.int .i64 p2) := hcs 2 (by decide)
                have a3 : wr.cell? ⟨pb, po + j * 9 + 3, none⟩ = some (.int .i64 p3) := hcs 3 (by decide)
                have a4 : wr.cell? ⟨pb, po + j * 9 + 4, none⟩ = some (.int .i64 p4) := hcs 4 (by decide)
                have a5 : wr.cell? ⟨pb, po + j * 9 + 5, none⟩ = some (.int .i64 p5) := hcs 5 (by decide)
                have a6 : wr.cell? ⟨pb, po + j * 9 + 6, none⟩ = some (.int .i64 p6) := hcs 6 (by decide)
                have a7 : wr.cell? ⟨pb, po + j * 9 + 7, none⟩ = some (.int .i64 p7) := hcs 7 (by decide)
                have a8 : wr.cell? ⟨pb, po + j * 9 + 8, none⟩ = some (.int .i64 p8) := hcs 8 (by decide)
                clear hcs
                go_upto_region 10 with fail
                refine gen_world (fun W7 hW7 => ?_)
                have HP7 := hid (show W7.heap[wr.heap.size]? = some (.cells #[.int .i64 p0, .int .i64 p1, .int .i64 p2, .int .i64 p3, .int .i64 p4, .int .i64 p5, .int .i64 p6, .int .i64 p7, .int .i64 p8] 36) by rw [hW7]; exact heap_alloc_at _ _ _ rfl)
                have HB7 := hid (show Below w.heap.size w W7 by rw [hW7]; exact HB6.out.alloc hz6 _)
                have hgw7 : w.heap.size < W7.heap.size := by rw [hW7]; simp; omega
                have HM7 := hid (show MapAt Try.prog W7 3 w.heap.size (1024 * i + j) (seenI (idsOf ((E.map Te.tl).take i) ++ (P.take j).map Pt.id)) by rw [hW7]; exact HM6.out.grow ((Below.refl _ _).alloc (Nat.le_refl _) _))
                clear hW7 a0 a1 a2 a3 a4 a5 a6 a7 a8 HM6
                have c0 : W7.cell? ⟨wr.heap.size, 0, none⟩ = some (.int .i64 p0) := (cell_row (j := 0) HP7.out).trans rfl
                have hlook := HM7.out.look law3 Try.underlying137 (zero4 W7) HKEY.out
                rw [seenI_look, HSEEN.out] at hlook
                cases hq : (idsOf ((E.map Te.tl).take i)).any (fun z => z == p0)
                · rw [hq] at hlook
                  have HNI := hid (fun h => absurd (any_mem.2 h) (by rw [hq]; simp) : ¬ p0 ∈ idsOf ((E.map Te.tl).take i))
                  clear hq
                  have hml : 1024 * i + j < maxLen := by unfold maxLen; omega
                  go_wp2_with (at_mapUpdate; refine wpList_put rfl (.tmp 46) (.tmp 48) (.const (.bool true)) 137 rfl law3 Try.underlying137 rfl HM7.out hml (.int .i64 p0) (.bool true) (.int .i64 p0) rfl rfl HKEY.out ?_; intro w8 hm8 hg8)
                  rw [seenI_put, List.append_assoc] at hm8
                  have hs8 := hg8.size
                  have HTK := hid (take_next HPI.out)
                  refine ⟨⟨j + 1, by omega, by go_num, ?_, ?_, HB7.out.grown hg8 (by omega) (fun j hj => by injection hj with hj; omega), by omega⟩, by simp [intOf]; omega⟩
                  · rw [HTK.out]
                    intro q hq
                    rcases List.mem_append.1 hq with g1 | g1
                    · exact HNEW.out q g1
                    · obtain rfl := List.mem_singleton.1 g1
                      exact HNI.out
                  · rw [HTK.out, List.map_append]
                    exact hm8
                · rw [hq] at hlook
                  have HF := hid (HNO.out (not_apart_ids HTI.out (List.mem_of_getElem? HPI.out) (any_mem.1 hq)))
                  clear hq
                  go_wp2_with fail
                  go_ret
                  exact ⟨by rw [HF.out]; rfl, HB7.out⟩
              · obtain rfl : j = m := by omega
                have d2 : decide ((j : Int) < (j : Int)) = false := by simp
                have HTKE := hid (show P.take j = P by rw [HMP.out]; exact List.take_length)
                have HNX := hid (TlsOk.next HOK.out HTI.out HTOK.out HLT.out (apart_of_ids (by have := HNEW.out; rw [HTKE.out] at this; exact this)))
                have HM9 := hid (show MapAt Try.prog wr 3 w.heap.size (1024 * (i + 1)) (seenI (idsOf ((E.map Te.tl).take (i + 1)))) by
                  rw [idsOf_next HTI.out]
                  have := HM6.out
                  rw [HTKE.out] at this
                  exact this.mono (by omega))
                go_wp2_with fail
                exact ⟨⟨i + 1, by omega, by go_num, HNX.out, HM9.out, HB6.out, hgw2⟩, by simp [intOf]; omega⟩
    · obtain rfl : i = n := by omega
      have d1 : decide ((i : Int) < (i : Int)) = false := by simp
      have HF := hid (HYES.out (by have := HOK.out; rwa [HN.out, List.take_of_length_le (by rw [List.length_map]; exact Nat.le_refl _)] at this))
      go_wp2_with fail
      go_ret
      exact ⟨by rw [HF.out]; rfl, HB4.out⟩
end Go.Proofs.Yteanlcefdoigcaa
