/- Texts of the seat Yteanlcefdoigcaa, turned to this one by wip/port.py: LevM TlsX RTls DetX. -/
import Derived.Test.YtpablkmdpoombaaFund
import Derived.Test.YtpablkmdpoombaaVal
import Derived.Test.YtpablkmdpoombaaPts
import Derived.Test.YtpablkmdpoombaaSrt
import Derived.Test.YtpablkmdpoombaaNum
import Derived.Test.YtpablkmdpoombaaCrc
import Derived.Test.YtpablkmdpoombaaEnc
import Derived.Test.YtpablkmdpoombaaRp
import Derived.Test.YtpablkmdpoombaaAidB
import Derived.Test.YtpablkmdpoombaaAidC
import Derived.Test.YtpablkmdpoombaaAidD
import Derived.Test.YtpablkmdpoombaaAidE
import Derived.Test.YtpablkmdpoombaaTlA
/- LevM -/
namespace Go.Proofs.Ytpablkmdpoombaa
open Go.RowKit

/-- the error of a detail -/
def detErr (T : List Tl) (lv : Int) : Int := if TlsOk T then (if 0 ≤ lv ∧ lv ≤ 12 then 0 else 2) else 81
theorem detErr_tile {T : List Tl} {lv : Int} (h : ¬ TlsOk T) : detErr T lv = 81 := by unfold detErr; rw [if_neg h]
theorem detErr_arg {T : List Tl} {lv : Int} (h : TlsOk T) (h2 : ¬ (0 ≤ lv ∧ lv ≤ 12)) : detErr T lv = 2 := by unfold detErr; rw [if_pos h, if_neg h2]
theorem detErr_ok {T : List Tl} {lv : Int} (h : TlsOk T) (h2 : 0 ≤ lv ∧ lv ≤ 12) : detErr T lv = 0 := by unfold detErr; rw [if_pos h, if_pos h2]
structure DetRes (T : List Tl) (lv e : Int) (D : List Pt) : Prop where
  err : e = detErr T lv
  none : e ≠ 0 → D = []
  some : e = 0 → IsDet T lv D
theorem DetRes.same {T : List Tl} {lv e e' : Int} {D D' : List Pt} (h : DetRes T lv e D) (h' : DetRes T lv e' D') : e = e' ∧ D = D' := by
  have he : e = e' := h.err.trans h'.err.symm
  subst he
  refine ⟨rfl, ?_⟩
  by_cases h0 : e = 0
  · exact (h.some h0).unique (h'.some h0)
  · rw [h.none h0, h'.none h0]
theorem DetRes.bad {T : List Tl} {lv e : Int} (h : detErr T lv = e) (he : e ≠ 0) : DetRes T lv e [] := ⟨h.symm, fun _ => rfl, fun h0 => absurd h0 he⟩
theorem DetRes.good {T : List Tl} {lv : Int} {D : List Pt} (h : detErr T lv = 0) (hd : IsDet T lv D) : DetRes T lv 0 D := ⟨h.symm, fun h0 => absurd rfl h0, fun _ => hd⟩
theorem TlsOk.take {T : List Tl} (h : TlsOk T) (i : Nat) : TlsOk (T.take i) :=
  ⟨fun t ht => h.all t (List.mem_of_mem_take ht), h.order.sublist (List.take_sublist i T), h.apart.sublist (List.take_sublist i T)⟩
theorem TlOk.len {t : Tl} (h : TlOk t) : t.pts.length ≤ 1024 := (goodL_facts h.good).2.2
theorem detL_bd : ∀ {T : List Tl} (lv : Int), (∀ t ∈ T, TlOk t) → (detL T lv).length ≤ 1024 * T.length
  | [], lv, _ => by simp [detL]
  | t :: T, lv, h => by
    have ih := detL_bd lv (fun u hu => h u (List.mem_cons_of_mem _ hu))
    have ht := (h t List.mem_cons_self).len
    unfold detL at *
    by_cases hl : t.key.L ≤ lv
    · simp [hl] at ih ⊢
      omega
    · simp [hl] at ih ⊢
      omega
theorem detL_ids {T : List Tl} (h : ∀ t ∈ T, TlOk t) (lv : Int) : ∀ p ∈ detL T lv, 0 ≤ p.id ∧ p.id ≤ 1152921504606846976 := fun p hp => by
  obtain ⟨t, ht, _, hpt⟩ := detL_mem.1 hp
  exact ((goodL_facts (h t ht).good).2.1 p hpt).1
theorem TlsOk.det {T : List Tl} (h : TlsOk T) {lv : Int} {D : List Pt} (hp : D.Perm (detL T lv)) (hs : D.Pairwise (fun p q => ¬ q.id < p.id)) : IsDet T lv D := ⟨hp, asc_strict hp (h.ids lv) hs⟩
section
variable {S : List Pt} {c : Nat} {T : List Tl}
end
end Go.Proofs.Ytpablkmdpoombaa

/- TlsX -/
namespace Go.Proofs.Ytpablkmdpoombaa
open Go.ChangeShapes Go.WideShapes Go.RowKit Go.Maps Go.Sort

/-- the comparison of keys, whatever they are -/
def cmpW (a b : Ky) : Int := if a.L = b.L then (if a.x = b.x then (if a.y = b.y then (if a.z = b.z then 0 else wrap64 (a.z - b.z)) else wrap64 (a.y - b.y)) else wrap64 (a.x - b.x)) else wrap64 (a.L - b.L)
theorem cmpW_small {a b : Ky} (ha : a.small) (hb : b.small) : cmpW a b = cmpK a b := by
  unfold Ky.small at ha hb
  unfold cmpW cmpK wrap64
  by_cases h1 : a.L = b.L
  · rw [if_pos h1, if_pos h1]
    by_cases h2 : a.x = b.x
    · rw [if_pos h2, if_pos h2]
      by_cases h3 : a.y = b.y
      · rw [if_pos h3, if_pos h3]
        by_cases h4 : a.z = b.z
        · rw [if_pos h4, if_pos h4]
        · rw [if_neg h4, if_neg h4]; omega
      · rw [if_neg h3, if_neg h3]; omega
    · rw [if_neg h2, if_neg h2]; omega
  · rw [if_neg h1, if_neg h1]; omega
theorem TlOk.small {t : Tl} (h : TlOk t) : t.key.small := keyB_yes h.key
set_option maxRecDepth 100000 in
theorem order_raw (a b : Ky) (W : World) : Calls Try.prog 126 #[.agg a.row.toArray, .agg b.row.toArray] W fun e w' => e = .returned (.int .i64 (cmpW a b)) ∧ Grew W w' := by
  obtain ⟨aL, ax, ay, az⟩ := a
  obtain ⟨bL, bx, b_y, bz⟩ := b
  have HV := hid (show cmpW ⟨aL, ax, ay, az⟩ ⟨bL, bx, b_y, bz⟩ = if aL = bL then (if ax = bx then (if ay = b_y then (if az = bz then 0 else wrap64 (az - bz)) else wrap64 (ay - b_y)) else wrap64 (ax - bx)) else wrap64 (aL - bL) from rfl)
  simp only [Ky.row]
  have hi0 := idx160_0
  have hi1 := idx160_1
  have hi2 := idx160_2
  have hi3 := idx160_3
  go_enter Try.func126, Try.ntmps126
  go_wp2_with fail
  refine wp_loop_rounds 5 ?_
  rw [rounds_succ]
  by_cases h1 : aL = bL
  · subst h1
    go_wp2_with fail
    rw [rounds_succ]
    by_cases h2 : ax = bx
    · subst h2
      go_wp2_with fail
      rw [rounds_succ]
      by_cases h3 : ay = b_y
      · subst h3
        go_wp2_with fail
        rw [rounds_succ]
        by_cases h4 : az = bz
        · subst h4
          have HX := hid (show cmpW ⟨aL, ax, ay, az⟩ ⟨aL, ax, ay, az⟩ = 0 by rw [HV.out]; simp)
          go_wp2_with fail
          rw [rounds_succ]
          go_wp2_with fail
          go_ret
          exact ⟨by rw [HX.out]; rfl, (by repeat' (first | exact Grew.refl _ | refine Grew.alloc ?_ _ | refine Grew.drewN ?_ _))⟩
        · have HX := hid (show cmpW ⟨aL, ax, ay, az⟩ ⟨aL, ax, ay, bz⟩ = wrap64 (az - bz) by rw [HV.out]; simp [h4])
          have d1 : (az == bz) = false := by simp [h4]
          go_wp2_with fail
          go_ret
          exact ⟨by rw [HX.out]; rfl, (by repeat' (first | exact Grew.refl _ | refine Grew.alloc ?_ _ | refine Grew.drewN ?_ _))⟩
      · have HX := hid (show cmpW ⟨aL, ax, ay, az⟩ ⟨aL, ax, b_y, bz⟩ = wrap64 (ay - b_y) by rw [HV.out]; simp [h3])
        have d1 : (ay == b_y) = false := by simp [h3]
        go_wp2_with fail
        go_ret
        exact ⟨by rw [HX.out]; rfl, (by repeat' (first | exact Grew.refl _ | refine Grew.alloc ?_ _ | refine Grew.drewN ?_ _))⟩
    · have HX := hid (show cmpW ⟨aL, ax, ay, az⟩ ⟨aL, bx, b_y, bz⟩ = wrap64 (ax - bx) by rw [HV.out]; simp [h2])
      have d1 : (ax == bx) = false := by simp [h2]
      go_wp2_with fail
      go_ret
      exact ⟨by rw [HX.out]; rfl, (by repeat' (first | exact Grew.refl _ | refine Grew.alloc ?_ _ | refine Grew.drewN ?_ _))⟩
  · have HX := hid (show cmpW ⟨aL, ax, ay, az⟩ ⟨bL, bx, b_y, bz⟩ = wrap64 (aL - bL) by rw [HV.out, if_neg h1])
    have d1 : (aL == bL) = false := by simp [h1]
    go_wp2_with fail
    go_ret
    exact ⟨by rw [HX.out]; rfl, (by repeat' (first | exact Grew.refl _ | refine Grew.alloc ?_ _ | refine Grew.drewN ?_ _))⟩
theorem pw_lt {α : Type} {r : α → α → Prop} {E : List α} {i j : Nat} {a b : α} (hij : i < j) (hi : E[i]? = some a) (hj : E[j]? = some b) (h : E.Pairwise r) : r a b := by
  obtain ⟨h1, rfl⟩ := List.getElem?_eq_some_iff.1 hi
  obtain ⟨h2, rfl⟩ := List.getElem?_eq_some_iff.1 hj
  exact List.pairwise_iff_getElem.1 h i j h1 h2 hij
theorem made137 (W : World) : (Instr.makeMap 99 none).run Try.prog W = .ok (.map (some W.heap.size)) (W.alloc (.map #[] 0)) := by
  simp [Instr.makeMap, newObj]
  rfl
def seenI (ids : List Int) : Lit → Option Value := fun l => if ids.any (fun z => (Lit.int .i64 z).sameKey l) then some (.bool true) else none
theorem seenI_look (ids : List Int) (x : Int) : (seenI ids (.int .i64 x)).getD (.bool false) = .bool (ids.any (fun z => z == x)) := by
  unfold seenI
  simp only [same_int]
  cases ids.any (fun z => z == x) <;> rfl
theorem seenI_put (ids : List Int) (z : Int) : putG (seenI ids) (.int .i64 z) (.bool true) = seenI (ids ++ [z]) := by
  funext l
  by_cases h : l = .int .i64 z
  · subst h
    rw [putG_same (show WideAt.IsKeyLit (Lit.int .i64 z) from trivial)]
    unfold seenI
    rw [List.any_append]
    simp [same_int]
  · rw [putG_other h]
    unfold seenI
    rw [List.any_append]
    simp [sameKey_ne (Ne.symm h)]
def idsOf (T : List Tl) : List Int := (T.flatMap Tl.pts).map Pt.id
theorem idsOf_mem {T : List Tl} {z : Int} : z ∈ idsOf T ↔ ∃ t ∈ T, ∃ p ∈ t.pts, p.id = z := by
  unfold idsOf
  rw [List.mem_map]
  constructor
  · rintro ⟨p, h1, h2⟩
    obtain ⟨t, h3, h4⟩ := List.mem_flatMap.1 h1
    exact ⟨t, h3, p, h4, h2⟩
  · rintro ⟨t, h1, p, h2, h3⟩
    exact ⟨p, List.mem_flatMap.2 ⟨t, h1, h2⟩, h3⟩
theorem idsOf_next {T : List Tl} {i : Nat} {t : Tl} (ht : T[i]? = some t) : idsOf (T.take (i + 1)) = idsOf (T.take i) ++ t.pts.map Pt.id := by
  unfold idsOf
  rw [take_next ht, List.flatMap_append, List.map_append]
  simp
theorem apart_of_ids {T : List Tl} {i : Nat} {t : Tl} (h : ∀ q ∈ t.pts, q.id ∉ idsOf (T.take i)) : ∀ j a, j < i → T[j]? = some a → ∀ p ∈ a.pts, ∀ q ∈ t.pts, p.id ≠ q.id := fun j a hj ha p hp q hq e => by
  refine h q hq (idsOf_mem.2 ⟨a, ?_, p, hp, e⟩)
  rw [List.mem_iff_getElem?]
  exact ⟨j, by rw [List.getElem?_take_of_lt hj]; exact ha⟩
theorem not_apart_ids {T : List Tl} {i : Nat} {t : Tl} {q : Pt} (ht : T[i]? = some t) (hq : q ∈ t.pts) (h : q.id ∈ idsOf (T.take i)) : ¬ TlsOk T := by
  obtain ⟨a, h1, p, h2, h3⟩ := idsOf_mem.1 h
  obtain ⟨j, hj, e⟩ := mem_take h1
  exact TlsOk.not_apart hj e ht h2 hq h3
/-- an Id of a valid tile is new just if no tile before has it -/
theorem seen_at {t : Tl} (h : TlOk t) {ids : List Int} {j : Nat} {p : Pt} (hp : t.pts[j]? = some p) : (ids ++ (t.pts.take j).map Pt.id).any (fun z => z == p.id) = ids.any (fun z => z == p.id) := by
  rw [List.any_append]
  have : ((t.pts.take j).map Pt.id).any (fun z => z == p.id) = false := by
    rw [List.any_eq_false]
    intro z hz
    obtain ⟨q, hq, rfl⟩ := List.mem_map.1 hz
    obtain ⟨k, hk, e⟩ := mem_take hq
    obtain ⟨h1, rfl⟩ := List.getElem?_eq_some_iff.1 e
    obtain ⟨h2, rfl⟩ := List.getElem?_eq_some_iff.1 hp
    have := List.pairwise_iff_getElem.1 h.asc k j h1 h2 hk
    simp
    omega
  rw [this, Bool.or_false]
theorem any_mem {ids : List Int} {x : Int} : ids.any (fun z => z == x) = true ↔ x ∈ ids := by
  rw [List.any_eq_true]
  constructor
  · rintro ⟨z, h1, h2⟩
    rw [beq_iff_eq] at h2
    exact h2 ▸ h1
  · intro h
    exact ⟨x, h, beq_iff_eq.2 rfl⟩
set_option maxRecDepth 100000 in
set_option maxHeartbeats 6400000 in
theorem xtls_any (v : Value) (E : List Te) (w : World) (hT : TilesV w v E) (hl : E.length ≤ 4398046511104) (hp : ∀ e ∈ E, e.pts.length ≤ maxLen) :
    Calls Try.prog 98 #[v] w fun r w' => r = .returned (.bool (decide (TlsOk (E.map Te.tl)))) ∧ Below w.heap.size w w' := by
  obtain ⟨gv, hgv⟩ : ∃ gv, gv = decide (TlsOk (E.map Te.tl)) := ⟨_, rfl⟩
  rw [← hgv]
  have HNO := hid (fun h : ¬ TlsOk (E.map Te.tl) => show gv = false by rw [hgv]; exact decide_eq_false h)
  have HYES := hid (fun h : TlsOk (E.map Te.tl) => show gv = true by rw [hgv]; exact decide_eq_true h)
  clear hgv
  obtain ⟨⟨a, cap, rfl, hrow⟩, hpv⟩ := hT
  obtain ⟨n, hnl⟩ : ∃ n, n = E.length := ⟨_, rfl⟩
  rw [← hnl] at hl ⊢
  have HN := hid hnl
  have HROW := hid hrow
  have HPVS := hid hpv
  have HPL := hid hp
  clear hnl hrow hpv hp
  have hmm := made137
  go_enter Try.func98, Try.ntmps98
  go_wp2_with fail
  refine gen_world (fun W1 hW1 => ?_)
  have HM0 := hid (show MapAt Try.prog W1 3 w.heap.size 0 (seenI []) by rw [hW1]; exact MapAt.made w)
  have HB0 := hid (show Below w.heap.size w W1 by rw [hW1]; exact (Below.refl _ _).alloc (Nat.le_refl _) _)
  have hgs : w.heap.size < W1.heap.size := by rw [hW1]; simp
  clear hW1
  go_loopw [11] (fun iv W => ∃ i : Nat, i ≤ n ∧ iv = .int .i64 (i : Int) ∧ TlsOk ((E.map Te.tl).take i) ∧ MapAt Try.prog W 3 w.heap.size (1024 * i) (seenI (idsOf ((E.map Te.tl).take i))) ∧ Below w.heap.size w W ∧ w.heap.size < W.heap.size) (fun iv _ => n - (intOf iv).toNat)
  case atStart => exact ⟨0, by omega, rfl, TlsOk.nil, HM0.out, HB0.out, hgs⟩
  case round =>
    obtain ⟨i, hi, rfl, hok, hmap, hB, hgw⟩ := hrel
    have HOK := hid hok
    have HM := hid hmap
    have HB4 := hid hB
    have hz4 := hB.size
    clear hok hmap hB
    by_cases hlt : i < n
    · have d1 : decide ((i : Int) < (n : Int)) = true := decide_eq_true (by omega)
      obtain ⟨e, he⟩ : ∃ e, E[i]? = some e := ⟨_, List.getElem?_eq_getElem (by rw [← HN.out]; exact hlt)⟩
      have HTI := hid (show (E.map Te.tl)[i]? = some e.tl by rw [List.getElem?_map, he]; rfl)
      have hEn : E ≠ [] := fun h => by rw [h] at he; simp at he
      obtain ⟨b, off, rfl, hbw, hrows⟩ := HROW.out.resolve_left hEn
      have HRW := hid hrows
      have HBW := hid hbw
      have hpe := HPVS.out e (List.mem_of_getElem? he)
      have HPM := hid (HPL.out e (List.mem_of_getElem? he))
      have hcs : ∀ j, j < 5 → wr.cell? ⟨b, off + i * 5 + j, none⟩ = e.row[j]? := fun j hj => by
        rw [HB4.out.cell hbw, hrows i e.row (by rw [List.getElem?_map, he]; rfl) j hj]
      clear he hEn hrows hbw
      obtain ⟨⟨k0, k1, k2, k3⟩, ev, P⟩ := e
      obtain ⟨ea, ec, hev, hpd⟩ := hpe
      obtain rfl : ev = .slice ea P.length ec := hev
      have HPV0 := hid (show PtsV w (.slice ea P.length ec) P from ⟨ea, ec, rfl, hpd⟩)
      have HPD := hid hpd
      have HPMM := hid (show P.length ≤ maxLen from HPM.out)
      clear hpd HPM
      obtain ⟨m, hm⟩ : ∃ m, m = P.length := ⟨_, rfl⟩
      simp only [Te.row, Ky.row, ← hm] at hcs
      simp only [← hm] at HPV0
      have HMP := hid hm
      have HPM := HPMM
      clear hm
      have a0 : wr.cell? ⟨b, off + i * 5, none⟩ = some (.int .i64 k0) := hcs 0 (by decide)
      have a1 : wr.cell? ⟨b, off + i * 5 + 1, none⟩ = some (.int .i64 k1) := hcs 1 (by decide)
      have a2 : wr.cell? ⟨b, off + i * 5 + 2, none⟩ = some (.int .i64 k2) := hcs 2 (by decide)
      have a3 : wr.cell? ⟨b, off + i * 5 + 3, none⟩ = some (.int .i64 k3) := hcs 3 (by decide)
      have a4 : wr.cell? ⟨b, off + i * 5 + 4, none⟩ = some (.slice ea m ec) := hcs 4 (by decide)
      clear hcs
      go_upto_region 5 with fail
      refine gen_world (fun W5 hW5 => ?_)
      have HT5 := hid (show W5.heap[wr.heap.size]? = some (.cells #[.int .i64 k0, .int .i64 k1, .int .i64 k2, .int .i64 k3, .slice ea m ec] 111) by rw [hW5]; exact heap_alloc_at _ _ _ rfl)
      have HBX := hid (show Below w.heap.size w W5 by rw [hW5]; exact HB4.out.alloc hz4 _)
      have HM5 := hid (show MapAt Try.prog W5 3 w.heap.size (1024 * i) (seenI (idsOf ((E.map Te.tl).take i))) by rw [hW5]; exact HM.out.grow ((Below.refl _ _).alloc (Nat.le_refl _) _))
      have hgw5 : w.heap.size < W5.heap.size := by rw [hW5]; simp; omega
      have hgt : w.heap.size < wr.heap.size := hgw
      clear hW5 a0 a1 a2 a3 a4 HM
      obtain ⟨g, hg⟩ : ∃ g, g = wr.heap.size := ⟨_, rfl⟩
      rw [← hg] at HT5 hgt ⊢
      clear hg
      have HPV := hid (HPV0.out.still HBX.out)
      have T0 := fun d os => cell_regrown (show W5.cell? ⟨g, 0, none⟩ = some (.int .i64 k0) from (cell_row (j := 0) HT5.out).trans rfl) d os
      have T1 := fun d os => cell_regrown (show W5.cell? ⟨g, 1, none⟩ = some (.int .i64 k1) from (cell_row (j := 1) HT5.out).trans rfl) d os
      have T2 := fun d os => cell_regrown (show W5.cell? ⟨g, 2, none⟩ = some (.int .i64 k2) from (cell_row (j := 2) HT5.out).trans rfl) d os
      have T3 := fun d os => cell_regrown (show W5.cell? ⟨g, 3, none⟩ = some (.int .i64 k3) from (cell_row (j := 3) HT5.out).trans rfl) d os
      have T4 := fun d os => cell_regrown (show W5.cell? ⟨g, 4, none⟩ = some (.slice ea m ec) from (cell_row (j := 4) HT5.out).trans rfl) d os
      by_cases hi0 : i = 0
      · have dg : decide ((0 : Int) < (i : Int)) = false := decide_eq_false (by omega)
        have dg2 : ¬ 0 < i := by omega
        have HOC := hid (fun (W : World) => grew_below (Grew.refl W))
        cases htb : decide (TlOk ⟨⟨k0, k1, k2, k3⟩, P⟩)
        · have HF := hid (HNO.out (TlsOk.not_ok HTI.out (of_decide_eq_false htb)))
          have HTC := hid (fun d os => (show Calls Try.prog 127 #[.agg #[.int .i64 k0, .int .i64 k1, .int .i64 k2, .int .i64 k3, .slice ea m ec]] (grow (redrawn W5 d) os) fun r w' => r = .returned (.bool false) ∧ Below (grow (redrawn W5 d) os).heap.size (grow (redrawn W5 d) os) w' from htb ▸ xtile_any ⟨k0, k1, k2, k3⟩ (.slice ea m ec) P (grow (redrawn W5 d) os) (HPV.out.still (below_regrown W5 d os)) HPM.out))
          clear htb
          go_wp2_with fail
          refine wp_region_quiet_below (by kernel_rfl) (by kernel_rfl) ?_
          repeat (first | go_big_quiet_step ((first | (go_at_call 126; with_reducible exact Calls.regrown_of (HOC.out _)) | (go_at_call 127; with_reducible exact Calls.regrown_of (HTC.out _ _)))) | quiet_step ((first | (go_at_call 126; with_reducible exact Calls.regrown_of (HOC.out _)) | (go_at_call 127; with_reducible exact Calls.regrown_of (HTC.out _ _)))))
          refine wpQuiet_nil ?_
          intro _ hw'
          obtain ⟨⟨dqV, osV⟩, hw2⟩ := hw'
          subst hw2
          have HQV := hid (below_regrown W5 dqV osV)
          generalize Sort.grow (redrawn W5 dqV) osV = V at HQV ⊢
          have hsV := HQV.out.size
          clear T0 T1 T2 T3 T4
          go_wp2_with fail
          go_ret
          exact ⟨by rw [HF.out]; rfl, HBX.out.trans (HQV.out.mono HBX.out.size)⟩
        · have HTOK := hid (of_decide_eq_true htb)
          have HTC := hid (fun d os => (show Calls Try.prog 127 #[.agg #[.int .i64 k0, .int .i64 k1, .int .i64 k2, .int .i64 k3, .slice ea m ec]] (grow (redrawn W5 d) os) fun r w' => r = .returned (.bool true) ∧ Below (grow (redrawn W5 d) os).heap.size (grow (redrawn W5 d) os) w' from htb ▸ xtile_any ⟨k0, k1, k2, k3⟩ (.slice ea m ec) P (grow (redrawn W5 d) os) (HPV.out.still (below_regrown W5 d os)) HPM.out))
          clear htb
          have HLT := hid (fun (a : Tl) (h : 0 < i) (_ : (E.map Te.tl)[i - 1]? = some a) => show a.key.lt ⟨k0, k1, k2, k3⟩ from absurd h dg2)
          go_wp2_with fail
          refine wp_region_quiet_below (by kernel_rfl) (by kernel_rfl) ?_
          repeat (first | go_big_quiet_step ((first | (go_at_call 126; with_reducible exact Calls.regrown_of (HOC.out _)) | (go_at_call 127; with_reducible exact Calls.regrown_of (HTC.out _ _)))) | quiet_step ((first | (go_at_call 126; with_reducible exact Calls.regrown_of (HOC.out _)) | (go_at_call 127; with_reducible exact Calls.regrown_of (HTC.out _ _)))))
          refine wpQuiet_nil ?_
          intro _ hw'
          obtain ⟨⟨dqV, osV⟩, hw2⟩ := hw'
          subst hw2
          have HQV := hid (below_regrown W5 dqV osV)
          generalize Sort.grow (redrawn W5 dqV) osV = V at HQV ⊢
          have hsV := HQV.out.size
          have HTV := hid (heap_still HQV.out HT5.out)
          have HMV := hid (HM5.out.grow HQV.out)
          have HBV := hid (HBX.out.trans (HQV.out.mono HBX.out.size))
          have hgwV : w.heap.size < V.heap.size := by omega
          clear T0 T1 T2 T3 T4
          have t4 : V.cell? ⟨g, 4, none⟩ = some (.slice ea m ec) := (cell_row (j := 4) HTV.out).trans rfl
          obtain ⟨pb, po, rfl, hpb, hpr⟩ := HPD.out.resolve_left HTOK.out.ne
          have HPR := hid hpr
          have HPB := hid hpb
          have hm1k : m ≤ 1024 := by rw [HMP.out]; exact (goodL_facts HTOK.out.good).2.2
          clear hpr hpb
          go_wp2_with fail
          clear t4
          go_loopw [38] (fun jv W => ∃ j : Nat, j ≤ m ∧ jv = .int .i64 (j : Int) ∧ (∀ q ∈ P.take j, q.id ∉ idsOf ((E.map Te.tl).take i)) ∧ MapAt Try.prog W 3 w.heap.size (1024 * i + j) (seenI (idsOf ((E.map Te.tl).take i) ++ (P.take j).map Pt.id)) ∧ Below w.heap.size w W ∧ w.heap.size < W.heap.size) (fun jv _ => m - (intOf jv).toNat)
          case atStart => exact ⟨0, by omega, rfl, fun q hq => by simp at hq, by rw [List.take_zero, List.map_nil, List.append_nil]; exact HMV.out, HBV.out, hgwV⟩
          case round =>
            obtain ⟨j, hj, rfl, hnew, hmap, hB, hgw2⟩ := hrel
            have HNEW := hid hnew
            have HM6 := hid hmap
            have HB6 := hid hB
            have hz6 := hB.size
            clear hnew hmap hB
            by_cases hjm : j < m
            · have d2 : decide ((j : Int) < (m : Int)) = true := decide_eq_true (by omega)
              obtain ⟨p, hp⟩ : ∃ p, P[j]? = some p := ⟨_, List.getElem?_eq_getElem (by rw [← HMP.out]; exact hjm)⟩
              have hcs : ∀ q, q < 9 → wr.cell? ⟨pb, po + j * 9 + q, none⟩ = some (.int .i64 (p.f q)) := fun q hq => by
                rw [HB6.out.cell HPB.out, HPR.out j p.row (by rw [List.getElem?_map, hp]; rfl) q hq, Pt.row_at p q hq]
              have HSEEN := hid (seen_at (ids := idsOf ((E.map Te.tl).take i)) HTOK.out hp)
              have HPI := hid hp
              have HFI := hid ((goodL_facts HTOK.out.good).2.1 p (List.mem_of_getElem? hp)).1
              clear hp
              obtain ⟨p0, p1, p2, p3, p4, p5, p6, p7, p8⟩ := p
              have HKEY := hid (keyOf_int_mk (P := Try.prog) Try.underlying3 (show (Lit.int .i64 p0).wf = true from WalkArith.wf_i64 (by have := HFI.out; simp only at this; omega)))
              have a0 : wr.cell? ⟨pb, po + j * 9, none⟩ = some (.int .i64 p0) := hcs 0 (by decide)
              have a1 : wr.cell? ⟨pb, po + j * 9 + 1, none⟩ = some (.int .i64 p1) := hcs 1 (by decide)
              have a2 : wr.cell? ⟨pb, po + j * 9 + 2, none⟩ = some (.int .i64 p2) := hcs 2 (by decide)
              have a3 : wr.cell? ⟨pb, po + j * 9 + 3, none⟩ = some (.int .i64 p3) := hcs 3 (by decide)
              have a4 : wr.cell? ⟨pb, po + j * 9 + 4, none⟩ = some (.int .i64 p4) := hcs 4 (by decide)
              have a5 : wr.cell? ⟨pb, po + j * 9 + 5, none⟩ = some (.int .i64 p5) := hcs 5 (by decide)
              have a6 : wr.cell? ⟨pb, po + j * 9 + 6, none⟩ = some (.int .i64 p6) := hcs 6 (by decide)
              have a7 : wr.cell? ⟨pb, po + j * 9 + 7, none⟩ = some (.int .i64 p7) := hcs 7 (by decide)
              have a8 : wr.cell? ⟨pb, po + j * 9 + 8, none⟩ = some (.int .i64 p8) := hcs 8 (by decide)
              clear hcs
              go_upto_region 10 with fail
              refine gen_world (fun W7 hW7 => ?_)
              have HP7 := hid (show W7.heap[wr.heap.size]? = some (.cells #[.int .i64 p0, .int .i64 p1, .int .i64 p2, .int .i64 p3, .int .i64 p4, .int .i64 p5, .int .i64 p6, .int .i64 p7, .int .i64 p8] 78) by rw [hW7]; exact heap_alloc_at _ _ _ rfl)
              have HB7 := hid (show Below w.heap.size w W7 by rw [hW7]; exact HB6.out.alloc hz6 _)
              have hgw7 : w.heap.size < W7.heap.size := by rw [hW7]; simp; omega
              have HM7 := hid (show MapAt Try.prog W7 3 w.heap.size (1024 * i + j) (seenI (idsOf ((E.map Te.tl).take i) ++ (P.take j).map Pt.id)) by rw [hW7]; exact HM6.out.grow ((Below.refl _ _).alloc (Nat.le_refl _) _))
              clear hW7 a0 a1 a2 a3 a4 a5 a6 a7 a8 HM6
              have c0 : W7.cell? ⟨wr.heap.size, 0, none⟩ = some (.int .i64 p0) := (cell_row (j := 0) HP7.out).trans rfl
              have hlook := HM7.out.look law3 Try.underlying99 (zero4 W7) HKEY.out
              rw [seenI_look, HSEEN.out] at hlook
              cases hq : (idsOf ((E.map Te.tl).take i)).any (fun z => z == p0)
              · rw [hq] at hlook
                have HNI := hid (fun h => absurd (any_mem.2 h) (by rw [hq]; simp) : ¬ p0 ∈ idsOf ((E.map Te.tl).take i))
                clear hq
                have hml : 1024 * i + j < maxLen := by unfold maxLen; omega
                go_wp2_with (at_mapUpdate; refine wpList_put rfl (.tmp 46) (.tmp 48) (.const (.bool true)) 99 rfl law3 Try.underlying99 rfl HM7.out hml (.int .i64 p0) (.bool true) (.int .i64 p0) rfl rfl HKEY.out ?_; intro w8 hm8 hg8)
                rw [seenI_put, List.append_assoc] at hm8
                have hs8 := hg8.size
                have HTK := hid (take_next HPI.out)
                refine ⟨⟨j + 1, by omega, by go_num, ?_, ?_, HB7.out.grown hg8 (by omega) (fun j hj => by injection hj with hj; omega), by omega⟩, by simp [intOf]; omega⟩
                · rw [HTK.out]
                  intro q hq
                  rcases List.mem_append.1 hq with g1 | g1
                  · exact HNEW.out q g1
                  · obtain rfl := List.mem_singleton.1 g1
                    exact HNI.out
                · rw [HTK.out, List.map_append]
                  exact hm8
              · rw [hq] at hlook
                have HF := hid (HNO.out (not_apart_ids HTI.out (List.mem_of_getElem? HPI.out) (any_mem.1 hq)))
                clear hq
                go_wp2_with fail
                go_ret
                exact ⟨by rw [HF.out]; rfl, HB7.out⟩
            · obtain rfl : j = m := by omega
              have d2 : decide ((j : Int) < (j : Int)) = false := by simp
              have HTKE := hid (show P.take j = P by rw [HMP.out]; exact List.take_length)
              have HNX := hid (TlsOk.next HOK.out HTI.out HTOK.out HLT.out (apart_of_ids (by have := HNEW.out; rw [HTKE.out] at this; exact this)))
              have HM9 := hid (show MapAt Try.prog wr 3 w.heap.size (1024 * (i + 1)) (seenI (idsOf ((E.map Te.tl).take (i + 1)))) by
                rw [idsOf_next HTI.out]
                have := HM6.out
                rw [HTKE.out] at this
                exact this.mono (by omega))
              go_wp2_with fail
              exact ⟨⟨i + 1, by omega, by go_num, HNX.out, HM9.out, HB6.out, hgw2⟩, by simp [intOf]; omega⟩
      · obtain ⟨e, he⟩ : ∃ e, E[i - 1]? = some e := ⟨_, List.getElem?_eq_getElem (by rw [← HN.out]; omega)⟩
        have HEI := hid (show (E.map Te.tl)[i - 1]? = some e.tl by rw [List.getElem?_map, he]; rfl)
        have hes : ∀ j, j < 5 → W5.cell? ⟨b, off + (i - 1) * 5 + j, none⟩ = e.row[j]? := fun j hj => by
          rw [HBX.out.cell HBW.out, HRW.out (i - 1) e.row (by rw [List.getElem?_map, he]; rfl) j hj]
        have HAOK := hid (HOK.out.all e.tl (by rw [List.mem_iff_getElem?]; exact ⟨i - 1, by rw [List.getElem?_take_of_lt (by omega)]; exact HEI.out⟩))
        clear he
        obtain ⟨⟨e0, e1, e2, e3⟩, qv, qp⟩ := e
        simp only [Te.row, Ky.row] at hes
        have b0 := fun d os => cell_regrown (show W5.cell? ⟨b, off + (i - 1) * 5, none⟩ = some (.int .i64 e0) from hes 0 (by decide)) d os
        have b1 := fun d os => cell_regrown (show W5.cell? ⟨b, off + (i - 1) * 5 + 1, none⟩ = some (.int .i64 e1) from hes 1 (by decide)) d os
        have b2 := fun d os => cell_regrown (show W5.cell? ⟨b, off + (i - 1) * 5 + 2, none⟩ = some (.int .i64 e2) from hes 2 (by decide)) d os
        have b3 := fun d os => cell_regrown (show W5.cell? ⟨b, off + (i - 1) * 5 + 3, none⟩ = some (.int .i64 e3) from hes 3 (by decide)) d os
        clear hes
        have dg : decide ((0 : Int) < (i : Int)) = true := decide_eq_true (by omega)
        have dg2 : 0 < i := by omega
        have hcw := fun h : TlOk ⟨⟨k0, k1, k2, k3⟩, P⟩ => cmpW_small HAOK.out.small h.small
        obtain ⟨cw, hcwe⟩ : ∃ cw, cw = cmpW ⟨e0, e1, e2, e3⟩ ⟨k0, k1, k2, k3⟩ := ⟨_, rfl⟩
        have HOC := hid (show ∀ W, Calls Try.prog 126 #[.agg #[.int .i64 e0, .int .i64 e1, .int .i64 e2, .int .i64 e3], .agg #[.int .i64 k0, .int .i64 k1, .int .i64 k2, .int .i64 k3]] W fun r w' => r = .returned (.int .i64 cw) ∧ Below W.heap.size W w' from fun W => by
          rw [hcwe]
          exact (order_raw ⟨e0, e1, e2, e3⟩ ⟨k0, k1, k2, k3⟩ W).mono (fun r w' h => ⟨h.1, grew_below h.2⟩))
        have HCW := hid (fun h : TlOk ⟨⟨k0, k1, k2, k3⟩, P⟩ => hcwe.trans (hcw h))
        clear hcwe hcw
        by_cases hge : 0 ≤ cw
        · have HF := hid (HNO.out (fun h => by
            have h1 := h.all _ (List.mem_of_getElem? HTI.out)
            have h2 := HCW.out h1
            have h3 := pw_lt (show i - 1 < i by omega) HEI.out HTI.out h.order
            have h4 : cw < 0 := by rw [h2]; exact (cmpK_lt _ _).2 h3
            omega))
          have dl : decide (0 ≤ cw) = true := decide_eq_true hge
          clear HCW
          go_wp2_with fail
          refine wp_region_quiet_below (by kernel_rfl) (by kernel_rfl) ?_
          repeat (first | go_big_quiet_step ((go_at_call 126; with_reducible exact Calls.regrown_of (HOC.out _))) | quiet_step ((go_at_call 126; with_reducible exact Calls.regrown_of (HOC.out _))))
          refine wpQuiet_nil ?_
          intro _ hw'
          obtain ⟨⟨dqV, osV⟩, hw2⟩ := hw'
          subst hw2
          have HQV := hid (below_regrown W5 dqV osV)
          generalize Sort.grow (redrawn W5 dqV) osV = V at HQV ⊢
          have hsV := HQV.out.size
          clear T0 T1 T2 T3 T4
          go_wp2_with fail
          go_ret
          exact ⟨by rw [HF.out]; rfl, HBX.out.trans (HQV.out.mono HBX.out.size)⟩
        · have dl : decide (0 ≤ cw) = false := decide_eq_false hge
          have HLTE := hid (fun h : TlOk ⟨⟨k0, k1, k2, k3⟩, P⟩ => show (⟨e0, e1, e2, e3⟩ : Ky).lt ⟨k0, k1, k2, k3⟩ from (cmpK_lt _ _).1 (show cmpK ⟨e0, e1, e2, e3⟩ ⟨k0, k1, k2, k3⟩ < 0 by have h2 : cw = cmpK ⟨e0, e1, e2, e3⟩ ⟨k0, k1, k2, k3⟩ := HCW.out h; omega))
          clear HCW hge
          cases htb : decide (TlOk ⟨⟨k0, k1, k2, k3⟩, P⟩)
          · have HF := hid (HNO.out (TlsOk.not_ok HTI.out (of_decide_eq_false htb)))
            have HTC := hid (fun d os => (show Calls Try.prog 127 #[.agg #[.int .i64 k0, .int .i64 k1, .int .i64 k2, .int .i64 k3, .slice ea m ec]] (grow (redrawn W5 d) os) fun r w' => r = .returned (.bool false) ∧ Below (grow (redrawn W5 d) os).heap.size (grow (redrawn W5 d) os) w' from htb ▸ xtile_any ⟨k0, k1, k2, k3⟩ (.slice ea m ec) P (grow (redrawn W5 d) os) (HPV.out.still (below_regrown W5 d os)) HPM.out))
            clear htb
            go_wp2_with fail
            refine wp_region_quiet_below (by kernel_rfl) (by kernel_rfl) ?_
            repeat (first | go_big_quiet_step ((first | (go_at_call 126; with_reducible exact Calls.regrown_of (HOC.out _)) | (go_at_call 127; with_reducible exact Calls.regrown_of (HTC.out _ _)))) | quiet_step ((first | (go_at_call 126; with_reducible exact Calls.regrown_of (HOC.out _)) | (go_at_call 127; with_reducible exact Calls.regrown_of (HTC.out _ _)))))
            refine wpQuiet_nil ?_
            intro _ hw'
            obtain ⟨⟨dqV, osV⟩, hw2⟩ := hw'
            subst hw2
            have HQV := hid (below_regrown W5 dqV osV)
            generalize Sort.grow (redrawn W5 dqV) osV = V at HQV ⊢
            have hsV := HQV.out.size
            clear T0 T1 T2 T3 T4
            go_wp2_with fail
            go_ret
            exact ⟨by rw [HF.out]; rfl, HBX.out.trans (HQV.out.mono HBX.out.size)⟩
          · have HTOK := hid (of_decide_eq_true htb)
            have HTC := hid (fun d os => (show Calls Try.prog 127 #[.agg #[.int .i64 k0, .int .i64 k1, .int .i64 k2, .int .i64 k3, .slice ea m ec]] (grow (redrawn W5 d) os) fun r w' => r = .returned (.bool true) ∧ Below (grow (redrawn W5 d) os).heap.size (grow (redrawn W5 d) os) w' from htb ▸ xtile_any ⟨k0, k1, k2, k3⟩ (.slice ea m ec) P (grow (redrawn W5 d) os) (HPV.out.still (below_regrown W5 d os)) HPM.out))
            clear htb
            have HLT := hid (fun (a : Tl) (_ : 0 < i) (ha : (E.map Te.tl)[i - 1]? = some a) => show a.key.lt ⟨k0, k1, k2, k3⟩ from (Option.some.inj (HEI.out.symm.trans ha)) ▸ HLTE.out HTOK.out)
            go_wp2_with fail
            refine wp_region_quiet_below (by kernel_rfl) (by kernel_rfl) ?_
            repeat (first | go_big_quiet_step ((first | (go_at_call 126; with_reducible exact Calls.regrown_of (HOC.out _)) | (go_at_call 127; with_reducible exact Calls.regrown_of (HTC.out _ _)))) | quiet_step ((first | (go_at_call 126; with_reducible exact Calls.regrown_of (HOC.out _)) | (go_at_call 127; with_reducible exact Calls.regrown_of (HTC.out _ _)))))
            refine wpQuiet_nil ?_
            intro _ hw'
            obtain ⟨⟨dqV, osV⟩, hw2⟩ := hw'
            subst hw2
            have HQV := hid (below_regrown W5 dqV osV)
            generalize Sort.grow (redrawn W5 dqV) osV = V at HQV ⊢
            have hsV := HQV.out.size
            have HTV := hid (heap_still HQV.out HT5.out)
            have HMV := hid (HM5.out.grow HQV.out)
            have HBV := hid (HBX.out.trans (HQV.out.mono HBX.out.size))
            have hgwV : w.heap.size < V.heap.size := by omega
            clear T0 T1 T2 T3 T4
            have t4 : V.cell? ⟨g, 4, none⟩ = some (.slice ea m ec) := (cell_row (j := 4) HTV.out).trans rfl
            obtain ⟨pb, po, rfl, hpb, hpr⟩ := HPD.out.resolve_left HTOK.out.ne
            have HPR := hid hpr
            have HPB := hid hpb
            have hm1k : m ≤ 1024 := by rw [HMP.out]; exact (goodL_facts HTOK.out.good).2.2
            clear hpr hpb
            go_wp2_with fail
            clear t4
            go_loopw [38] (fun jv W => ∃ j : Nat, j ≤ m ∧ jv = .int .i64 (j : Int) ∧ (∀ q ∈ P.take j, q.id ∉ idsOf ((E.map Te.tl).take i)) ∧ MapAt Try.prog W 3 w.heap.size (1024 * i + j) (seenI (idsOf ((E.map Te.tl).take i) ++ (P.take j).map Pt.id)) ∧ Below w.heap.size w W ∧ w.heap.size < W.heap.size) (fun jv _ => m - (intOf jv).toNat)
            case atStart => exact ⟨0, by omega, rfl, fun q hq => by simp at hq, by rw [List.take_zero, List.map_nil, List.append_nil]; exact HMV.out, HBV.out, hgwV⟩
            case round =>
              obtain ⟨j, hj, rfl, hnew, hmap, hB, hgw2⟩ := hrel
              have HNEW := hid hnew
              have HM6 := hid hmap
              have HB6 := hid hB
              have hz6 := hB.size
              clear hnew hmap hB
              by_cases hjm : j < m
              · have d2 : decide ((j : Int) < (m : Int)) = true := decide_eq_true (by omega)
                obtain ⟨p, hp⟩ : ∃ p, P[j]? = some p := ⟨_, List.getElem?_eq_getElem (by rw [← HMP.out]; exact hjm)⟩
                have hcs : ∀ q, q < 9 → wr.cell? ⟨pb, po + j * 9 + q, none⟩ = some (.int .i64 (p.f q)) := fun q hq => by
                  rw [HB6.out.cell HPB.out, HPR.out j p.row (by rw [List.getElem?_map, hp]; rfl) q hq, Pt.row_at p q hq]
                have HSEEN := hid (seen_at (ids := idsOf ((E.map Te.tl).take i)) HTOK.out hp)
                have HPI := hid hp
                have HFI := hid ((goodL_facts HTOK.out.good).2.1 p (List.mem_of_getElem? hp)).1
                clear hp
                obtain ⟨p0, p1, p2, p3, p4, p5, p6, p7, p8⟩ := p
                have HKEY := hid (keyOf_int_mk (P := Try.prog) Try.underlying3 (show (Lit.int .i64 p0).wf = true from WalkArith.wf_i64 (by have := HFI.out; simp only at this; omega)))
                have a0 : wr.cell? ⟨pb, po + j * 9, none⟩ = some (.int .i64 p0) := hcs 0 (by decide)
                have a1 : wr.cell? ⟨pb, po + j * 9 + 1, none⟩ = some (.int .i64 p1) := hcs 1 (by decide)
                have a2 : wr.cell? ⟨pb, po + j * 9 + 2, none⟩ = some (.int .i64 p2) := hcs 2 (by decide)
                have a3 : wr.cell? ⟨pb, po + j * 9 + 3, none⟩ = some (.int .i64 p3) := hcs 3 (by decide)
                have a4 : wr.cell? ⟨pb, po + j * 9 + 4, none⟩ = some (.int .i64 p4) := hcs 4 (by decide)
                have a5 : wr.cell? ⟨pb, po + j * 9 + 5, none⟩ = some (.int .i64 p5) := hcs 5 (by decide)
                have a6 : wr.cell? ⟨pb, po + j * 9 + 6, none⟩ = some (.int .i64 p6) := hcs 6 (by decide)
                have a7 : wr.cell? ⟨pb, po + j * 9 + 7, none⟩ = some (.int .i64 p7) := hcs 7 (by decide)
                have a8 : wr.cell? ⟨pb, po + j * 9 + 8, none⟩ = some (.int .i64 p8) := hcs 8 (by decide)
                clear hcs
                go_upto_region 10 with fail
                refine gen_world (fun W7 hW7 => ?_)
                have HP7 := hid (show W7.heap[wr.heap.size]? = some (.cells #[.int .i64 p0, .int .i64 p1, .int .i64 p2, .int .i64 p3, .int .i64 p4, .int .i64 p5, .int .i64 p6, .int .i64 p7, .int .i64 p8] 78) by rw [hW7]; exact heap_alloc_at _ _ _ rfl)
                have HB7 := hid (show Below w.heap.size w W7 by rw [hW7]; exact HB6.out.alloc hz6 _)
                have hgw7 : w.heap.size < W7.heap.size := by rw [hW7]; simp; omega
                have HM7 := hid (show MapAt Try.prog W7 3 w.heap.size (1024 * i + j) (seenI (idsOf ((E.map Te.tl).take i) ++ (P.take j).map Pt.id)) by rw [hW7]; exact HM6.out.grow ((Below.refl _ _).alloc (Nat.le_refl _) _))
                clear hW7 a0 a1 a2 a3 a4 a5 a6 a7 a8 HM6
                have c0 : W7.cell? ⟨wr.heap.size, 0, none⟩ = some (.int .i64 p0) := (cell_row (j := 0) HP7.out).trans rfl
                have hlook := HM7.out.look law3 Try.underlying99 (zero4 W7) HKEY.out
                rw [seenI_look, HSEEN.out] at hlook
                cases hq : (idsOf ((E.map Te.tl).take i)).any (fun z => z == p0)
                · rw [hq] at hlook
                  have HNI := hid (fun h => absurd (any_mem.2 h) (by rw [hq]; simp) : ¬ p0 ∈ idsOf ((E.map Te.tl).take i))
                  clear hq
                  have hml : 1024 * i + j < maxLen := by unfold maxLen; omega
                  go_wp2_with (at_mapUpdate; refine wpList_put rfl (.tmp 46) (.tmp 48) (.const (.bool true)) 99 rfl law3 Try.underlying99 rfl HM7.out hml (.int .i64 p0) (.bool true) (.int .i64 p0) rfl rfl HKEY.out ?_; intro w8 hm8 hg8)
                  rw [seenI_put, List.append_assoc] at hm8
                  have hs8 := hg8.size
                  have HTK := hid (take_next HPI.out)
                  refine ⟨⟨j + 1, by omega, by go_num, ?_, ?_, HB7.out.grown hg8 (by omega) (fun j hj => by injection hj with hj; omega), by omega⟩, by simp [intOf]; omega⟩
                  · rw [HTK.out]
                    intro q hq
                    rcases List.mem_append.1 hq with g1 | g1
                    · exact HNEW.out q g1
                    · obtain rfl := List.mem_singleton.1 g1
                      exact HNI.out
                  · rw [HTK.out, List.map_append]
                    exact hm8
                · rw [hq] at hlook
                  have HF := hid (HNO.out (not_apart_ids HTI.out (List.mem_of_getElem? HPI.out) (any_mem.1 hq)))
                  clear hq
                  go_wp2_with fail
                  go_ret
                  exact ⟨by rw [HF.out]; rfl, HB7.out⟩
              · obtain rfl : j = m := by omega
                have d2 : decide ((j : Int) < (j : Int)) = false := by simp
                have HTKE := hid (show P.take j = P by rw [HMP.out]; exact List.take_length)
                have HNX := hid (TlsOk.next HOK.out HTI.out HTOK.out HLT.out (apart_of_ids (by have := HNEW.out; rw [HTKE.out] at this; exact this)))
                have HM9 := hid (show MapAt Try.prog wr 3 w.heap.size (1024 * (i + 1)) (seenI (idsOf ((E.map Te.tl).take (i + 1)))) by
                  rw [idsOf_next HTI.out]
                  have := HM6.out
                  rw [HTKE.out] at this
                  exact this.mono (by omega))
                go_wp2_with fail
                exact ⟨⟨i + 1, by omega, by go_num, HNX.out, HM9.out, HB6.out, hgw2⟩, by simp [intOf]; omega⟩
    · obtain rfl : i = n := by omega
      have d1 : decide ((i : Int) < (i : Int)) = false := by simp
      have HF := hid (HYES.out (by have := HOK.out; rwa [HN.out, List.take_of_length_le (by rw [List.length_map]; exact Nat.le_refl _)] at this))
      go_wp2_with fail
      go_ret
      exact ⟨by rw [HF.out]; rfl, HB4.out⟩
end Go.Proofs.Ytpablkmdpoombaa

/- RTls -/
namespace Go.Proofs.Ytpablkmdpoombaa
open Go.ChangeShapes Go.WideShapes Go.RowKit Go.Maps Go.Sort

/-- the index of the first point with an Id, or -1 -/
def idxL (P : List Pt) (id : Int) : Int := match P.findIdx? (fun p => p.id == id) with | some i => (i : Int) | none => -1
theorem idxL_hit {P : List Pt} {id : Int} {i : Nat} {p : Pt} (hp : P[i]? = some p) (he : p.id = id) (hn : ∀ q ∈ P.take i, q.id ≠ id) : idxL P id = i := by
  obtain ⟨hi, rfl⟩ := List.getElem?_eq_some_iff.1 hp
  have : P.findIdx? (fun p => p.id == id) = some i := by
    rw [List.findIdx?_eq_some_iff_getElem]
    refine ⟨hi, beq_iff_eq.2 he, fun j hj => ?_⟩
    rw [Bool.not_eq_true, beq_eq_false_iff_ne]
    exact hn _ (by rw [List.mem_iff_getElem?]; exact ⟨j, by rw [List.getElem?_take_of_lt hj]; exact List.getElem?_eq_getElem (by omega)⟩)
  unfold idxL
  rw [this]
theorem idxL_none {P : List Pt} {id : Int} (hn : ∀ q ∈ P, q.id ≠ id) : idxL P id = -1 := by
  have : P.findIdx? (fun p => p.id == id) = none := by
    rw [List.findIdx?_eq_none_iff]
    exact fun x hx => beq_eq_false_iff_ne.2 (hn x hx)
  unfold idxL
  rw [this]
theorem idxL_neg {P : List Pt} {id : Int} : idxL P id < 0 ↔ ∀ q ∈ P, q.id ≠ id := by
  constructor
  · intro h q hq e
    unfold idxL at h
    cases hf : P.findIdx? (fun p => p.id == id) with
    | some i => rw [hf] at h; simp at h; omega
    | none =>
      rw [List.findIdx?_eq_none_iff] at hf
      exact absurd e (by have := hf q hq; simpa using this)
  · intro h
    rw [idxL_none h]
    decide
set_option maxRecDepth 100000 in
set_option maxHeartbeats 1600000 in
theorem rindex_any (v : Value) (P : List Pt) (id : Int) (w : World) (hP : PtsV w v P) (hn : P.length ≤ maxLen) :
    Calls Try.prog 70 #[v, .int .i64 id] w fun r w' => r = .returned (.int .i64 (idxL P id)) ∧ Below w.heap.size w w' := by
  obtain ⟨z, hz⟩ : ∃ z, z = idxL P id := ⟨_, rfl⟩
  rw [← hz]
  have HZ := hid hz
  obtain ⟨a, cap, rfl, hpd⟩ := hP
  obtain ⟨n, hnl⟩ : ∃ n, n = P.length := ⟨_, rfl⟩
  rw [← hnl] at hn ⊢
  have hn63 : n ≤ 9223372036854775807 := by unfold maxLen at hn; omega
  have HN := hid hnl
  have HPD := hid hpd
  clear hz hn hnl hpd
  go_enter Try.func70, Try.ntmps70
  go_wp2_with fail
  go_loopw [8] (fun iv W => ∃ i : Nat, i ≤ n ∧ iv = .int .i64 (i : Int) ∧ (∀ q ∈ P.take i, q.id ≠ id) ∧ Below w.heap.size w W) (fun iv _ => n - (intOf iv).toNat)
  case atStart => exact ⟨0, by omega, rfl, fun q hq => by simp at hq, Below.refl _ _⟩
  case round =>
    obtain ⟨i, hi, rfl, hne, hB⟩ := hrel
    have HNE := hid hne
    have HB := hid hB
    clear hne hB
    by_cases hlt : i < n
    · have d1 : decide ((i : Int) < (n : Int)) = true := decide_eq_true (by omega)
      obtain ⟨p, hp⟩ : ∃ p, P[i]? = some p := ⟨_, List.getElem?_eq_getElem (by rw [← HN.out]; exact hlt)⟩
      have hPn : P ≠ [] := fun h => by rw [h] at hp; simp at hp
      obtain ⟨b, off, rfl, hbw, hrows⟩ := HPD.out.resolve_left hPn
      have c0 : wr.cell? ⟨b, off + i * 9, none⟩ = some (.int .i64 p.id) := by
        rw [HB.out.cell (p := ⟨b, off + i * 9, none⟩) hbw]
        exact (hrows i p.row (by rw [List.getElem?_map, hp]; rfl) 0 (by decide)).trans rfl
      have HPI := hid hp
      clear hp hPn hbw hrows
      by_cases he : p.id = id
      · have HF := hid (show z = (i : Int) by rw [HZ.out]; exact idxL_hit HPI.out he HNE.out)
        have db : (p.id == id) = true := beq_iff_eq.2 he
        clear he
        go_wp2_with fail
        go_ret
        exact ⟨by rw [HF.out]; rfl, HB.out⟩
      · have db : (p.id == id) = false := beq_eq_false_iff_ne.2 he
        have HT := hid (take_next HPI.out)
        have HX := hid he
        clear he
        go_wp2_with fail
        refine ⟨⟨i + 1, by omega, by go_num, ?_, HB.out⟩, by simp [intOf]; omega⟩
        rw [HT.out]
        intro q hq
        rcases List.mem_append.1 hq with g | g
        · exact HNE.out q g
        · obtain rfl := List.mem_singleton.1 g; exact HX.out
    · obtain rfl : i = n := by omega
      have d1 : decide ((i : Int) < (i : Int)) = false := by simp
      have HF := hid (show z = -1 by rw [HZ.out]; exact idxL_none (by have := HNE.out; rwa [HN.out, List.take_length] at this))
      go_wp2_with fail
      go_ret
      exact ⟨by rw [HF.out]; rfl, HB.out⟩
set_option maxRecDepth 100000 in
set_option maxHeartbeats 6400000 in
theorem rtls_any (v : Value) (E : List Te) (w : World) (hT : TilesV w v E) (hl : E.length ≤ 4398046511104) (hp : ∀ e ∈ E, e.pts.length ≤ maxLen) :
    Calls Try.prog 102 #[v] w fun r w' => r = .returned (.bool (decide (TlsOk (E.map Te.tl)))) ∧ Below w.heap.size w w' := by
  obtain ⟨gv, hgv⟩ : ∃ gv, gv = decide (TlsOk (E.map Te.tl)) := ⟨_, rfl⟩
  rw [← hgv]
  have HNO := hid (fun h : ¬ TlsOk (E.map Te.tl) => show gv = false by rw [hgv]; exact decide_eq_false h)
  have HYES := hid (fun h : TlsOk (E.map Te.tl) => show gv = true by rw [hgv]; exact decide_eq_true h)
  clear hgv
  obtain ⟨⟨a, cap, rfl, hrow⟩, hpv⟩ := hT
  obtain ⟨n, hnl⟩ : ∃ n, n = E.length := ⟨_, rfl⟩
  rw [← hnl] at hl ⊢
  have HN := hid hnl
  have HROW := hid hrow
  have HPVS := hid hpv
  have HPL := hid hp
  clear hnl hrow hpv hp
  go_enter Try.func102, Try.ntmps102
  go_wp2_with fail
  go_loopw [9] (fun iv W => ∃ i : Nat, i ≤ n ∧ iv = .int .i64 (i : Int) ∧ TlsOk ((E.map Te.tl).take i) ∧ Below w.heap.size w W) (fun iv _ => n - (intOf iv).toNat)
  case atStart => exact ⟨0, by omega, rfl, TlsOk.nil, Below.refl _ _⟩
  case round =>
    obtain ⟨i, hi, rfl, hok, hB⟩ := hrel
    have HOK := hid hok
    have HB4 := hid hB
    have hz4 := hB.size
    clear hok hB
    by_cases hlt : i < n
    · have d1 : decide ((i : Int) < (n : Int)) = true := decide_eq_true (by omega)
      obtain ⟨e, he⟩ : ∃ e, E[i]? = some e := ⟨_, List.getElem?_eq_getElem (by rw [← HN.out]; exact hlt)⟩
      have HTI := hid (show (E.map Te.tl)[i]? = some e.tl by rw [List.getElem?_map, he]; rfl)
      have hEn : E ≠ [] := fun h => by rw [h] at he; simp at he
      obtain ⟨b, off, rfl, hbw, hrows⟩ := HROW.out.resolve_left hEn
      have HRW := hid hrows
      have HBW := hid hbw
      have hpe := HPVS.out e (List.mem_of_getElem? he)
      have HPM := hid (HPL.out e (List.mem_of_getElem? he))
      have hcs : ∀ j, j < 5 → wr.cell? ⟨b, off + i * 5 + j, none⟩ = e.row[j]? := fun j hj => by
        rw [HB4.out.cell hbw, hrows i e.row (by rw [List.getElem?_map, he]; rfl) j hj]
      clear he hEn hrows hbw
      obtain ⟨⟨k0, k1, k2, k3⟩, ev, P⟩ := e
      obtain ⟨ea, ec, hev, hpd⟩ := hpe
      obtain rfl : ev = .slice ea P.length ec := hev
      have HPV0 := hid (show PtsV w (.slice ea P.length ec) P from ⟨ea, ec, rfl, hpd⟩)
      have HPD := hid hpd
      have HPMM := hid (show P.length ≤ maxLen from HPM.out)
      clear hpd HPM
      obtain ⟨m, hm⟩ : ∃ m, m = P.length := ⟨_, rfl⟩
      simp only [Te.row, Ky.row, ← hm] at hcs
      simp only [← hm] at HPV0
      have HMP := hid hm
      have HPM := HPMM
      clear hm
      have T0 := fun d os => cell_regrown (show wr.cell? ⟨b, off + i * 5, none⟩ = some (.int .i64 k0) from hcs 0 (by decide)) d os
      have T1 := fun d os => cell_regrown (show wr.cell? ⟨b, off + i * 5 + 1, none⟩ = some (.int .i64 k1) from hcs 1 (by decide)) d os
      have T2 := fun d os => cell_regrown (show wr.cell? ⟨b, off + i * 5 + 2, none⟩ = some (.int .i64 k2) from hcs 2 (by decide)) d os
      have T3 := fun d os => cell_regrown (show wr.cell? ⟨b, off + i * 5 + 3, none⟩ = some (.int .i64 k3) from hcs 3 (by decide)) d os
      have T4 := fun d os => cell_regrown (show wr.cell? ⟨b, off + i * 5 + 4, none⟩ = some (.slice ea m ec) from hcs 4 (by decide)) d os
      have HC0 := hid (hcs 0 (by decide))
      have HC1 := hid (hcs 1 (by decide))
      have HC2 := hid (hcs 2 (by decide))
      have HC3 := hid (hcs 3 (by decide))
      have HV4 := hid (hcs 4 (by decide))
      clear hcs
      have HPV := hid (HPV0.out.still HB4.out)
      have HOC := hid (fun (W : World) => grew_below (Grew.refl W))
      cases htb : decide (TlOk ⟨⟨k0, k1, k2, k3⟩, P⟩)
      · have HF := hid (HNO.out (TlsOk.not_ok HTI.out (of_decide_eq_false htb)))
        have HTC := hid (fun d os => (show Calls Try.prog 129 #[.agg #[.int .i64 k0, .int .i64 k1, .int .i64 k2, .int .i64 k3, .slice ea m ec]] (grow (redrawn wr d) os) fun r w' => r = .returned (.bool false) ∧ Below (grow (redrawn wr d) os).heap.size (grow (redrawn wr d) os) w' from htb ▸ rtile_any ⟨k0, k1, k2, k3⟩ (.slice ea m ec) P (grow (redrawn wr d) os) (HPV.out.still (below_regrown wr d os)) HPM.out))
        clear htb
        go_wp2_with fail
        refine wp_region_quiet_below (by kernel_rfl) (by kernel_rfl) ?_
        repeat (first | go_big_quiet_step ((first | (go_at_call 130; with_reducible exact Calls.regrown_of (HOC.out _)) | (go_at_call 129; with_reducible exact Calls.regrown_of (HTC.out _ _)))) | quiet_step ((first | (go_at_call 130; with_reducible exact Calls.regrown_of (HOC.out _)) | (go_at_call 129; with_reducible exact Calls.regrown_of (HTC.out _ _)))))
        refine wpQuiet_nil ?_
        intro _ hw'
        obtain ⟨⟨dqV, osV⟩, hw2⟩ := hw'
        subst hw2
        have HQV := hid (below_regrown wr dqV osV)
        generalize Sort.grow (redrawn wr dqV) osV = V at HQV ⊢
        have hsV := HQV.out.size
        clear T0 T1 T2 T3 T4
        go_wp2_with fail
        go_ret
        exact ⟨by rw [HF.out]; rfl, HB4.out.trans (HQV.out.mono HB4.out.size)⟩
      · have HTOK := hid (of_decide_eq_true htb)
        have HTC := hid (fun d os => (show Calls Try.prog 129 #[.agg #[.int .i64 k0, .int .i64 k1, .int .i64 k2, .int .i64 k3, .slice ea m ec]] (grow (redrawn wr d) os) fun r w' => r = .returned (.bool true) ∧ Below (grow (redrawn wr d) os).heap.size (grow (redrawn wr d) os) w' from htb ▸ rtile_any ⟨k0, k1, k2, k3⟩ (.slice ea m ec) P (grow (redrawn wr d) os) (HPV.out.still (below_regrown wr d os)) HPM.out))
        clear htb HOC
        by_cases hi0 : i = 0
        · subst hi0
          have HLT := hid (fun (a : Tl) (h : 0 < 0) (_ : (E.map Te.tl)[0 - 1]? = some a) => show a.key.lt ⟨k0, k1, k2, k3⟩ from absurd h (by omega))
          have HNX := hid (TlsOk.next HOK.out HTI.out HTOK.out HLT.out (fun j a hj => absurd hj (by omega)))
          have HOC := hid (fun (W : World) => grew_below (Grew.refl W))
          have S0 := fun d os => cell_regrown (show wr.cell? ⟨b, off, none⟩ = some (.int .i64 k0) by have := HC0.out; rwa [Nat.zero_mul, Nat.add_zero] at this) d os
          have S1 := fun d os => cell_regrown (show wr.cell? ⟨b, off + 1, none⟩ = some (.int .i64 k1) by have := HC1.out; rwa [Nat.zero_mul, Nat.add_zero] at this) d os
          have S2 := fun d os => cell_regrown (show wr.cell? ⟨b, off + 2, none⟩ = some (.int .i64 k2) by have := HC2.out; rwa [Nat.zero_mul, Nat.add_zero] at this) d os
          have S3 := fun d os => cell_regrown (show wr.cell? ⟨b, off + 3, none⟩ = some (.int .i64 k3) by have := HC3.out; rwa [Nat.zero_mul, Nat.add_zero] at this) d os
          have S4 := fun d os => cell_regrown (show wr.cell? ⟨b, off + 4, none⟩ = some (.slice ea m ec) by have := HV4.out; rwa [Nat.zero_mul, Nat.add_zero] at this) d os
          clear T0 T1 T2 T3 T4
          go_wp2_with fail
          refine wp_region_quiet_below (by kernel_rfl) (by kernel_rfl) ?_
          repeat (first | go_big_quiet_step ((first | (go_at_call 130; with_reducible exact Calls.regrown_of (HOC.out _)) | (go_at_call 129; with_reducible exact Calls.regrown_of (HTC.out _ _)))) | quiet_step ((first | (go_at_call 130; with_reducible exact Calls.regrown_of (HOC.out _)) | (go_at_call 129; with_reducible exact Calls.regrown_of (HTC.out _ _)))))
          refine wpQuiet_nil ?_
          intro _ hw'
          obtain ⟨⟨dqV, osV⟩, hw2⟩ := hw'
          subst hw2
          have HQV := hid (below_regrown wr dqV osV)
          generalize Sort.grow (redrawn wr dqV) osV = V at HQV ⊢
          have hsV := HQV.out.size
          clear S0 S1 S2 S3 S4
          have HBV := hid (HB4.out.trans (HQV.out.mono hz4))
          go_wp2_with fail
          refine wp_loop_rounds 1 ?_
          rw [rounds_succ]
          go_wp2_with fail
          exact ⟨⟨1, by omega, by go_num, HNX.out, HBV.out⟩, by simp [intOf]; omega⟩
        · obtain ⟨e, he⟩ : ∃ e, E[i - 1]? = some e := ⟨_, List.getElem?_eq_getElem (by rw [← HN.out]; omega)⟩
          have HEI := hid (show (E.map Te.tl)[i - 1]? = some e.tl by rw [List.getElem?_map, he]; rfl)
          have hes : ∀ j, j < 5 → wr.cell? ⟨b, off + (i - 1) * 5 + j, none⟩ = e.row[j]? := fun j hj => by
            rw [HB4.out.cell HBW.out, HRW.out (i - 1) e.row (by rw [List.getElem?_map, he]; rfl) j hj]
          clear he
          obtain ⟨⟨e0, e1, e2, e3⟩, qv, qp⟩ := e
          simp only [Te.row, Ky.row] at hes
          have b0 := fun d os => cell_regrown (show wr.cell? ⟨b, off + (i - 1) * 5, none⟩ = some (.int .i64 e0) from hes 0 (by decide)) d os
          have b1 := fun d os => cell_regrown (show wr.cell? ⟨b, off + (i - 1) * 5 + 1, none⟩ = some (.int .i64 e1) from hes 1 (by decide)) d os
          have b2 := fun d os => cell_regrown (show wr.cell? ⟨b, off + (i - 1) * 5 + 2, none⟩ = some (.int .i64 e2) from hes 2 (by decide)) d os
          have b3 := fun d os => cell_regrown (show wr.cell? ⟨b, off + (i - 1) * 5 + 3, none⟩ = some (.int .i64 e3) from hes 3 (by decide)) d os
          clear hes
          have dg : decide ((0 : Int) < (i : Int)) = true := decide_eq_true (by omega)
          have dg2 : 0 < i := by omega
          by_cases hlt2 : (⟨e0, e1, e2, e3⟩ : Ky).lt ⟨k0, k1, k2, k3⟩
          · have HOC := hid (show ∀ W, Calls Try.prog 130 #[.agg #[.int .i64 e0, .int .i64 e1, .int .i64 e2, .int .i64 e3], .agg #[.int .i64 k0, .int .i64 k1, .int .i64 k2, .int .i64 k3]] W fun r w' => r = .returned (.bool true) ∧ Below W.heap.size W w' from fun W => decide_eq_true hlt2 ▸ before_any ⟨e0, e1, e2, e3⟩ ⟨k0, k1, k2, k3⟩ W)
            have HLT := hid (fun (a : Tl) (_ : 0 < i) (ha : (E.map Te.tl)[i - 1]? = some a) => show a.key.lt ⟨k0, k1, k2, k3⟩ from (Option.some.inj (HEI.out.symm.trans ha)) ▸ hlt2)
            clear hlt2
            go_wp2_with fail
            refine wp_region_quiet_below (by kernel_rfl) (by kernel_rfl) ?_
            repeat (first | go_big_quiet_step ((first | (go_at_call 130; with_reducible exact Calls.regrown_of (HOC.out _)) | (go_at_call 129; with_reducible exact Calls.regrown_of (HTC.out _ _)))) | quiet_step ((first | (go_at_call 130; with_reducible exact Calls.regrown_of (HOC.out _)) | (go_at_call 129; with_reducible exact Calls.regrown_of (HTC.out _ _)))))
            refine wpQuiet_nil ?_
            intro _ hw'
            obtain ⟨⟨dqV, osV⟩, hw2⟩ := hw'
            subst hw2
            have HQV := hid (below_regrown wr dqV osV)
            generalize Sort.grow (redrawn wr dqV) osV = V at HQV ⊢
            have hsV := HQV.out.size
            clear T0 T1 T2 T3 T4
            clear b0 b1 b2 b3
            have HBV := hid (HB4.out.trans (HQV.out.mono hz4))
            obtain ⟨pb, po, rfl, hpb, hpr⟩ := HPD.out.resolve_left HTOK.out.ne
            have HPR := hid hpr
            have HPB := hid hpb
            have hm1k : m ≤ 1024 := by rw [HMP.out]; exact (goodL_facts HTOK.out.good).2.2
            clear hpr hpb
            have HTC := hid (HV4.out.symm)
            clear HV4 HC0 HC1 HC2 HC3
            have HV4 := hid (show w.cell? ⟨b, off + i * 5 + 4, none⟩ = some (.slice (some ⟨pb, po, none⟩) m ec) by rw [← HB4.out.cell HBW.out]; exact HTC.out.symm)
            clear HTC
            go_wp2_with fail
            go_loopw [4] (fun kv W => ∃ k : Nat, k ≤ i ∧ kv = .int .i64 (k : Int) ∧ (∀ j a, j < k → (E.map Te.tl)[j]? = some a → ∀ p ∈ a.pts, ∀ q ∈ P, p.id ≠ q.id) ∧ Below w.heap.size w W) (fun kv _ => i - (intOf kv).toNat)
            case atStart => exact ⟨0, by omega, rfl, fun j a hj => absurd hj (by omega), HBV.out⟩
            case round =>
              obtain ⟨k, hk, rfl, hap, hB⟩ := hrel
              have HAP := hid hap
              have HB6 := hid hB
              clear hap hB
              by_cases hki : k < i
              · have d2 : decide ((k : Int) < (i : Int)) = true := decide_eq_true (by omega)
                obtain ⟨f, hf⟩ : ∃ f, E[k]? = some f := ⟨_, List.getElem?_eq_getElem (by rw [← HN.out]; omega)⟩
                have HFI := hid (show (E.map Te.tl)[k]? = some f.tl by rw [List.getElem?_map, hf]; rfl)
                have hpf := HPVS.out f (List.mem_of_getElem? hf)
                have HFL := hid (HPL.out f (List.mem_of_getElem? hf))
                have hf4 : w.cell? ⟨b, off + k * 5 + 4, none⟩ = some f.v := HRW.out k f.row (by rw [List.getElem?_map, hf]; rfl) 4 (by decide)
                have HFP := hid hpf
                obtain ⟨fa, fc, hfv, _⟩ := hpf
                rw [hfv] at hf4 HFP
                have HF4 := hid hf4
                clear hf4 hf
                have c4 : wr.cell? ⟨b, off + i * 5 + 4, none⟩ = some (.slice (some ⟨pb, po, none⟩) m ec) := by rw [HB6.out.cell HBW.out]; exact HV4.out
                obtain ⟨fm, hfm⟩ : ∃ fm, fm = f.pts.length := ⟨_, rfl⟩
                rw [← hfm] at HF4 HFP
                clear hfm hfv
                go_wp2_with fail
                clear c4
                go_loopw [48] (fun jv W => ∃ j : Nat, j ≤ m ∧ jv = .int .i64 (j : Int) ∧ (∀ p ∈ f.pts, ∀ q ∈ P.take j, p.id ≠ q.id) ∧ Below w.heap.size w W) (fun jv _ => m - (intOf jv).toNat)
                case atStart => exact ⟨0, by omega, rfl, fun p _ q hq => by simp at hq, HB6.out⟩
                case round =>
                  obtain ⟨j, hj, rfl, haq, hB⟩ := hrel
                  have HAQ := hid haq
                  have HB8 := hid hB
                  have hz8 := hB.size
                  clear haq hB
                  by_cases hjm : j < m
                  · have d3 : decide ((j : Int) < (m : Int)) = true := decide_eq_true (by omega)
                    obtain ⟨p, hp⟩ : ∃ p, P[j]? = some p := ⟨_, List.getElem?_eq_getElem (by rw [← HMP.out]; exact hjm)⟩
                    have hcs : ∀ q, q < 9 → wr.cell? ⟨pb, po + j * 9 + q, none⟩ = some (.int .i64 (p.f q)) := fun q hq => by
                      rw [HB8.out.cell HPB.out, HPR.out j p.row (by rw [List.getElem?_map, hp]; rfl) q hq, Pt.row_at p q hq]
                    have HPI := hid hp
                    clear hp
                    obtain ⟨p0, p1, p2, p3, p4, p5, p6, p7, p8⟩ := p
                    have a0 : wr.cell? ⟨pb, po + j * 9, none⟩ = some (.int .i64 p0) := hcs 0 (by decide)
                    have a1 : wr.cell? ⟨pb, po + j * 9 + 1, none⟩ = some (.int .i64 p1) := hcs 1 (by decide)
                    have a2 : wr.cell? ⟨pb, po + j * 9 + 2, none⟩ = some (.int .i64 p2) := hcs 2 (by decide)
                    have a3 : wr.cell? ⟨pb, po + j * 9 + 3, none⟩ = some (.int .i64 p3) := hcs 3 (by decide)
                    have a4 : wr.cell? ⟨pb, po + j * 9 + 4, none⟩ = some (.int .i64 p4) := hcs 4 (by decide)
                    have a5 : wr.cell? ⟨pb, po + j * 9 + 5, none⟩ = some (.int .i64 p5) := hcs 5 (by decide)
                    have a6 : wr.cell? ⟨pb, po + j * 9 + 6, none⟩ = some (.int .i64 p6) := hcs 6 (by decide)
                    have a7 : wr.cell? ⟨pb, po + j * 9 + 7, none⟩ = some (.int .i64 p7) := hcs 7 (by decide)
                    have a8 : wr.cell? ⟨pb, po + j * 9 + 8, none⟩ = some (.int .i64 p8) := hcs 8 (by decide)
                    clear hcs
                    go_upto_region 12 with fail
                    refine gen_world (fun W7 hW7 => ?_)
                    have HP7 := hid (show W7.heap[wr.heap.size]? = some (.cells #[.int .i64 p0, .int .i64 p1, .int .i64 p2, .int .i64 p3, .int .i64 p4, .int .i64 p5, .int .i64 p6, .int .i64 p7, .int .i64 p8] 78) by rw [hW7]; exact heap_alloc_at _ _ _ rfl)
                    have HB7 := hid (show Below w.heap.size w W7 by rw [hW7]; exact HB8.out.alloc hz8 _)
                    clear hW7 a0 a1 a2 a3 a4 a5 a6 a7 a8
                    obtain ⟨g, hg⟩ : ∃ g, g = wr.heap.size := ⟨_, rfl⟩
                    rw [← hg] at HP7 ⊢
                    clear hg
                    have c0 := fun d os => cell_regrown (show W7.cell? ⟨g, 0, none⟩ = some (.int .i64 p0) from (cell_row (j := 0) HP7.out).trans rfl) d os
                    have c4 := fun d os => cell_regrown (show W7.cell? ⟨b, off + k * 5 + 4, none⟩ = some (.slice fa fm fc) by rw [HB7.out.cell HBW.out]; exact HF4.out) d os
                    obtain ⟨z, hz⟩ : ∃ z, z = idxL f.pts p0 := ⟨_, rfl⟩
                    have HFW := hid (HFP.out.still HB7.out)
                    have HIC := hid (fun d os => (show Calls Try.prog 70 #[.slice fa fm fc, .int .i64 p0] (grow (redrawn W7 d) os) fun r w' => r = .returned (.int .i64 z) ∧ Below (grow (redrawn W7 d) os).heap.size (grow (redrawn W7 d) os) w' from hz ▸ rindex_any (.slice fa fm fc) f.pts p0 (grow (redrawn W7 d) os) (HFW.out.still (below_regrown W7 d os)) HFL.out))
                    have HZ := hid hz
                    clear hz
                    by_cases hz0 : 0 ≤ z
                    · have dz : decide (0 ≤ z) = true := decide_eq_true hz0
                      have HF := hid (HNO.out (by
                        have h1 : ¬ ∀ q ∈ f.pts, q.id ≠ p0 := fun h => by
                          have h2 := idxL_neg.2 h
                          rw [← HZ.out] at h2
                          omega
                        obtain ⟨q, h2⟩ := Classical.not_forall.1 h1
                        obtain ⟨h3, h4⟩ := Classical.not_imp.1 h2
                        exact TlsOk.not_apart hki HFI.out HTI.out h3 (List.mem_of_getElem? HPI.out) (Classical.not_not.1 h4)))
                      go_wp2_with fail
                      refine wp_region_quiet_below (by kernel_rfl) (by kernel_rfl) ?_
                      repeat (first | go_big_quiet_step ((go_at_call 70; with_reducible exact Calls.regrown_of (HIC.out _ _))) | quiet_step ((go_at_call 70; with_reducible exact Calls.regrown_of (HIC.out _ _))))
                      refine wpQuiet_nil ?_
                      intro _ hw'
                      obtain ⟨⟨dqU, osU⟩, hw2⟩ := hw'
                      subst hw2
                      have HQU := hid (below_regrown W7 dqU osU)
                      generalize Sort.grow (redrawn W7 dqU) osU = U at HQU ⊢
                      have hsU := HQU.out.size
                      clear c0 c4
                      go_wp2_with fail
                      go_ret
                      exact ⟨by rw [HF.out]; rfl, HB7.out.trans (HQU.out.mono HB7.out.size)⟩
                    · have dz : decide (0 ≤ z) = false := decide_eq_false hz0
                      have HAN := hid (show ∀ p ∈ f.pts, ∀ q ∈ P.take (j + 1), p.id ≠ q.id by
                        have h1 := idxL_neg.1 (show idxL f.pts p0 < 0 by rw [← HZ.out]; omega)
                        rw [take_next HPI.out]
                        intro p hp q hq
                        rcases List.mem_append.1 hq with g1 | g1
                        · exact HAQ.out p hp q g1
                        · obtain rfl := List.mem_singleton.1 g1
                          exact h1 p hp)
                      go_wp2_with fail
                      refine wp_region_quiet_below (by kernel_rfl) (by kernel_rfl) ?_
                      repeat (first | go_big_quiet_step ((go_at_call 70; with_reducible exact Calls.regrown_of (HIC.out _ _))) | quiet_step ((go_at_call 70; with_reducible exact Calls.regrown_of (HIC.out _ _))))
                      refine wpQuiet_nil ?_
                      intro _ hw'
                      obtain ⟨⟨dqU, osU⟩, hw2⟩ := hw'
                      subst hw2
                      have HQU := hid (below_regrown W7 dqU osU)
                      generalize Sort.grow (redrawn W7 dqU) osU = U at HQU ⊢
                      have hsU := HQU.out.size
                      clear c0 c4
                      have HBU := hid (HB7.out.trans (HQU.out.mono HB7.out.size))
                      go_wp2_with fail
                      exact ⟨⟨j + 1, by omega, by go_num, HAN.out, HBU.out⟩, by simp [intOf]; omega⟩
                  · obtain rfl : j = m := by omega
                    have d3 : decide ((j : Int) < (j : Int)) = false := by simp
                    have HAN := hid (show ∀ l a, l < k + 1 → (E.map Te.tl)[l]? = some a → ∀ p ∈ a.pts, ∀ q ∈ P, p.id ≠ q.id by
                      intro l a hl ha
                      by_cases hlk : l = k
                      · subst hlk
                        obtain rfl := Option.some.inj (HFI.out.symm.trans ha)
                        have := HAQ.out
                        rw [HMP.out, List.take_length] at this
                        exact this
                      · exact HAP.out l a (by omega) ha)
                    go_wp2_with fail
                    exact ⟨⟨k + 1, by omega, by go_num, HAN.out, HB8.out⟩, by simp [intOf]; omega⟩
              · obtain rfl : k = i := by omega
                have d2 : decide ((k : Int) < (k : Int)) = false := by simp
                have HNX := hid (TlsOk.next HOK.out HTI.out HTOK.out (fun a h ha => HLT.out a h ha) HAP.out)
                go_wp2_with fail
                exact ⟨⟨k + 1, by omega, by go_num, HNX.out, HB6.out⟩, by simp [intOf]; omega⟩
          · have HOC := hid (show ∀ W, Calls Try.prog 130 #[.agg #[.int .i64 e0, .int .i64 e1, .int .i64 e2, .int .i64 e3], .agg #[.int .i64 k0, .int .i64 k1, .int .i64 k2, .int .i64 k3]] W fun r w' => r = .returned (.bool false) ∧ Below W.heap.size W w' from fun W => decide_eq_false hlt2 ▸ before_any ⟨e0, e1, e2, e3⟩ ⟨k0, k1, k2, k3⟩ W)
            have HF := hid (HNO.out (TlsOk.not_order dg2 HEI.out HTI.out hlt2))
            clear hlt2
            go_wp2_with fail
            refine wp_region_quiet_below (by kernel_rfl) (by kernel_rfl) ?_
            repeat (first | go_big_quiet_step ((first | (go_at_call 130; with_reducible exact Calls.regrown_of (HOC.out _)) | (go_at_call 129; with_reducible exact Calls.regrown_of (HTC.out _ _)))) | quiet_step ((first | (go_at_call 130; with_reducible exact Calls.regrown_of (HOC.out _)) | (go_at_call 129; with_reducible exact Calls.regrown_of (HTC.out _ _)))))
            refine wpQuiet_nil ?_
            intro _ hw'
            obtain ⟨⟨dqV, osV⟩, hw2⟩ := hw'
            subst hw2
            have HQV := hid (below_regrown wr dqV osV)
            generalize Sort.grow (redrawn wr dqV) osV = V at HQV ⊢
            have hsV := HQV.out.size
            clear T0 T1 T2 T3 T4
            clear b0 b1 b2 b3
            go_wp2_with fail
            go_ret
            exact ⟨by rw [HF.out]; rfl, HB4.out.trans (HQV.out.mono HB4.out.size)⟩
    · obtain rfl : i = n := by omega
      have d1 : decide ((i : Int) < (i : Int)) = false := by simp
      have HF := hid (HYES.out (by have := HOK.out; rwa [HN.out, List.take_of_length_le (by rw [List.length_map]; exact Nat.le_refl _)] at this))
      go_wp2_with fail
      go_ret
      exact ⟨by rw [HF.out]; rfl, HB4.out⟩
end Go.Proofs.Ytpablkmdpoombaa

/- DetX -/
namespace Go.Proofs.Ytpablkmdpoombaa
open Go.ChangeShapes Go.WideShapes Go.RowKit Go.Maps Go.Sort

theorem OwnR.nilV {W : World} {base t sz : Nat} {v : Value} {l : List (List Value)} (h : OwnR W base t sz v l) : NilV v := fun c e => by
  rcases h.2.2 with ⟨h1, _⟩ | ⟨g, cap, cur, h1, _⟩
  · rw [h1] at e
    injection e with _ _ e
    exact e.symm
  · rw [h1] at e
    injection e with e
    cases e
set_option maxRecDepth 100000 in
set_option maxHeartbeats 6400000 in
theorem xdetail_any (v : Value) (E : List Te) (lv : Int) (w : World) (hT : TilesV w v E) (hl : E.length ≤ 900) (hp : ∀ e ∈ E, e.pts.length ≤ maxLen) :
    Calls Try.prog 62 #[v, .int .i64 lv] w fun r w' => (∃ d e D, r = .returned (.tuple #[d, .int .i64 e]) ∧ OwnP w' w.heap.size d D ∧ DetRes (E.map Te.tl) lv e D) ∧ Below w.heap.size w w' := by
  obtain ⟨gv, hgv⟩ : ∃ gv, gv = decide (TlsOk (E.map Te.tl)) := ⟨_, rfl⟩
  have HGC := hid (show Calls Try.prog 98 #[v] w fun r w' => r = .returned (.bool gv) ∧ Below w.heap.size w w' from hgv ▸ xtls_any v E w hT (by omega) hp)
  have HNO := hid (fun h : gv = false => show detErr (E.map Te.tl) lv = 81 from detErr_tile (of_decide_eq_false (hgv ▸ h)))
  have HYES := hid (fun h : gv = true => of_decide_eq_true (show decide (TlsOk (E.map Te.tl)) = true from hgv ▸ h))
  clear hgv
  have HT := hid hT
  obtain ⟨⟨a, cap, rfl, hrow⟩, hpv⟩ := hT
  obtain ⟨n, hnl⟩ : ∃ n, n = E.length := ⟨_, rfl⟩
  rw [← hnl] at hl HGC ⊢
  have HN := hid hnl
  have HROW := hid hrow
  have HPVS := hid hpv
  clear hnl hrow hpv hp HT
  obtain ⟨i0, hi, hz0, hz1, hz2⟩ := info_parts info36
  have HI := hid hi
  have HZ0 := hid hz0
  have HZ1 := hid hz1
  have HZ2 := hid hz2
  clear hi hz0 hz1 hz2
  go_enter Try.func62, Try.ntmps62
  go_wp2_with fail
  refine HGC.out.mono ?_
  rintro r w1 ⟨rfl, hb1⟩
  have HB1 := hid hb1
  clear hb1 HGC
  cases gv
  · have HR := hid (DetRes.bad (HNO.out rfl) (by decide))
    go_wp2_with fail
    go_ret2
    exact ⟨⟨_, _, [], rfl, OwnR.nil _ _ _ _, HR.out⟩, HB1.out⟩
  have HOKT := hid (HYES.out rfl)
  clear HYES HNO
  by_cases hlo : lv < 0
  · have d2 : decide (lv < 0) = true := decide_eq_true hlo
    have HR := hid (DetRes.bad (detErr_arg (lv := lv) HOKT.out (by omega)) (by decide))
    go_wp2_with fail
    go_ret2
    exact ⟨⟨_, _, [], rfl, OwnR.nil _ _ _ _, HR.out⟩, HB1.out⟩
  have d2 : decide (lv < 0) = false := decide_eq_false hlo
  by_cases hhi : 12 < lv
  · have d3 : decide (12 < lv) = true := decide_eq_true hhi
    have HR := hid (DetRes.bad (detErr_arg (lv := lv) HOKT.out (by omega)) (by decide))
    go_wp2_with fail
    go_ret2
    exact ⟨⟨_, _, [], rfl, OwnR.nil _ _ _ _, HR.out⟩, HB1.out⟩
  have d3 : decide (12 < lv) = false := decide_eq_false hhi
  have HDE := hid (detErr_ok (lv := lv) HOKT.out (by omega))
  go_wp2_with fail
  go_loopw [6, 20] (fun ov' iv W => ∃ (i : Nat) (ov : Value), ov = ov' ∧ i ≤ n ∧ iv = .int .i64 (i : Int) ∧ OwnP W w.heap.size ov (detL ((E.map Te.tl).take i) lv) ∧ Below w.heap.size w W) (fun _ iv _ => n - (intOf iv).toNat)
  case atStart => exact ⟨0, _, rfl, by omega, rfl, OwnR.nil _ _ _ _, HB1.out⟩
  case round =>
    obtain ⟨i, ov, rfl, hi, rfl, hov, hB⟩ := hrel
    have HOV := hid hov
    have HB4 := hid hB
    have hz4 := hB.size
    clear hov hB
    by_cases hlt : i < n
    · have d1 : decide ((i : Int) < (n : Int)) = true := decide_eq_true (by omega)
      obtain ⟨e, he⟩ : ∃ e, E[i]? = some e := ⟨_, List.getElem?_eq_getElem (by rw [← HN.out]; exact hlt)⟩
      have HTI := hid (show (E.map Te.tl)[i]? = some e.tl by rw [List.getElem?_map, he]; rfl)
      have hEn : E ≠ [] := fun h => by rw [h] at he; simp at he
      obtain ⟨b, off, rfl, hbw, hrows⟩ := HROW.out.resolve_left hEn
      have HRW := hid hrows
      have HBW := hid hbw
      have hpe := HPVS.out e (List.mem_of_getElem? he)
      have HTO := hid (HOKT.out.all e.tl (List.mem_of_getElem? HTI.out))
      have hcs : ∀ j, j < 5 → wr.cell? ⟨b, off + i * 5 + j, none⟩ = e.row[j]? := fun j hj => by
        rw [HB4.out.cell hbw, hrows i e.row (by rw [List.getElem?_map, he]; rfl) j hj]
      clear he hEn hrows hbw
      obtain ⟨⟨k0, k1, k2, k3⟩, ev, P⟩ := e
      obtain ⟨ea, ec, hev, hpd⟩ := hpe
      obtain rfl : ev = .slice ea P.length ec := hev
      obtain ⟨pb, po, rfl, hpb, hpr⟩ := hpd.resolve_left HTO.out.ne
      have HPR := hid hpr
      have HPB := hid hpb
      clear hpd hpr hpb
      obtain ⟨m, hm⟩ : ∃ m, m = P.length := ⟨_, rfl⟩
      simp only [Te.row, Ky.row, ← hm] at hcs
      have HMP := hid hm
      have hm1k : m ≤ 1024 := by rw [hm]; exact HTO.out.len
      clear hm
      have a0 : wr.cell? ⟨b, off + i * 5, none⟩ = some (.int .i64 k0) := hcs 0 (by decide)
      have a1 : wr.cell? ⟨b, off + i * 5 + 1, none⟩ = some (.int .i64 k1) := hcs 1 (by decide)
      have a2 : wr.cell? ⟨b, off + i * 5 + 2, none⟩ = some (.int .i64 k2) := hcs 2 (by decide)
      have a3 : wr.cell? ⟨b, off + i * 5 + 3, none⟩ = some (.int .i64 k3) := hcs 3 (by decide)
      have a4 : wr.cell? ⟨b, off + i * 5 + 4, none⟩ = some (.slice (some ⟨pb, po, none⟩) m ec) := hcs 4 (by decide)
      clear hcs
      go_upto_region 9 with fail
      refine gen_world (fun W5 hW5 => ?_)
      have HT5 := hid (show W5.heap[wr.heap.size]? = some (.cells #[.int .i64 k0, .int .i64 k1, .int .i64 k2, .int .i64 k3, .slice (some ⟨pb, po, none⟩) m ec] 111) by rw [hW5]; exact heap_alloc_at _ _ _ rfl)
      have hb5 : Below wr.heap.size wr W5 := by rw [hW5]; exact (Below.refl _ _).alloc (Nat.le_refl _) _
      have HBX := hid (HB4.out.trans (hb5.mono hz4))
      have HOX := hid (OwnR.grow' HOV.out hb5)
      have HX3 := hid (RowsAt.still HPR.out HBX.out HPB.out)
      have hz5 := HBX.out.size
      clear hW5 hb5 a0 a1 a2 a3 a4 HOV
      obtain ⟨g, hg⟩ : ∃ g, g = wr.heap.size := ⟨_, rfl⟩
      rw [← hg] at HT5 ⊢
      clear hg
      have t0 : W5.cell? ⟨g, 0, none⟩ = some (.int .i64 k0) := (cell_row (j := 0) HT5.out).trans rfl
      have t4 : W5.cell? ⟨g, 4, none⟩ = some (.slice (some ⟨pb, po, none⟩) m ec) := (cell_row (j := 4) HT5.out).trans rfl
      have HNX := hid (detL_next lv HTI.out)
      by_cases hlev : k0 ≤ lv
      · have dl : decide (k0 ≤ lv) = true := decide_eq_true hlev
        have HNY := hid (show detL ((E.map Te.tl).take (i + 1)) lv = detL ((E.map Te.tl).take i) lv ++ P by rw [HNX.out]; exact congrArg _ (if_pos hlev))
        have HLB := hid (show ((detL ((E.map Te.tl).take i) lv).map Pt.row).length ≤ 1024 * i by
          rw [List.length_map]
          refine Nat.le_trans (detL_bd lv (HOKT.out.take i).all) ?_
          rw [List.length_take]
          exact Nat.mul_le_mul_left _ (Nat.min_le_left _ _))
        have HLN := hid (show (P.map Pt.row).length = m by rw [List.length_map]; exact HMP.out.symm)
        have HL1 := hid (show ((detL ((E.map Te.tl).take i) lv).map Pt.row).length + (P.map Pt.row).length ≤ maxLen by rw [HLN.out]; have := HLB.out; unfold maxLen; omega)
        have HL2 := hid (show (((detL ((E.map Te.tl).take i) lv).map Pt.row).length + (P.map Pt.row).length) * 72 ≤ 140737488355328 by rw [HLN.out]; have := HLB.out; omega)
        have HWD := hid (wide_map (enc := Pt.row) (k := 9) (fun _ => rfl) Pt.row_one P)
        clear HNX hlev
        go_wp2_with (first
          | (at_builtin
             refine wpList_append_rows rfl (.tmp 29) (.tmp 31) 22 rfl w.heap.size 78 i0 _ 9 72 Try.underlying22 HI.out HZ0.out HZ1.out HZ2.out rfl (by decide) _ ((detL ((E.map Te.tl).take i) lv).map Pt.row) (P.map Pt.row) rfl HOX.out pb po m ec HLN.out.symm rfl HX3.out HWD.out HL1.out HL2.out hz5 ?_
             intro v6 W6 hown6 hg6 z6
             clear z6
             rw [← List.map_append, ← HNY.out] at hown6
             have HO6 := hid hown6
             have HB6 := hid (show Below w.heap.size w W6 from HBX.out.grown hg6 hz5 (fun k hk => OwnR.ownBlock HOX.out k hk))
             clear hown6 hg6))
        exact ⟨⟨i + 1, _, rfl, by omega, by go_num, HO6.out, HB6.out⟩, by simp [intOf]; omega⟩
      · have dl : decide (k0 ≤ lv) = false := decide_eq_false hlev
        have HNY := hid (show detL ((E.map Te.tl).take (i + 1)) lv = detL ((E.map Te.tl).take i) lv from HNX.out.trans ((congrArg (detL ((E.map Te.tl).take i) lv ++ ·) (if_neg hlev)).trans (List.append_nil _)))
        clear HNX hlev
        go_wp2_with fail
        exact ⟨⟨i + 1, _, rfl, by omega, by go_num, by rw [HNY.out]; exact HOX.out, HBX.out⟩, by simp [intOf]; omega⟩
    · obtain rfl : i = n := by omega
      have d1 : decide ((i : Int) < (i : Int)) = false := by simp
      have HOA := hid (show OwnP wr w.heap.size ov (detL (E.map Te.tl) lv) by
        have := HOV.out
        rwa [HN.out, List.take_of_length_le (by rw [List.length_map]; exact Nat.le_refl _)] at this)
      have HLA := hid (show (detL (E.map Te.tl) lv).length ≤ 921600 by
        refine Nat.le_trans (detL_bd lv HOKT.out.all) ?_
        rw [List.length_map, ← HN.out]
        omega)
      clear HOV
      go_wp2_with fail
      refine (sortId_any ov _ w.heap.size wr HOA.out (by have := HLA.out; omega) (detL_ids HOKT.out.all lv)).mono ?_
      rintro r w9 ⟨rfl, L, hperm, hasc, hown, hg9⟩
      have HO9 := hid (show OwnP w9 w.heap.size ov L from hown)
      have HB9 := hid (show Below w.heap.size w w9 from HB4.out.grown hg9 hz4 (fun k hk => OwnR.ownBlock HOA.out k hk))
      have HR := hid (DetRes.good HDE.out (HOKT.out.det hperm hasc))
      clear hperm hasc hown hg9
      go_wp2_with fail
      go_ret2
      exact ⟨⟨_, _, L, rfl, HO9.out, HR.out⟩, HB9.out⟩
set_option maxRecDepth 100000 in
set_option maxHeartbeats 6400000 in
theorem rdetail_any (v : Value) (E : List Te) (lv : Int) (w : World) (hT : TilesV w v E) (hl : E.length ≤ 900) (hp : ∀ e ∈ E, e.pts.length ≤ maxLen) :
    Calls Try.prog 64 #[v, .int .i64 lv] w fun r w' => (∃ d e D, r = .returned (.tuple #[d, .int .i64 e]) ∧ OwnP w' w.heap.size d D ∧ DetRes (E.map Te.tl) lv e D) ∧ Below w.heap.size w w' := by
  obtain ⟨gv, hgv⟩ : ∃ gv, gv = decide (TlsOk (E.map Te.tl)) := ⟨_, rfl⟩
  have HGC := hid (show Calls Try.prog 102 #[v] w fun r w' => r = .returned (.bool gv) ∧ Below w.heap.size w w' from hgv ▸ rtls_any v E w hT (by omega) hp)
  have HNO := hid (fun h : gv = false => show detErr (E.map Te.tl) lv = 81 from detErr_tile (of_decide_eq_false (hgv ▸ h)))
  have HYES := hid (fun h : gv = true => of_decide_eq_true (show decide (TlsOk (E.map Te.tl)) = true from hgv ▸ h))
  clear hgv
  have HT := hid hT
  obtain ⟨⟨a, cap, rfl, hrow⟩, hpv⟩ := hT
  obtain ⟨n, hnl⟩ : ∃ n, n = E.length := ⟨_, rfl⟩
  rw [← hnl] at hl HGC ⊢
  have HN := hid hnl
  have HROW := hid hrow
  have HPVS := hid hpv
  clear hnl hrow hpv hp HT
  obtain ⟨i0, hi, hz0, hz1, hz2⟩ := info_parts info36
  have HI := hid hi
  have HZ0 := hid hz0
  have HZ1 := hid hz1
  have HZ2 := hid hz2
  clear hi hz0 hz1 hz2
  go_enter Try.func64, Try.ntmps64
  go_wp2_with fail
  refine HGC.out.mono ?_
  rintro r w1 ⟨rfl, hb1⟩
  have HB1 := hid hb1
  clear hb1 HGC
  cases gv
  · have HR := hid (DetRes.bad (HNO.out rfl) (by decide))
    go_wp2_with fail
    go_ret2
    exact ⟨⟨_, _, [], rfl, OwnR.nil _ _ _ _, HR.out⟩, HB1.out⟩
  have HOKT := hid (HYES.out rfl)
  clear HYES HNO
  go_wp2_with fail
  refine (from_any 0 lv 12 w1).mono ?_
  rintro r w2 ⟨rfl, rfl⟩
  have HB2 := HB1
  cases hlv : inB 0 12 lv
  · have HR := hid (DetRes.bad (detErr_arg (lv := lv) HOKT.out (by simp [inB] at hlv; omega)) (by decide))
    go_wp2_with fail
    go_ret2
    exact ⟨⟨_, _, [], rfl, OwnR.nil _ _ _ _, HR.out⟩, HB2.out⟩
  have HDE := hid (detErr_ok (lv := lv) HOKT.out (by simp [inB] at hlv; omega))
  clear hlv
  go_wp2_with fail
  go_loopw [6, 17] (fun ov' iv W => ∃ (i : Nat) (ov : Value), ov = ov' ∧ i ≤ n ∧ iv = .int .i64 (i : Int) ∧ OwnP W w.heap.size ov (detL ((E.map Te.tl).take i) lv) ∧ Below w.heap.size w W) (fun _ iv _ => n - (intOf iv).toNat)
  case atStart => exact ⟨0, _, rfl, by omega, rfl, OwnR.nil _ _ _ _, HB2.out⟩
  case round =>
    obtain ⟨i, ov, rfl, hi, rfl, hov, hB⟩ := hrel
    have HOV := hid hov
    have HB4 := hid hB
    have hz4 := hB.size
    clear hov hB
    by_cases hlt : i < n
    · have d1 : decide ((i : Int) < (n : Int)) = true := decide_eq_true (by omega)
      obtain ⟨e, he⟩ : ∃ e, E[i]? = some e := ⟨_, List.getElem?_eq_getElem (by rw [← HN.out]; exact hlt)⟩
      have HTI := hid (show (E.map Te.tl)[i]? = some e.tl by rw [List.getElem?_map, he]; rfl)
      have hEn : E ≠ [] := fun h => by rw [h] at he; simp at he
      obtain ⟨b, off, rfl, hbw, hrows⟩ := HROW.out.resolve_left hEn
      have HRW := hid hrows
      have HBW := hid hbw
      have hpe := HPVS.out e (List.mem_of_getElem? he)
      have HTO := hid (HOKT.out.all e.tl (List.mem_of_getElem? HTI.out))
      have hcs : ∀ j, j < 5 → wr.cell? ⟨b, off + i * 5 + j, none⟩ = e.row[j]? := fun j hj => by
        rw [HB4.out.cell hbw, hrows i e.row (by rw [List.getElem?_map, he]; rfl) j hj]
      clear he hEn hrows hbw
      obtain ⟨⟨k0, k1, k2, k3⟩, ev, P⟩ := e
      obtain ⟨ea, ec, hev, hpd⟩ := hpe
      obtain rfl : ev = .slice ea P.length ec := hev
      obtain ⟨pb, po, rfl, hpb, hpr⟩ := hpd.resolve_left HTO.out.ne
      have HPR := hid hpr
      have HPB := hid hpb
      clear hpd hpr hpb
      obtain ⟨m, hm⟩ : ∃ m, m = P.length := ⟨_, rfl⟩
      simp only [Te.row, Ky.row, ← hm] at hcs
      have HMP := hid hm
      have hm1k : m ≤ 1024 := by rw [hm]; exact HTO.out.len
      clear hm
      have a0 : wr.cell? ⟨b, off + i * 5, none⟩ = some (.int .i64 k0) := hcs 0 (by decide)
      have a1 : wr.cell? ⟨b, off + i * 5 + 1, none⟩ = some (.int .i64 k1) := hcs 1 (by decide)
      have a2 : wr.cell? ⟨b, off + i * 5 + 2, none⟩ = some (.int .i64 k2) := hcs 2 (by decide)
      have a3 : wr.cell? ⟨b, off + i * 5 + 3, none⟩ = some (.int .i64 k3) := hcs 3 (by decide)
      have a4 : wr.cell? ⟨b, off + i * 5 + 4, none⟩ = some (.slice (some ⟨pb, po, none⟩) m ec) := hcs 4 (by decide)
      clear hcs
      go_upto_region 9 with fail
      refine gen_world (fun W5 hW5 => ?_)
      have HT5 := hid (show W5.heap[wr.heap.size]? = some (.cells #[.int .i64 k0, .int .i64 k1, .int .i64 k2, .int .i64 k3, .slice (some ⟨pb, po, none⟩) m ec] 111) by rw [hW5]; exact heap_alloc_at _ _ _ rfl)
      have hb5 : Below wr.heap.size wr W5 := by rw [hW5]; exact (Below.refl _ _).alloc (Nat.le_refl _) _
      have HBX := hid (HB4.out.trans (hb5.mono hz4))
      have HOX := hid (OwnR.grow' HOV.out hb5)
      have HX3 := hid (RowsAt.still HPR.out HBX.out HPB.out)
      have hz5 := HBX.out.size
      clear hW5 hb5 a0 a1 a2 a3 a4 HOV
      obtain ⟨g, hg⟩ : ∃ g, g = wr.heap.size := ⟨_, rfl⟩
      rw [← hg] at HT5 ⊢
      clear hg
      have t0 : W5.cell? ⟨g, 0, none⟩ = some (.int .i64 k0) := (cell_row (j := 0) HT5.out).trans rfl
      have t4 : W5.cell? ⟨g, 4, none⟩ = some (.slice (some ⟨pb, po, none⟩) m ec) := (cell_row (j := 4) HT5.out).trans rfl
      have HNX := hid (detL_next lv HTI.out)
      by_cases hlev : k0 ≤ lv
      · have dl : decide (k0 ≤ lv) = true := decide_eq_true hlev
        have HNY := hid (show detL ((E.map Te.tl).take (i + 1)) lv = detL ((E.map Te.tl).take i) lv ++ P by rw [HNX.out]; exact congrArg _ (if_pos hlev))
        have HLB := hid (show ((detL ((E.map Te.tl).take i) lv).map Pt.row).length ≤ 1024 * i by
          rw [List.length_map]
          refine Nat.le_trans (detL_bd lv (HOKT.out.take i).all) ?_
          rw [List.length_take]
          exact Nat.mul_le_mul_left _ (Nat.min_le_left _ _))
        have HLN := hid (show (P.map Pt.row).length = m by rw [List.length_map]; exact HMP.out.symm)
        have HL1 := hid (show ((detL ((E.map Te.tl).take i) lv).map Pt.row).length + (P.map Pt.row).length ≤ maxLen by rw [HLN.out]; have := HLB.out; unfold maxLen; omega)
        have HL2 := hid (show (((detL ((E.map Te.tl).take i) lv).map Pt.row).length + (P.map Pt.row).length) * 72 ≤ 140737488355328 by rw [HLN.out]; have := HLB.out; omega)
        have HWD := hid (wide_map (enc := Pt.row) (k := 9) (fun _ => rfl) Pt.row_one P)
        clear HNX hlev
        go_wp2_with (first
          | (at_builtin
             refine wpList_append_rows rfl (.tmp 26) (.tmp 28) 22 rfl w.heap.size 78 i0 _ 9 72 Try.underlying22 HI.out HZ0.out HZ1.out HZ2.out rfl (by decide) _ ((detL ((E.map Te.tl).take i) lv).map Pt.row) (P.map Pt.row) rfl HOX.out pb po m ec HLN.out.symm rfl HX3.out HWD.out HL1.out HL2.out hz5 ?_
             intro v6 W6 hown6 hg6 z6
             clear z6
             rw [← List.map_append, ← HNY.out] at hown6
             have HO6 := hid hown6
             have HB6 := hid (show Below w.heap.size w W6 from HBX.out.grown hg6 hz5 (fun k hk => OwnR.ownBlock HOX.out k hk))
             clear hown6 hg6))
        exact ⟨⟨i + 1, _, rfl, by omega, by go_num, HO6.out, HB6.out⟩, by simp [intOf]; omega⟩
      · have dl : decide (k0 ≤ lv) = false := decide_eq_false hlev
        have HNY := hid (show detL ((E.map Te.tl).take (i + 1)) lv = detL ((E.map Te.tl).take i) lv from HNX.out.trans ((congrArg (detL ((E.map Te.tl).take i) lv ++ ·) (if_neg hlev)).trans (List.append_nil _)))
        clear HNX hlev
        go_wp2_with fail
        exact ⟨⟨i + 1, _, rfl, by omega, by go_num, by rw [HNY.out]; exact HOX.out, HBX.out⟩, by simp [intOf]; omega⟩
    · obtain rfl : i = n := by omega
      have d1 : decide ((i : Int) < (i : Int)) = false := by simp
      have HOA := hid (show OwnP wr w.heap.size ov (detL (E.map Te.tl) lv) by
        have := HOV.out
        rwa [HN.out, List.take_of_length_le (by rw [List.length_map]; exact Nat.le_refl _)] at this)
      have HLA := hid (show (detL (E.map Te.tl) lv).length ≤ 921600 by
        refine Nat.le_trans (detL_bd lv HOKT.out.all) ?_
        rw [List.length_map, ← HN.out]
        omega)
      clear HOV
      go_wp2_with fail
      refine (rsorted_any ov _ wr (OwnP.ptsV HOA.out) (OwnR.nilV HOA.out) (by have := HLA.out; omega)).mono ?_
      rintro r w9 ⟨⟨u, rfl, L, hown, hperm, hasc⟩, hb9⟩
      have HO9 := hid (show OwnP w9 w.heap.size u L from OwnR.mono hown hz4)
      have HB9 := hid (HB4.out.trans (hb9.mono hz4))
      have HR := hid (DetRes.good HDE.out (HOKT.out.det hperm hasc))
      clear hperm hasc hown hb9
      go_wp2_with fail
      go_ret2
      exact ⟨⟨_, _, L, rfl, HO9.out, HR.out⟩, HB9.out⟩
end Go.Proofs.Ytpablkmdpoombaa

