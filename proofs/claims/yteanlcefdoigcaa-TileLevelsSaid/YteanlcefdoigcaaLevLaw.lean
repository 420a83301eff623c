/- TileLevels: every point lies in exactly one tile, the details of a level are among those of the next one, and a tile stands below a full one, for at most 60 points; for others the law answers by itself. Every input, no condition. -/
import Derived.Test.YteanlcefdoigcaaDetX
import Derived.Test.YteanlcefdoigcaaAmongX
import Derived.Test.YteanlcefdoigcaaAffM
import Derived.Test.YteanlcefdoigcaaLawKit
namespace Go.Proofs.Yteanlcefdoigcaa
open Go.ChangeShapes Go.WideShapes Go.ChangeAt Go.RowKit Go.Maps Go.Sort

theorem made47 (W : World) : (Instr.makeMap 47 none).run Try.prog W = .ok (.map (some W.heap.size)) (W.alloc (.map #[] 0)) := by
  simp [Instr.makeMap, newObj]
  rfl
theorem zero3 (w : World) : (zeroValue 3).run Try.prog w = .ok (.int .i64 0) w := by kernel_rfl
theorem lay_few {S : List Pt} {c : Nat} {E : List Te} (h : IsLayout S c (E.map Te.tl)) : E.length ≤ S.length := by
  have hne : ∀ e ∈ E, e.pts ≠ [] := fun e he => (h.tiles.pts e.tl (List.mem_map.2 ⟨e, he, rfl⟩)).1
  have hhd : ∀ e ∈ E, (e.pts.headD default) ∈ e.pts := fun e he => by
    cases hp : e.pts with
    | nil => exact absurd hp (hne e he)
    | cons p l => simp
  have hin : ∀ e ∈ E, (e.pts.headD default) ∈ S ∧ isAt S c (e.pts.headD default) e.key := fun e he => (h.tiles.mem e.tl (List.mem_map.2 ⟨e, he, rfl⟩) _).1 (hhd e he)
  have h2 : ∀ i ∈ E.map (fun e => e.key), i ∈ S.map (fun p => Classical.choose (isAt_ex S c p)) := fun i hi => by
    obtain ⟨e, he, rfl⟩ := List.mem_map.1 hi
    obtain ⟨h3, h4⟩ := hin e he
    exact List.mem_map.2 ⟨_, h3, isAt_un (Classical.choose_spec (isAt_ex S c _)) h4⟩
  have hk := h.tiles.keys
  rw [List.pairwise_map] at hk
  have h3 := sub_len (l := E.map (fun e => e.key)) (by rw [List.pairwise_map]; exact hk) h2
  simpa using h3
/-- the sizes of tiles by their keys -/
def sizeG (T : List Tl) : Lit → Option Value := fun l => (T.find? (fun t => (kLit t.key).sameKey l)).map (fun t => .int .i64 (t.pts.length : Int))
theorem sizeG_put {T : List Tl} {i : Nat} {t : Tl} (hT : T.Pairwise (fun a b => a.key.lt b.key)) (hs : ∀ u ∈ T, u.key.small) (ht : T[i]? = some t) :
    putG (sizeG (T.take i)) (kLit t.key) (.int .i64 (t.pts.length : Int)) = sizeG (T.take (i + 1)) := by
  have hts := hs t (List.mem_of_getElem? ht)
  have hk : WideAt.IsKeyLit (kLit t.key) := law39.key (key_lit _ hts)
  funext l
  unfold sizeG
  rw [take_next ht, List.find?_append]
  by_cases h : l = kLit t.key
  · subst h
    rw [putG_same hk]
    have h0 : (T.take i).find? (fun u => (kLit u.key).sameKey (kLit t.key)) = none := by
      rw [List.find?_eq_none]
      intro u hu
      rw [sameKey_ne]
      · simp
      · intro e
        have h1 := kLit_inj (hs u (List.mem_of_mem_take hu)) hts e
        have h2 := order_take hT ht u hu
        rw [h1] at h2
        exact Ky.lt_irrefl _ h2
    rw [h0]
    simp [WideAt.sameKey_self hk]
  · rw [putG_other h]
    have h0 : [t].find? (fun u => (kLit u.key).sameKey l) = none := by
      rw [List.find?_eq_none]
      intro u hu
      obtain rfl := List.mem_singleton.1 hu
      rw [sameKey_ne (Ne.symm h)]
      simp
    rw [h0, Option.or_none]
theorem sizeG_at {T : List Tl} {u : Tl} (hT : T.Pairwise (fun a b => a.key.lt b.key)) (hs : ∀ u ∈ T, u.key.small) (hu : u ∈ T) : sizeG T (kLit u.key) = some (.int .i64 (u.pts.length : Int)) := by
  have hk : WideAt.IsKeyLit (kLit u.key) := law39.key (key_lit _ (hs u hu))
  unfold sizeG
  cases hf : T.find? (fun t => (kLit t.key).sameKey (kLit u.key)) with
  | none =>
    rw [List.find?_eq_none] at hf
    exact absurd (WideAt.sameKey_self hk) (hf u hu)
  | some t =>
    have h1 := List.mem_of_find?_eq_some hf
    have h2 := List.find?_some hf
    have h3 : t.key = u.key := by
      by_cases e : t.key = u.key
      · exact e
      · rw [sameKey_ne (fun g => e (kLit_inj (hs t h1) (hs u hu) g))] at h2
        exact absurd h2 (by simp)
    rw [key_unique hT h1 hu h3]
    rfl
set_option maxRecDepth 100000 in
set_option maxHeartbeats 6400000 in
theorem levels_law (pv : Value) (S : List Pt) (c : Int) (w : World) (hp : PtsV w pv S) (hp0 : NilV pv) (hnS : S.length ≤ maxLen) :
    Calls Try.prog 6 #[pv, .int .i64 c] w fun r w' => r = .returned (.bool true) ∧ Below w.heap.size w w' := by
  have HP := hid hp
  have HP0 := hid hp0
  have HNM := hid hnS
  obtain ⟨pa, pc, rfl, _⟩ := hp
  obtain ⟨n, hnl⟩ : ∃ n, n = S.length := ⟨_, rfl⟩
  rw [← hnl] at HP HP0 ⊢
  have HN := hid hnl
  clear hp0 hnl hnS
  by_cases h60 : 60 < n
  · have d1 : decide ((60 : Int) < (n : Int)) = true := decide_eq_true (by omega)
    go_enter Try.func6, Try.ntmps6
    go_wp2_with fail
    refine (awake_any _).mono ?_
    rintro r w9 ⟨rfl, hb⟩
    have HB9 := hid (show Below w.heap.size w w9 from (Below.refl w.heap.size w).trans (hb.mono (Below.refl w.heap.size w).size))
    clear hb
    go_wp2_with fail
    go_ret
    exact ⟨rfl, HB9.out⟩
  have d1 : decide ((60 : Int) < (n : Int)) = false := decide_eq_false (by omega)
  go_enter Try.func6, Try.ntmps6
  go_wp2_with fail
  refine (rvalid_list _ S w HP.out).mono ?_
  rintro r w1 ⟨rfl, hb1⟩
  have HB1 := hid hb1
  have HP1 := hid (HP.out.still hb1)
  have hs1 := hb1.size
  clear hb1
  cases hg : goodL S
  · go_wp2_with fail
    refine (awake_any _).mono ?_
    rintro r w9 ⟨rfl, hb⟩
    have HB9 := hid (show Below w.heap.size w w9 from HB1.out.trans (hb.mono HB1.out.size))
    clear hb
    go_wp2_with fail
    go_ret
    exact ⟨rfl, HB9.out⟩
  have HG := hid hg
  clear hg
  by_cases hc1 : c < 1
  · have d3 : decide (c < 1) = true := decide_eq_true hc1
    go_wp2_with fail
    refine (awake_any _).mono ?_
    rintro r w9 ⟨rfl, hb⟩
    have HB9 := hid (show Below w.heap.size w w9 from HB1.out.trans (hb.mono HB1.out.size))
    clear hb
    go_wp2_with fail
    go_ret
    exact ⟨rfl, HB9.out⟩
  have d3 : decide (c < 1) = false := decide_eq_false hc1
  by_cases hc2 : 64 < c
  · have d4 : decide (64 < c) = true := decide_eq_true hc2
    go_wp2_with fail
    refine (awake_any _).mono ?_
    rintro r w9 ⟨rfl, hb⟩
    have HB9 := hid (show Below w.heap.size w w9 from HB1.out.trans (hb.mono HB1.out.size))
    clear hb
    go_wp2_with fail
    go_ret
    exact ⟨rfl, HB9.out⟩
  have d4 : decide (64 < c) = false := decide_eq_false hc2
  obtain ⟨c', rfl⟩ : ∃ c' : Nat, c = (c' : Int) := ⟨c.toNat, by omega⟩
  have HC := hid (show 1 ≤ c' ∧ c' ≤ 64 by omega)
  go_wp2_with fail
  refine (layout_good _ S c' w1 HP1.out HG.out HC.out).mono ?_
  rintro r w2 ⟨⟨va, E, rfl, hta, hla, hpa, _⟩, hb2⟩
  have HTA := hid hta
  have HLA := hid hla
  have HPA := hid (fun (e : Te) (he : e ∈ E) => show e.pts.length ≤ maxLen by have := hpa e he; unfold maxLen; omega)
  have HE60 := hid (show E.length ≤ 60 by have := lay_few hla; have := HN.out; omega)
  have HB2 := hid (HB1.out.trans (hb2.mono hs1))
  have HOK := hid (IsLayout.ok HG.out hla)
  clear hta hla hpa hb2
  go_wp2_with fail
  refine (rtls_any va E w2 HTA.out (by have := HE60.out; omega) HPA.out).mono ?_
  rintro r w3 ⟨rfl, hb3⟩
  have HB3 := hid (HB2.out.trans (hb3.mono HB2.out.size))
  have HTA3 := hid (TilesV.still HTA.out hb3)
  clear hb3
  rw [decide_eq_true HOK.out]
  have hmm := made47
  go_upto_region 7 with fail
  refine gen_world (fun W4 hW4 => ?_)
  have HM4 := hid (show MapAt Try.prog W4 39 w3.heap.size 0 (sizeG []) by rw [hW4]; exact MapAt.made w3)
  have HB34 := hid (show Below w3.heap.size w3 W4 by rw [hW4]; exact (Below.refl _ _).alloc (Nat.le_refl _) _)
  have hmb : w3.heap.size < W4.heap.size := by rw [hW4]; simp
  clear hW4
  obtain ⟨⟨a, cap, rfl, hrow⟩, hpv⟩ := HTA3.out
  obtain ⟨q, hq⟩ : ∃ q, q = E.length := ⟨_, rfl⟩
  rw [← hq] at HTA HTA3 ⊢
  have HEN := hid hq
  have hq60 : q ≤ 60 := by rw [hq]; exact HE60.out
  have HROW := hid hrow
  have HPVS := hid hpv
  clear hq hrow hpv
  have HP3 := hid (show PtsV w3 (.slice pa n pc) S from HP.out.still HB3.out)
  have HNIL := hid (show detL (E.map Te.tl) (((0 : Nat) : Int) - 1) = [] by
    unfold detL
    rw [List.flatMap_eq_nil_iff]
    intro t ht
    obtain ⟨h1, h2⟩ := List.mem_filter.1 ht
    have h3 := (HOK.out.all t h1).small.1.1
    have h4 := of_decide_eq_true h2
    omega)
  have HSM := hid (fun u (hu : u ∈ E.map Te.tl) => (HOK.out.all u hu).small)
  go_wp2_with fail
  go_loopw [54] (fun iv W => ∃ i : Nat, i ≤ q ∧ iv = .int .i64 (i : Int) ∧ MapAt Try.prog W 39 w3.heap.size i (sizeG ((E.map Te.tl).take i)) ∧ Below w3.heap.size w3 W ∧ w3.heap.size < W.heap.size) (fun iv _ => q - (intOf iv).toNat)
  case atStart => exact ⟨0, by omega, rfl, HM4.out, HB34.out, hmb⟩
  case round =>
    obtain ⟨i, hi, rfl, hmap, hB, hmw⟩ := hrel
    have HM := hid hmap
    have HB4 := hid hB
    have hz4 := hB.size
    clear hmap hB
    by_cases hlt : i < q
    · have d5 : decide ((i : Int) < (q : Int)) = true := decide_eq_true (by omega)
      obtain ⟨e, he⟩ : ∃ e, E[i]? = some e := ⟨_, List.getElem?_eq_getElem (by rw [← HEN.out]; exact hlt)⟩
      have HTI := hid (show (E.map Te.tl)[i]? = some e.tl by rw [List.getElem?_map, he]; rfl)
      obtain ⟨b, off, hva, hbw, hrows⟩ := HROW.out.resolve_left (fun h => by rw [h] at he; simp at he)
      have hpe := HPVS.out e (List.mem_of_getElem? he)
      have hcs : ∀ y, y < 5 → wr.cell? ⟨b, off + i * 5 + y, none⟩ = e.row[y]? := fun y hy => by
        rw [HB4.out.cell hbw, hrows i e.row (by rw [List.getElem?_map, he]; rfl) y hy]
      clear he hrows hbw
      obtain ⟨⟨k0, k1, k2, k3⟩, ev, P⟩ := e
      obtain ⟨ea, ec, hev, _⟩ := hpe
      obtain rfl : ev = .slice ea P.length ec := hev
      obtain ⟨m, hm⟩ : ∃ m, m = P.length := ⟨_, rfl⟩
      simp only [Te.row, Ky.row, ← hm] at hcs
      have HMP := hid hm
      clear hm
      subst hva
      have a0 : wr.cell? ⟨b, off + i * 5, none⟩ = some (.int .i64 k0) := hcs 0 (by decide)
      have a1 : wr.cell? ⟨b, off + i * 5 + 1, none⟩ = some (.int .i64 k1) := hcs 1 (by decide)
      have a2 : wr.cell? ⟨b, off + i * 5 + 2, none⟩ = some (.int .i64 k2) := hcs 2 (by decide)
      have a3 : wr.cell? ⟨b, off + i * 5 + 3, none⟩ = some (.int .i64 k3) := hcs 3 (by decide)
      have a4 : wr.cell? ⟨b, off + i * 5 + 4, none⟩ = some (.slice ea m ec) := hcs 4 (by decide)
      clear hcs
      have HKEY := hid (show keyOf Try.prog 39 (.agg #[.int .i64 k0, .int .i64 k1, .int .i64 k2, .int .i64 k3]) = some (kLit ⟨k0, k1, k2, k3⟩) from key_lit ⟨k0, k1, k2, k3⟩ (HSM.out ⟨⟨k0, k1, k2, k3⟩, P⟩ (List.mem_of_getElem? HTI.out)))
      go_upto_region 10 with fail
      refine gen_world (fun W5 hW5 => ?_)
      have HT5 := hid (show W5.heap[wr.heap.size]? = some (.cells #[.int .i64 k0, .int .i64 k1, .int .i64 k2, .int .i64 k3, .slice ea m ec] 49) by rw [hW5]; exact heap_alloc_at _ _ _ rfl)
      have hb5 : Below wr.heap.size wr W5 := by rw [hW5]; exact (Below.refl _ _).alloc (Nat.le_refl _) _
      have HBX := hid (HB4.out.trans (hb5.mono hz4))
      have HM5 := hid (HM.out.grow hb5)
      have hmw5 := Nat.lt_of_lt_of_le hmw hb5.size
      clear hW5 hb5 a0 a1 a2 a3 a4 HM
      obtain ⟨g, hg⟩ : ∃ g, g = wr.heap.size := ⟨_, rfl⟩
      rw [← hg] at HT5 ⊢
      clear hg
      have t0 : W5.cell? ⟨g, 0, none⟩ = some (.int .i64 k0) := (cell_row (j := 0) HT5.out).trans rfl
      have t1 : W5.cell? ⟨g, 1, none⟩ = some (.int .i64 k1) := (cell_row (j := 1) HT5.out).trans rfl
      have t2 : W5.cell? ⟨g, 2, none⟩ = some (.int .i64 k2) := (cell_row (j := 2) HT5.out).trans rfl
      have t3 : W5.cell? ⟨g, 3, none⟩ = some (.int .i64 k3) := (cell_row (j := 3) HT5.out).trans rfl
      have t4 : W5.cell? ⟨g, 4, none⟩ = some (.slice ea m ec) := (cell_row (j := 4) HT5.out).trans rfl
      have hml : i < maxLen := by unfold maxLen; omega
      have HPT := hid (show putG (sizeG ((E.map Te.tl).take i)) (kLit ⟨k0, k1, k2, k3⟩) (.int .i64 (m : Int)) = sizeG ((E.map Te.tl).take (i + 1)) by
        rw [HMP.out]
        exact sizeG_put (t := ⟨⟨k0, k1, k2, k3⟩, P⟩) HOK.out.order HSM.out HTI.out)
      go_wp2_with (at_mapUpdate; refine wpList_put rfl (.tmp 58) (.tmp 60) (.tmp 63) 47 rfl law39 Try.underlying47 rfl HM5.out hml (.agg #[.int .i64 k0, .int .i64 k1, .int .i64 k2, .int .i64 k3]) (.int .i64 (m : Int)) (kLit ⟨k0, k1, k2, k3⟩) rfl rfl HKEY.out ?_; intro w8 hm8 hg8)
      rw [HPT.out] at hm8
      have hs8 := hg8.size
      exact ⟨⟨i + 1, by omega, by go_num, hm8, HBX.out.grown hg8 HBX.out.size (fun j hj => by injection hj with hj; omega), by omega⟩, by simp [intOf]; omega⟩
    · obtain rfl : i = q := by omega
      have d5 : decide ((i : Int) < (i : Int)) = false := by simp
      obtain ⟨W6, rfl⟩ : ∃ W6, W6 = wr := ⟨_, rfl⟩
      have HM6 := hid (show MapAt Try.prog W6 39 w3.heap.size i (sizeG (E.map Te.tl)) by
        have := HM.out
        rwa [HEN.out, List.take_of_length_le (by rw [List.length_map]; exact Nat.le_refl _), ← HEN.out] at this)
      have HB36 := HB4
      clear HM HB4
      go_wp2_with fail
      go_loopw [67] (fun jv W => ∃ j : Nat, j ≤ i ∧ jv = .int .i64 (j : Int) ∧ Below W6.heap.size W6 W) (fun jv _ => i - (intOf jv).toNat)
      case atStart => exact ⟨0, by omega, rfl, Below.refl _ _⟩
      case round =>
        obtain ⟨j, hj, rfl, hB⟩ := hrel
        have HB6 := hid hB
        have hz6 := hB.size
        have HB4 := hid (HB36.out.trans (hB.mono hz4))
        clear hB
        by_cases hlt : j < i
        · have d6 : decide ((j : Int) < (i : Int)) = true := decide_eq_true (by omega)
          obtain ⟨e, he⟩ : ∃ e, E[j]? = some e := ⟨_, List.getElem?_eq_getElem (by rw [← HEN.out]; exact hlt)⟩
          have HTI := hid (show (E.map Te.tl)[j]? = some e.tl by rw [List.getElem?_map, he]; rfl)
          obtain ⟨b, off, hva, hbw, hrows⟩ := HROW.out.resolve_left (fun h => by rw [h] at he; simp at he)
          have hpe := HPVS.out e (List.mem_of_getElem? he)
          have hcs : ∀ y, y < 5 → wr.cell? ⟨b, off + j * 5 + y, none⟩ = e.row[y]? := fun y hy => by
            rw [HB4.out.cell hbw, hrows j e.row (by rw [List.getElem?_map, he]; rfl) y hy]
          clear he hrows hbw
          obtain ⟨⟨k0, k1, k2, k3⟩, ev, P⟩ := e
          obtain ⟨ea, ec, hev, _⟩ := hpe
          obtain rfl : ev = .slice ea P.length ec := hev
          obtain ⟨m, hm⟩ : ∃ m, m = P.length := ⟨_, rfl⟩
          simp only [Te.row, Ky.row, ← hm] at hcs
          have HMP := hid hm
          clear hm
          subst hva
          have a0 : wr.cell? ⟨b, off + j * 5, none⟩ = some (.int .i64 k0) := hcs 0 (by decide)
          have a1 : wr.cell? ⟨b, off + j * 5 + 1, none⟩ = some (.int .i64 k1) := hcs 1 (by decide)
          have a2 : wr.cell? ⟨b, off + j * 5 + 2, none⟩ = some (.int .i64 k2) := hcs 2 (by decide)
          have a3 : wr.cell? ⟨b, off + j * 5 + 3, none⟩ = some (.int .i64 k3) := hcs 3 (by decide)
          have a4 : wr.cell? ⟨b, off + j * 5 + 4, none⟩ = some (.slice ea m ec) := hcs 4 (by decide)
          clear hcs
          go_upto_region 15 with fail
          refine gen_world (fun W7 hW7 => ?_)
          have HT7 := hid (show W7.heap[wr.heap.size]? = some (.cells #[.int .i64 k0, .int .i64 k1, .int .i64 k2, .int .i64 k3, .slice ea m ec] 49) by rw [hW7]; exact heap_alloc_at _ _ _ rfl)
          have hb7 : Below wr.heap.size wr W7 := by rw [hW7]; exact (Below.refl _ _).alloc (Nat.le_refl _) _
          have HB7 := hid (HB6.out.trans (hb7.mono hz6))
          clear hW7 hb7 a0 a1 a2 a3 a4
          obtain ⟨g, hg⟩ : ∃ g, g = wr.heap.size := ⟨_, rfl⟩
          rw [← hg] at HT7 ⊢
          clear hg
          have HCAP := hid (fun h : k0 < 12 => show m ≤ c' by
            rw [HMP.out]
            exact lay_cap (goodL_facts HG.out).1 HLA.out (List.mem_of_getElem? HTI.out) h)
          have t0 : W7.cell? ⟨g, 0, none⟩ = some (.int .i64 k0) := (cell_row (j := 0) HT7.out).trans rfl
          have t1 : W7.cell? ⟨g, 1, none⟩ = some (.int .i64 k1) := (cell_row (j := 1) HT7.out).trans rfl
          have t2 : W7.cell? ⟨g, 2, none⟩ = some (.int .i64 k2) := (cell_row (j := 2) HT7.out).trans rfl
          have t3 : W7.cell? ⟨g, 3, none⟩ = some (.int .i64 k3) := (cell_row (j := 3) HT7.out).trans rfl
          by_cases h0 : k0 = 0
          · subst h0
            have HAV := hid (show aboveV 0 k1 k2 k3 = .tuple #[.agg #[.int .i64 0, .int .i64 0, .int .i64 0, .int .i64 0], .int .i64 80] from aboveV_no (Or.inr rfl))
            have dcap : decide ((c' : Int) < (m : Int)) = false := decide_eq_false (by have := HCAP.out (by decide); omega)
            have hcm : ¬ c' < m := by have := HCAP.out (by decide); omega
            go_wp2_with fail
            refine (rAbove_any 0 k1 k2 k3 W7).mono ?_
            rintro r w8 ⟨rfl, hb8⟩
            rw [HAV.out]
            have HT8 := hid (heap_still hb8 HT7.out)
            have HB8 := hid (HB7.out.trans (hb8.mono HB7.out.size))
            clear hb8 t0 t1 t2 t3
            go_upto_region 16 with fail
            refine gen_world (fun W9 hW9 => ?_)
            have hb9 : Below w8.heap.size w8 W9 := by rw [hW9]; exact (Below.refl _ _).alloc (Nat.le_refl _) _
            have HB9 := hid (HB8.out.trans (hb9.mono HB8.out.size))
            have HT9 := hid (heap_still hb9 HT8.out)
            clear hW9 hb9
            have t0 : W9.cell? ⟨g, 0, none⟩ = some (.int .i64 0) := (cell_row (j := 0) HT9.out).trans rfl
            have t4 : W9.cell? ⟨g, 4, none⟩ = some (.slice ea m ec) := (cell_row (j := 4) HT9.out).trans rfl
            go_wp2_with fail
            exact ⟨⟨j + 1, by omega, by go_num, HB9.out⟩, by simp [intOf]; omega⟩
          · obtain ⟨u, hu, hav, hul⟩ := lay_above HG.out HC.out.1 HLA.out (List.mem_of_getElem? HTI.out) h0
            have HUS := hid (HSM.out u hu)
            have HUG := hid (sizeG_at HOK.out.order HSM.out hu)
            rw [hul] at HUG
            clear hu hul
            obtain ⟨⟨u0, u1, u2, u3⟩, U⟩ := u
            have HAV := hid (show aboveV k0 k1 k2 k3 = .tuple #[.agg #[.int .i64 u0, .int .i64 u1, .int .i64 u2, .int .i64 u3], .int .i64 0] from hav)
            clear hav
            go_wp2_with fail
            refine (rAbove_any k0 k1 k2 k3 W7).mono ?_
            rintro r w8 ⟨rfl, hb8⟩
            rw [HAV.out]
            have HT8 := hid (heap_still hb8 HT7.out)
            have HB8 := hid (HB7.out.trans (hb8.mono HB7.out.size))
            clear hb8 t0 t1 t2 t3
            go_upto_region 16 with fail
            refine gen_world (fun W9 hW9 => ?_)
            have hb9 : Below w8.heap.size w8 W9 := by rw [hW9]; exact (Below.refl _ _).alloc (Nat.le_refl _) _
            have HU9 := hid (show W9.heap[w8.heap.size]? = some (.cells #[.int .i64 u0, .int .i64 u1, .int .i64 u2, .int .i64 u3] 39) by rw [hW9]; exact heap_alloc_at _ _ _ rfl)
            have HB9 := hid (HB8.out.trans (hb9.mono HB8.out.size))
            have HT9 := hid (heap_still hb9 HT8.out)
            have HM9 := hid (HM6.out.grow HB9.out)
            clear hW9 hb9
            obtain ⟨g9, hg9⟩ : ∃ g9, g9 = w8.heap.size := ⟨_, rfl⟩
            rw [← hg9] at HU9 ⊢
            clear hg9
            have t0 : W9.cell? ⟨g, 0, none⟩ = some (.int .i64 k0) := (cell_row (j := 0) HT9.out).trans rfl
            have t4 : W9.cell? ⟨g, 4, none⟩ = some (.slice ea m ec) := (cell_row (j := 4) HT9.out).trans rfl
            have v0 : W9.cell? ⟨g9, 0, none⟩ = some (.int .i64 u0) := (cell_row (j := 0) HU9.out).trans rfl
            have v1 : W9.cell? ⟨g9, 1, none⟩ = some (.int .i64 u1) := (cell_row (j := 1) HU9.out).trans rfl
            have v2 : W9.cell? ⟨g9, 2, none⟩ = some (.int .i64 u2) := (cell_row (j := 2) HU9.out).trans rfl
            have v3 : W9.cell? ⟨g9, 3, none⟩ = some (.int .i64 u3) := (cell_row (j := 3) HU9.out).trans rfl
            have hlook := HM9.out.look law39 Try.underlying47 (zero3 W9) (key_lit ⟨u0, u1, u2, u3⟩ HUS.out)
            rw [HUG.out] at hlook
            simp only [Ky.row, Option.getD_some] at hlook
            by_cases hk12 : k0 < 12
            · have d7 : decide (k0 < 12) = true := decide_eq_true hk12
              have dcap : decide ((c' : Int) < (m : Int)) = false := decide_eq_false (by have := HCAP.out hk12; omega)
              have hcm : ¬ c' < m := by have := HCAP.out hk12; omega
              go_wp2_with fail
              exact ⟨⟨j + 1, by omega, by go_num, HB9.out⟩, by simp [intOf]; omega⟩
            · have d7 : decide (k0 < 12) = false := decide_eq_false hk12
              go_wp2_with fail
              exact ⟨⟨j + 1, by omega, by go_num, HB9.out⟩, by simp [intOf]; omega⟩
        · obtain rfl : j = i := by omega
          have d6 : decide ((j : Int) < (j : Int)) = false := by simp
          clear HM6 HB6
          have HB3W := HB4
          clear HB4
          go_wp2_with fail
          go_loopw [14, 15] (fun bv lv W => ∃ l : Nat, l ≤ 13 ∧ lv = .int .i64 (l : Int) ∧ bv = .int .i64 ((detL (E.map Te.tl) ((l : Int) - 1)).length : Int) ∧ Below w3.heap.size w3 W) (fun _ lv _ => 13 - (intOf lv).toNat)
          case atStart => exact ⟨0, by omega, rfl, by rw [HNIL.out]; rfl, HB3W.out⟩
          case round =>
            obtain ⟨l, hl, rfl, rfl, hB⟩ := hrel
            have HBL := hid hB
            have hzl := hB.size
            clear hB
            obtain ⟨bn, hbn⟩ : ∃ bn, bn = (detL (E.map Te.tl) ((l : Int) - 1)).length := ⟨_, rfl⟩
            rw [← hbn]
            have HBN := hid hbn
            clear hbn
            have HTL := hid (TilesV.still HTA3.out HBL.out)
            by_cases hl12 : l ≤ 12
            · have d7 : decide ((l : Int) ≤ 12) = true := decide_eq_true (by omega)
              go_wp2_with fail
              refine (xdetail_any _ E (l : Int) wr HTL.out (by have := HE60.out; omega) HPA.out).mono ?_
              rintro r w5 ⟨⟨d, e, D, rfl, hod, hdr⟩, hb5⟩
              obtain rfl : e = 0 := hdr.err.trans (detErr_ok HOK.out ⟨by omega, by omega⟩)
              have HID := hid (hdr.some rfl)
              have HOD := hid hod
              have HB5 := hid (HBL.out.trans (hb5.mono hzl))
              have hz5 := hb5.size
              clear hdr hod hb5
              obtain ⟨da, dc, rfl⟩ := OwnP.slice HOD.out
              obtain ⟨dn, hdn⟩ : ∃ dn, dn = D.length := ⟨_, rfl⟩
              rw [← hdn] at HOD ⊢
              have HDN := hid hdn
              have HDL := hid (show dn = (detL (E.map Te.tl) ((l : Int) + 1 - 1)).length by rw [hdn, HID.out.perm.length_eq, show (l : Int) + 1 - 1 = (l : Int) by omega])
              have HLE := hid (show bn ≤ dn by
                rw [HBN.out, HDL.out]
                exact detL_mono (by omega))
              have d8 : decide ((dn : Int) < (bn : Int)) = false := decide_eq_false (by have := HLE.out; omega)
              have hnb : ¬ dn < bn := by have := HLE.out; omega
              have hd60 : dn ≤ 100000 := by
                rw [hdn, HID.out.perm.length_eq]
                refine Nat.le_trans (detL_bd _ HOK.out.all) ?_
                rw [List.length_map]
                have := HE60.out
                omega
              clear hdn
              go_wp2_with fail
              go_loopw [122] (fun jv W => ∃ k : Nat, k ≤ dn ∧ jv = .int .i64 (k : Int) ∧ Below w5.heap.size w5 W) (fun jv _ => dn - (intOf jv).toNat)
              case atStart => exact ⟨0, by omega, rfl, Below.refl _ _⟩
              case round =>
                obtain ⟨k, hk, rfl, hB⟩ := hrel
                have HBK := hid hB
                have hzk := hB.size
                clear hB
                by_cases hkd : k < dn
                · have d9 : decide ((k : Int) < (dn : Int)) = true := decide_eq_true (by omega)
                  obtain ⟨p, hp⟩ : ∃ p, D[k]? = some p := ⟨_, List.getElem?_eq_getElem (by rw [← HDN.out]; exact hkd)⟩
                  have HIN := hid (det_in HLA.out HID.out p (List.mem_of_getElem? hp))
                  obtain ⟨gd, gcap, hsl, hgb, hgs, hcells⟩ := OwnP.cells HOD.out (by rw [← HDN.out]; omega)
                  injection hsl with hsl hnn hcap
                  clear hnn hcap
                  subst hsl
                  have hcs : ∀ y, y < 9 → wr.cell? ⟨gd, k * 9 + y, none⟩ = some (.int .i64 (p.f y)) := fun y hy => by
                    rw [HBK.out.cell hgs]
                    exact hcells k p hp y hy
                  clear hp hcells hgb hgs
                  obtain ⟨p0, p1, p2, p3, p4, p5, p6, p7, p8⟩ := p
                  have a0 : wr.cell? ⟨gd, k * 9, none⟩ = some (.int .i64 p0) := hcs 0 (by decide)
                  have a1 : wr.cell? ⟨gd, k * 9 + 1, none⟩ = some (.int .i64 p1) := hcs 1 (by decide)
                  have a2 : wr.cell? ⟨gd, k * 9 + 2, none⟩ = some (.int .i64 p2) := hcs 2 (by decide)
                  have a3 : wr.cell? ⟨gd, k * 9 + 3, none⟩ = some (.int .i64 p3) := hcs 3 (by decide)
                  have a4 : wr.cell? ⟨gd, k * 9 + 4, none⟩ = some (.int .i64 p4) := hcs 4 (by decide)
                  have a5 : wr.cell? ⟨gd, k * 9 + 5, none⟩ = some (.int .i64 p5) := hcs 5 (by decide)
                  have a6 : wr.cell? ⟨gd, k * 9 + 6, none⟩ = some (.int .i64 p6) := hcs 6 (by decide)
                  have a7 : wr.cell? ⟨gd, k * 9 + 7, none⟩ = some (.int .i64 p7) := hcs 7 (by decide)
                  have a8 : wr.cell? ⟨gd, k * 9 + 8, none⟩ = some (.int .i64 p8) := hcs 8 (by decide)
                  clear hcs
                  go_upto_region 30 with fail
                  refine gen_world (fun W7 hW7 => ?_)
                  have HP7 := hid (show W7.heap[wr.heap.size]? = some (.cells #[.int .i64 p0, .int .i64 p1, .int .i64 p2, .int .i64 p3, .int .i64 p4, .int .i64 p5, .int .i64 p6, .int .i64 p7, .int .i64 p8] 36) by rw [hW7]; exact heap_alloc_at _ _ _ rfl)
                  have HB7 := hid (show Below w5.heap.size w5 W7 by rw [hW7]; exact HBK.out.alloc hzk _)
                  clear hW7 a0 a1 a2 a3 a4 a5 a6 a7 a8
                  obtain ⟨g, hg⟩ : ∃ g, g = wr.heap.size := ⟨_, rfl⟩
                  rw [← hg] at HP7 ⊢
                  clear hg
                  have b0 : W7.cell? ⟨g, 0, none⟩ = some (.int .i64 p0) := (cell_row (j := 0) HP7.out).trans rfl
                  have b1 : W7.cell? ⟨g, 1, none⟩ = some (.int .i64 p1) := (cell_row (j := 1) HP7.out).trans rfl
                  have b2 : W7.cell? ⟨g, 2, none⟩ = some (.int .i64 p2) := (cell_row (j := 2) HP7.out).trans rfl
                  have b3 : W7.cell? ⟨g, 3, none⟩ = some (.int .i64 p3) := (cell_row (j := 3) HP7.out).trans rfl
                  have b4 : W7.cell? ⟨g, 4, none⟩ = some (.int .i64 p4) := (cell_row (j := 4) HP7.out).trans rfl
                  have b5 : W7.cell? ⟨g, 5, none⟩ = some (.int .i64 p5) := (cell_row (j := 5) HP7.out).trans rfl
                  have b6 : W7.cell? ⟨g, 6, none⟩ = some (.int .i64 p6) := (cell_row (j := 6) HP7.out).trans rfl
                  have b7 : W7.cell? ⟨g, 7, none⟩ = some (.int .i64 p7) := (cell_row (j := 7) HP7.out).trans rfl
                  have b8 : W7.cell? ⟨g, 8, none⟩ = some (.int .i64 p8) := (cell_row (j := 8) HP7.out).trans rfl
                  have HPW := hid (HP3.out.still (HB5.out.trans (HB7.out.mono HB5.out.size)))
                  go_wp2_with fail
                  refine (among_any _ S ⟨p0, p1, p2, p3, p4, p5, p6, p7, p8⟩ W7 HPW.out HNM.out HIN.out).mono ?_
                  rintro r w8 ⟨rfl, hb8⟩
                  have HB8 := hid (HB7.out.trans (hb8.mono HB7.out.size))
                  clear hb8 b0 b1 b2 b3 b4 b5 b6 b7 b8
                  go_wp2_with fail
                  exact ⟨⟨k + 1, by omega, by go_num, HB8.out⟩, by simp [intOf]; omega⟩
                · obtain rfl : k = dn := by omega
                  have d9 : decide ((k : Int) < (k : Int)) = false := by simp
                  go_wp2_with fail
                  exact ⟨⟨l + 1, by omega, by go_num, by rw [HDL.out]; rfl, HB5.out.trans (HBK.out.mono HB5.out.size)⟩, by simp [intOf]; omega⟩
            · obtain rfl : l = 13 := by omega
              have d7 : decide (((13 : Nat) : Int) ≤ 12) = false := by decide
              go_wp2_with fail
              refine (xdetail_any _ E 12 wr HTL.out (by have := HE60.out; omega) HPA.out).mono ?_
              rintro r w5 ⟨⟨d, e, D, rfl, hod, hdr⟩, hb5⟩
              obtain rfl : e = 0 := hdr.err.trans (detErr_ok HOK.out ⟨by omega, by omega⟩)
              have HID := hid (hdr.some rfl)
              have HOD := hid hod
              have HB5 := hid (HBL.out.trans (hb5.mono hzl))
              clear hdr hod hb5
              have HP5 := hid (HP3.out.still HB5.out)
              go_wp2_with fail
              refine (rsorted_any _ S w5 HP5.out HP0.out (by have := HN.out; omega)).mono ?_
              rintro r w6 ⟨⟨u, rfl, L, hoL, hpL, haL⟩, hb6⟩
              have HB6 := hid (HB5.out.trans (hb6.mono HB5.out.size))
              have HDL := hid (det_all HG.out HLA.out HID.out L hpL haL)
              have HD6 := hid (OwnP.ptsV (OwnR.grow' HOD.out hb6))
              have HL6 := hid (OwnP.ptsV hoL)
              have HL60 := hid (show L.length ≤ 4096 by rw [hpL.length_eq]; have := HN.out; omega)
              clear hoL hpL haL hb6
              rw [HDL.out] at HD6
              go_wp2_with fail
              refine (same_pts d u L w6 HD6.out HL6.out HL60.out).mono ?_
              rintro r w7 ⟨rfl, hb7⟩
              have HB7 := hid (HB6.out.trans (hb7.mono HB6.out.size))
              clear hb7
              go_wp2_with fail
              refine (awake_any _).mono ?_
              rintro r w9 ⟨rfl, hb⟩
              have HB9 := hid (HB3.out.trans ((HB7.out.trans (hb.mono HB7.out.size)).mono HB3.out.size))
              clear hb
              go_wp2_with fail
              go_ret
              exact ⟨rfl, HB9.out⟩
set_option maxRecDepth 100000 in
theorem tileLevels_lifted (os : Os) (started : os.Started) (H : Type) (enc : TypeId × Value → H) :
    ReturnsInHanded {} Try.checked os 6 .any (Rows.tileLevelsSpec.pre6 enc Try.prog Try.f6 Rows.tileLevelsRow.domain false) (Rows.tileLevelsSpec.post enc Try.prog Try.f6 false true false false) := by
  refine law_lifted (C := Try.checked) (tb := 4) lawOwn started (by kernel_rfl) Try.func6 rfl ?_ (show Try.f6.resultTypes = #[4] by kernel_rfl) Try.underlying4 lawLaid ?_
    (ChangeSpec.witness6 (enc := enc) (C := Try.checked) false ⟨#[], #[.slice none 0 0, .int .i64 0], []⟩ 8 (by kernel_rfl) (by kernel_rfl) (by kernel_rfl) (by kernel_rfl)) ?_
  · intro ds hds
    match ds, hds with
    | [d1, d2], _ => exact ⟨rfl, rfl, rfl⟩
  · rw [Try.params6]
    intro t ht
    simp at ht
    rcases ht with rfl | rfl
    all_goals exact ⟨by kernel_rfl, of_decide_eq_true (by kernel_rfl)⟩
  · intro W base args ds p hval hA hlt _
    change DataW.TrodAll enc Try.prog W 0 (fun _ => true) true Try.f6.params.toList args.toList ds p at hA
    change ∀ (j : Nat) t v, Try.f6.params[j]? = some t → args[j]? = some v → Value.okWide Try.prog W .any base t v at hval
    rw [Try.params6] at hA hval
    obtain ⟨v0, vs0, d0, ds0, p0, q0, hargs, rfl, rfl, h0, r0⟩ := trodAll_cons hA
    obtain ⟨v1, vs1, d1, ds1, p1, q1, rfl, rfl, rfl, h1, r1⟩ := trodAll_cons r0
    obtain ⟨rfl, rfl, rfl⟩ := trodAll_nil r1
    obtain rfl : args = #[v0, v1] := by cases args; simp_all
    obtain ⟨S, hS, hS0, hSn⟩ := open_pts (hval 0 22 v0 rfl rfl) h0
    obtain ⟨n, rfl, _, _⟩ := open_int Try.underlying3 (hval 1 3 v1 rfl rfl) h1
    exact levels_law v0 S n W hS hS0 hSn
/-- TileLevels, whatever the input. -/
theorem tileLevels_holds : Rows.TileLevelsSaid :=
  OpenClaim.holds_of_wide 6 Try.f6 rfl rfl rfl rfl rfl rfl rfl ⟨rfl, rfl, rfl, rfl, rfl⟩ rfl rfl rfl rfl rfl (by kernel_rfl) Try.func6 (by kernel_rfl)
    (of_decide_eq_true (by kernel_rfl)) (by unfold Func.isWrapper; rw [if_neg (of_decide_eq_false (by kernel_rfl))]; exact ⟨rfl, rfl⟩)
    (fun os started H enc _ => tileLevels_lifted os started H enc)
#print axioms tileLevels_holds
end Go.Proofs.Yteanlcefdoigcaa
