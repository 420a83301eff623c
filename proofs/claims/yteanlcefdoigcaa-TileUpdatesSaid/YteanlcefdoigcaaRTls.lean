/- The reference finds lists of tiles valid just if they are; and where a point with an Id stands in a list. -/
import Derived.Test.YteanlcefdoigcaaTlsX
namespace Go.Proofs.Yteanlcefdoigcaa
open Go.ChangeShapes Go.WideShapes Go.RowKit Go.Maps Go.Sort

/-- the index of the first point with an Id, or -1 -/
def idxL (P : List Pt) (id : Int) : Int := match P.findIdx? (fun p => p.id == id) with | some i => (i : Int) | none => -1
theorem idxL_hit {P : List Pt} {id : Int} {i : Nat} {p : Pt} (hp : P[i]? = some p) (he : p.id = id) (hn : ∀ q ∈ P.take i, q.id ≠ id) : idxL P id = i := by
  obtain ⟨hi, rfl⟩ := List.getElem?_eq_some_iff.1 hp
  have : P.findIdx? (fun p => p.id == id) = some i := by
    rw [List.findIdx?_eq_some_iff_getElem]
    refine ⟨hi, beq_iff_eq.2 he, fun j hj => ?_⟩
    rw [Bool.not_eq_true, beq_eq_false_iff_ne]
    exact hn _ (by rw [List.mem_iff_getElem?]; exact ⟨j, by rw [List.getElem?_take_of_lt hj]; exact List.getElem?_eq_getElem (by omega)⟩)
  unfold idxL
  rw [this]
theorem idxL_none {P : List Pt} {id : Int} (hn : ∀ q ∈ P, q.id ≠ id) : idxL P id = -1 := by
  have : P.findIdx? (fun p => p.id == id) = none := by
    rw [List.findIdx?_eq_none_iff]
    exact fun x hx => beq_eq_false_iff_ne.2 (hn x hx)
  unfold idxL
  rw [this]
theorem idxL_neg {P : List Pt} {id : Int} : idxL P id < 0 ↔ ∀ q ∈ P, q.id ≠ id := by
  constructor
  · intro h q hq e
    unfold idxL at h
    cases hf : P.findIdx? (fun p => p.id == id) with
    | some i => rw [hf] at h; simp at h; omega
    | none =>
      rw [List.findIdx?_eq_none_iff] at hf
      exact absurd e (by have := hf q hq; simpa using this)
  · intro h
    rw [idxL_none h]
    decide
set_option maxRecDepth 100000 in
set_option maxHeartbeats 1600000 in
theorem rindex_any (v : Value) (P : List Pt) (id : Int) (w : World) (hP : PtsV w v P) (hn : P.length ≤ maxLen) :
    Calls Try.prog 58 #[v, .int .i64 id] w fun r w' => r = .returned (.int .i64 (idxL P id)) ∧ Below w.heap.size w w' := by
  obtain ⟨z, hz⟩ : ∃ z, z = idxL P id := ⟨_, rfl⟩
  rw [← hz]
  have HZ := hid hz
  obtain ⟨a, cap, rfl, hpd⟩ := hP
  obtain ⟨n, hnl⟩ : ∃ n, n = P.length := ⟨_, rfl⟩
  rw [← hnl] at hn ⊢
  have hn63 : n ≤ 9223372036854775807 := by unfold maxLen at hn; omega
  have HN := hid hnl
  have HPD := hid hpd
  clear hz hn hnl hpd
  go_enter Try.func58, Try.ntmps58
  go_wp2_with fail
  go_loopw [8] (fun iv W => ∃ i : Nat, i ≤ n ∧ iv = .int .i64 (i : Int) ∧ (∀ q ∈ P.take i, q.id ≠ id) ∧ Below w.heap.size w W) (fun iv _ => n - (intOf iv).toNat)
  case atStart => exact ⟨0, by omega, rfl, fun q hq => by simp at hq, Below.refl _ _⟩
  case round =>
    obtain ⟨i, hi, rfl, hne, hB⟩ := hrel
    have HNE := hid hne
    have HB := hid hB
    clear hne hB
    by_cases hlt : i < n
    · have d1 : decide ((i : Int) < (n : Int)) = true := decide_eq_true (by omega)
      obtain ⟨p, hp⟩ : ∃ p, P[i]? = some p := ⟨_, List.getElem?_eq_getElem (by rw [← HN.out]; exact hlt)⟩
      have hPn : P ≠ [] := fun h => by rw [h] at hp; simp at hp
      obtain ⟨b, off, rfl, hbw, hrows⟩ := HPD.out.resolve_left hPn
      have c0 : wr.cell? ⟨b, off + i * 9, none⟩ = some (.int .i64 p.id) := by
        rw [HB.out.cell (p := ⟨b, off + i * 9, none⟩) hbw]
        exact (hrows i p.row (by rw [List.getElem?_map, hp]; rfl) 0 (by decide)).trans rfl
      have HPI := hid hp
      clear hp hPn hbw hrows
      by_cases he : p.id = id
      · have HF := hid (show z = (i : Int) by rw [HZ.out]; exact idxL_hit HPI.out he HNE.out)
        have db : (p.id == id) = true := beq_iff_eq.2 he
        clear he
        go_wp2_with fail
        go_ret
        exact ⟨by rw [HF.out]; rfl, HB.out⟩
      · have db : (p.id == id) = false := beq_eq_false_iff_ne.2 he
        have HT := hid (take_next HPI.out)
        have HX := hid he
        clear he
        go_wp2_with fail
        refine ⟨⟨i + 1, by omega, by go_num, ?_, HB.out⟩, by simp [intOf]; omega⟩
        rw [HT.out]
        intro q hq
        rcases List.mem_append.1 hq with g | g
        · exact HNE.out q g
        · obtain rfl := List.mem_singleton.1 g; exact HX.out
    · obtain rfl : i = n := by omega
      have d1 : decide ((i : Int) < (i : Int)) = false := by simp
      have HF := hid (show z = -1 by rw [HZ.out]; exact idxL_none (by have := HNE.out; rwa [HN.out, List.take_length] at this))
      go_wp2_with fail
      go_ret
      exact ⟨by rw [HF.out]; rfl, HB.out⟩
set_option maxRecDepth 100000 in
set_option maxHeartbeats 6400000 in
theorem rtls_any (v : Value) (E : List Te) (w : World) (hT : TilesV w v E) (hl : E.length ≤ 1000000) (hp : ∀ e ∈ E, e.pts.length ≤ maxLen) :
    Calls Try.prog 25 #[v] w fun r w' => r = .returned (.bool (decide (TlsOk (E.map Te.tl)))) ∧ Below w.heap.size w w' := by
  obtain ⟨gv, hgv⟩ : ∃ gv, gv = decide (TlsOk (E.map Te.tl)) := ⟨_, rfl⟩
  rw [← hgv]
  have HNO := hid (fun h : ¬ TlsOk (E.map Te.tl) => show gv = false by rw [hgv]; exact decide_eq_false h)
  have HYES := hid (fun h : TlsOk (E.map Te.tl) => show gv = true by rw [hgv]; exact decide_eq_true h)
  clear hgv
  obtain ⟨⟨a, cap, rfl, hrow⟩, hpv⟩ := hT
  obtain ⟨n, hnl⟩ : ∃ n, n = E.length := ⟨_, rfl⟩
  rw [← hnl] at hl ⊢
  have HN := hid hnl
  have HROW := hid hrow
  have HPVS := hid hpv
  have HPL := hid hp
  clear hnl hrow hpv hp
  go_enter Try.func25, Try.ntmps25
  go_wp2_with fail
  go_loopw [9] (fun iv W => ∃ i : Nat, i ≤ n ∧ iv = .int .i64 (i : Int) ∧ TlsOk ((E.map Te.tl).take i) ∧ Below w.heap.size w W) (fun iv _ => n - (intOf iv).toNat)
  case atStart => exact ⟨0, by omega, rfl, TlsOk.nil, Below.refl _ _⟩
  case round =>
    obtain ⟨i, hi, rfl, hok, hB⟩ := hrel
    have HOK := hid hok
    have HB4 := hid hB
    have hz4 := hB.size
    clear hok hB
    by_cases hlt : i < n
    · have d1 : decide ((i : Int) < (n : Int)) = true := decide_eq_true (by omega)
      obtain ⟨e, he⟩ : ∃ e, E[i]? = some e := ⟨_, List.getElem?_eq_getElem (by rw [← HN.out]; exact hlt)⟩
      have HTI := hid (show (E.map Te.tl)[i]? = some e.tl by rw [List.getElem?_map, he]; rfl)
      have hEn : E ≠ [] := fun h => by rw [h] at he; simp at he
      obtain ⟨b, off, rfl, hbw, hrows⟩ := HROW.out.resolve_left hEn
      have HRW := hid hrows
      have HBW := hid hbw
      have hpe := HPVS.out e (List.mem_of_getElem? he)
      have HPM := hid (HPL.out e (List.mem_of_getElem? he))
      have hcs : ∀ j, j < 5 → wr.cell? ⟨b, off + i * 5 + j, none⟩ = e.row[j]? := fun j hj => by
        rw [HB4.out.cell hbw, hrows i e.row (by rw [List.getElem?_map, he]; rfl) j hj]
      clear he hEn hrows hbw
      obtain ⟨⟨k0, k1, k2, k3⟩, ev, P⟩ := e
      obtain ⟨ea, ec, hev, hpd⟩ := hpe
      obtain rfl : ev = .slice ea P.length ec := hev
      have HPV0 := hid (show PtsV w (.slice ea P.length ec) P from ⟨ea, ec, rfl, hpd⟩)
      have HPD := hid hpd
      have HPMM := hid (show P.length ≤ maxLen from HPM.out)
      clear hpd HPM
      obtain ⟨m, hm⟩ : ∃ m, m = P.length := ⟨_, rfl⟩
      simp only [Te.row, Ky.row, ← hm] at hcs
      simp only [← hm] at HPV0
      have HMP := hid hm
      have HPM := HPMM
      clear hm
      have T0 := fun d os => cell_regrown (show wr.cell? ⟨b, off + i * 5, none⟩ = some (.int .i64 k0) from hcs 0 (by decide)) d os
      have T1 := fun d os => cell_regrown (show wr.cell? ⟨b, off + i * 5 + 1, none⟩ = some (.int .i64 k1) from hcs 1 (by decide)) d os
      have T2 := fun d os => cell_regrown (show wr.cell? ⟨b, off + i * 5 + 2, none⟩ = some (.int .i64 k2) from hcs 2 (by decide)) d os
      have T3 := fun d os => cell_regrown (show wr.cell? ⟨b, off + i * 5 + 3, none⟩ = some (.int .i64 k3) from hcs 3 (by decide)) d os
      have T4 := fun d os => cell_regrown (show wr.cell? ⟨b, off + i * 5 + 4, none⟩ = some (.slice ea m ec) from hcs 4 (by decide)) d os
      have HC0 := hid (hcs 0 (by decide))
      have HC1 := hid (hcs 1 (by decide))
      have HC2 := hid (hcs 2 (by decide))
      have HC3 := hid (hcs 3 (by decide))
      have HV4 := hid (hcs 4 (by decide))
      clear hcs
      have HPV := hid (HPV0.out.still HB4.out)
      have HOC := hid (fun (W : World) => grew_below (Grew.refl W))
      cases htb : decide (TlOk ⟨⟨k0, k1, k2, k3⟩, P⟩)
      · have HF := hid (HNO.out (TlsOk.not_ok HTI.out (of_decide_eq_false htb)))
        have HTC := hid (fun d os => (show Calls Try.prog 56 #[.agg #[.int .i64 k0, .int .i64 k1, .int .i64 k2, .int .i64 k3, .slice ea m ec]] (grow (redrawn wr d) os) fun r w' => r = .returned (.bool false) ∧ Below (grow (redrawn wr d) os).heap.size (grow (redrawn wr d) os) w' from htb ▸ rtile_any ⟨k0, k1, k2, k3⟩ (.slice ea m ec) P (grow (redrawn wr d) os) (HPV.out.still (below_regrown wr d os)) HPM.out))
        clear htb
        go_wp2_with fail
        refine wp_region_quiet_below (by kernel_rfl) (by kernel_rfl) ?_
        repeat (first | go_big_quiet_step ((first | (go_at_call 57; with_reducible exact Calls.regrown_of (HOC.out _)) | (go_at_call 56; with_reducible exact Calls.regrown_of (HTC.out _ _)))) | quiet_step ((first | (go_at_call 57; with_reducible exact Calls.regrown_of (HOC.out _)) | (go_at_call 56; with_reducible exact Calls.regrown_of (HTC.out _ _)))))
        refine wpQuiet_nil ?_
        intro _ hw'
        obtain ⟨⟨dqV, osV⟩, hw2⟩ := hw'
        subst hw2
        have HQV := hid (below_regrown wr dqV osV)
        generalize Sort.grow (redrawn wr dqV) osV = V at HQV ⊢
        have hsV := HQV.out.size
        clear T0 T1 T2 T3 T4
        go_wp2_with fail
        go_ret
        exact ⟨by rw [HF.out]; rfl, HB4.out.trans (HQV.out.mono HB4.out.size)⟩
      · have HTOK := hid (of_decide_eq_true htb)
        have HTC := hid (fun d os => (show Calls Try.prog 56 #[.agg #[.int .i64 k0, .int .i64 k1, .int .i64 k2, .int .i64 k3, .slice ea m ec]] (grow (redrawn wr d) os) fun r w' => r = .returned (.bool true) ∧ Below (grow (redrawn wr d) os).heap.size (grow (redrawn wr d) os) w' from htb ▸ rtile_any ⟨k0, k1, k2, k3⟩ (.slice ea m ec) P (grow (redrawn wr d) os) (HPV.out.still (below_regrown wr d os)) HPM.out))
        clear htb HOC
        by_cases hi0 : i = 0
        · subst hi0
          have HLT := hid (fun (a : Tl) (h : 0 < 0) (_ : (E.map Te.tl)[0 - 1]? = some a) => show a.key.lt ⟨k0, k1, k2, k3⟩ from absurd h (by omega))
          have HNX := hid (TlsOk.next HOK.out HTI.out HTOK.out HLT.out (fun j a hj => absurd hj (by omega)))
          have HOC := hid (fun (W : World) => grew_below (Grew.refl W))
          have S0 := fun d os => cell_regrown (show wr.cell? ⟨b, off, none⟩ = some (.int .i64 k0) by have := HC0.out; rwa [Nat.zero_mul, Nat.add_zero] at this) d os
          have S1 := fun d os => cell_regrown (show wr.cell? ⟨b, off + 1, none⟩ = some (.int .i64 k1) by have := HC1.out; rwa [Nat.zero_mul, Nat.add_zero] at this) d os
          have S2 := fun d os => cell_regrown (show wr.cell? ⟨b, off + 2, none⟩ = some (.int .i64 k2) by have := HC2.out; rwa [Nat.zero_mul, Nat.add_zero] at this) d os
          have S3 := fun d os => cell_regrown (show wr.cell? ⟨b, off + 3, none⟩ = some (.int .i64 k3) by have := HC3.out; rwa [Nat.zero_mul, Nat.add_zero] at this) d os
          have S4 := fun d os => cell_regrown (show wr.cell? ⟨b, off + 4, none⟩ = some (.slice ea m ec) by have := HV4.out; rwa [Nat.zero_mul, Nat.add_zero] at this) d os
          clear T0 T1 T2 T3 T4
          go_wp2_with fail
          refine wp_region_quiet_below (by kernel_rfl) (by kernel_rfl) ?_
          repeat (first | go_big_quiet_step ((first | (go_at_call 57; with_reducible exact Calls.regrown_of (HOC.out _)) | (go_at_call 56; with_reducible exact Calls.regrown_of (HTC.out _ _)))) | quiet_step ((first | (go_at_call 57; with_reducible exact Calls.regrown_of (HOC.out _)) | (go_at_call 56; with_reducible exact Calls.regrown_of (HTC.out _ _)))))
          refine wpQuiet_nil ?_
          intro _ hw'
          obtain ⟨⟨dqV, osV⟩, hw2⟩ := hw'
          subst hw2
          have HQV := hid (below_regrown wr dqV osV)
          generalize Sort.grow (redrawn wr dqV) osV = V at HQV ⊢
          have hsV := HQV.out.size
          clear S0 S1 S2 S3 S4
          have HBV := hid (HB4.out.trans (HQV.out.mono hz4))
          go_wp2_with fail
          refine wp_loop_rounds 1 ?_
          rw [rounds_succ]
          go_wp2_with fail
          exact ⟨⟨1, by omega, by go_num, HNX.out, HBV.out⟩, by simp [intOf]; omega⟩
        · obtain ⟨e, he⟩ : ∃ e, E[i - 1]? = some e := ⟨_, List.getElem?_eq_getElem (by rw [← HN.out]; omega)⟩
          have HEI := hid (show (E.map Te.tl)[i - 1]? = some e.tl by rw [List.getElem?_map, he]; rfl)
          have hes : ∀ j, j < 5 → wr.cell? ⟨b, off + (i - 1) * 5 + j, none⟩ = e.row[j]? := fun j hj => by
            rw [HB4.out.cell HBW.out, HRW.out (i - 1) e.row (by rw [List.getElem?_map, he]; rfl) j hj]
          clear he
          obtain ⟨⟨e0, e1, e2, e3⟩, qv, qp⟩ := e
          simp only [Te.row, Ky.row] at hes
          have b0 := fun d os => cell_regrown (show wr.cell? ⟨b, off + (i - 1) * 5, none⟩ = some (.int .i64 e0) from hes 0 (by decide)) d os
          have b1 := fun d os => cell_regrown (show wr.cell? ⟨b, off + (i - 1) * 5 + 1, none⟩ = some (.int .i64 e1) from hes 1 (by decide)) d os
          have b2 := fun d os => cell_regrown (show wr.cell? ⟨b, off + (i - 1) * 5 + 2, none⟩ = some (.int .i64 e2) from hes 2 (by decide)) d os
          have b3 := fun d os => cell_regrown (show wr.cell? ⟨b, off + (i - 1) * 5 + 3, none⟩ = some (.int .i64 e3) from hes 3 (by decide)) d os
          clear hes
          have dg : decide ((0 : Int) < (i : Int)) = true := decide_eq_true (by omega)
          have dg2 : 0 < i := by omega
          by_cases hlt2 : (⟨e0, e1, e2, e3⟩ : Ky).lt ⟨k0, k1, k2, k3⟩
          · have HOC := hid (show ∀ W, Calls Try.prog 57 #[.agg #[.int .i64 e0, .int .i64 e1, .int .i64 e2, .int .i64 e3], .agg #[.int .i64 k0, .int .i64 k1, .int .i64 k2, .int .i64 k3]] W fun r w' => r = .returned (.bool true) ∧ Below W.heap.size W w' from fun W => decide_eq_true hlt2 ▸ before_any ⟨e0, e1, e2, e3⟩ ⟨k0, k1, k2, k3⟩ W)
            have HLT := hid (fun (a : Tl) (_ : 0 < i) (ha : (E.map Te.tl)[i - 1]? = some a) => show a.key.lt ⟨k0, k1, k2, k3⟩ from (Option.some.inj (HEI.out.symm.trans ha)) ▸ hlt2)
            clear hlt2
            go_wp2_with fail
            refine wp_region_quiet_below (by kernel_rfl) (by kernel_rfl) ?_
            repeat (first | go_big_quiet_step ((first | (go_at_call 57; with_reducible exact Calls.regrown_of (HOC.out _)) | (go_at_call 56; with_reducible exact Calls.regrown_of (HTC.out _ _)))) | quiet_step ((first | (go_at_call 57; with_reducible exact Calls.regrown_of (HOC.out _)) | (go_at_call 56; with_reducible exact Calls.regrown_of (HTC.out _ _)))))
            refine wpQuiet_nil ?_
            intro _ hw'
            obtain ⟨⟨dqV, osV⟩, hw2⟩ := hw'
            subst hw2
            have HQV := hid (below_regrown wr dqV osV)
            generalize Sort.grow (redrawn wr dqV) osV = V at HQV ⊢
            have hsV := HQV.out.size
            clear T0 T1 T2 T3 T4
            clear b0 b1 b2 b3
            have HBV := hid (HB4.out.trans (HQV.out.mono hz4))
            obtain ⟨pb, po, rfl, hpb, hpr⟩ := HPD.out.resolve_left HTOK.out.ne
            have HPR := hid hpr
            have HPB := hid hpb
            have hm1k : m ≤ 1024 := by rw [HMP.out]; exact (goodL_facts HTOK.out.good).2.2
            clear hpr hpb
            have HTC := hid (HV4.out.symm)
            clear HV4 HC0 HC1 HC2 HC3
            have HV4 := hid (show w.cell? ⟨b, off + i * 5 + 4, none⟩ = some (.slice (some ⟨pb, po, none⟩) m ec) by rw [← HB4.out.cell HBW.out]; exact HTC.out.symm)
            clear HTC
            go_wp2_with fail
            go_loopw [4] (fun kv W => ∃ k : Nat, k ≤ i ∧ kv = .int .i64 (k : Int) ∧ (∀ j a, j < k → (E.map Te.tl)[j]? = some a → ∀ p ∈ a.pts, ∀ q ∈ P, p.id ≠ q.id) ∧ Below w.heap.size w W) (fun kv _ => i - (intOf kv).toNat)
            case atStart => exact ⟨0, by omega, rfl, fun j a hj => absurd hj (by omega), HBV.out⟩
            case round =>
              obtain ⟨k, hk, rfl, hap, hB⟩ := hrel
              have HAP := hid hap
              have HB6 := hid hB
              clear hap hB
              by_cases hki : k < i
              · have d2 : decide ((k : Int) < (i : Int)) = true := decide_eq_true (by omega)
                obtain ⟨f, hf⟩ : ∃ f, E[k]? = some f := ⟨_, List.getElem?_eq_getElem (by rw [← HN.out]; omega)⟩
                have HFI := hid (show (E.map Te.tl)[k]? = some f.tl by rw [List.getElem?_map, hf]; rfl)
                have hpf := HPVS.out f (List.mem_of_getElem? hf)
                have HFL := hid (HPL.out f (List.mem_of_getElem? hf))
                have hf4 : w.cell? ⟨b, off + k * 5 + 4, none⟩ = some f.v := HRW.out k f.row (by rw [List.getElem?_map, hf]; rfl) 4 (by decide)
                have HFP := hid hpf
                obtain ⟨fa, fc, hfv, _⟩ := hpf
                rw [hfv] at hf4 HFP
                have HF4 := hid hf4
                clear hf4 hf
                have c4 : wr.cell? ⟨b, off + i * 5 + 4, none⟩ = some (.slice (some ⟨pb, po, none⟩) m ec) := by rw [HB6.out.cell HBW.out]; exact HV4.out
                obtain ⟨fm, hfm⟩ : ∃ fm, fm = f.pts.length := ⟨_, rfl⟩
                rw [← hfm] at HF4 HFP
                clear hfm hfv
                go_wp2_with fail
                clear c4
                go_loopw [48] (fun jv W => ∃ j : Nat, j ≤ m ∧ jv = .int .i64 (j : Int) ∧ (∀ p ∈ f.pts, ∀ q ∈ P.take j, p.id ≠ q.id) ∧ Below w.heap.size w W) (fun jv _ => m - (intOf jv).toNat)
                case atStart => exact ⟨0, by omega, rfl, fun p _ q hq => by simp at hq, HB6.out⟩
                case round =>
                  obtain ⟨j, hj, rfl, haq, hB⟩ := hrel
                  have HAQ := hid haq
                  have HB8 := hid hB
                  have hz8 := hB.size
                  clear haq hB
                  by_cases hjm : j < m
                  · have d3 : decide ((j : Int) < (m : Int)) = true := decide_eq_true (by omega)
                    obtain ⟨p, hp⟩ : ∃ p, P[j]? = some p := ⟨_, List.getElem?_eq_getElem (by rw [← HMP.out]; exact hjm)⟩
                    have hcs : ∀ q, q < 9 → wr.cell? ⟨pb, po + j * 9 + q, none⟩ = some (.int .i64 (p.f q)) := fun q hq => by
                      rw [HB8.out.cell HPB.out, HPR.out j p.row (by rw [List.getElem?_map, hp]; rfl) q hq, Pt.row_at p q hq]
                    have HPI := hid hp
                    clear hp
                    obtain ⟨p0, p1, p2, p3, p4, p5, p6, p7, p8⟩ := p
                    have a0 : wr.cell? ⟨pb, po + j * 9, none⟩ = some (.int .i64 p0) := hcs 0 (by decide)
                    have a1 : wr.cell? ⟨pb, po + j * 9 + 1, none⟩ = some (.int .i64 p1) := hcs 1 (by decide)
                    have a2 : wr.cell? ⟨pb, po + j * 9 + 2, none⟩ = some (.int .i64 p2) := hcs 2 (by decide)
                    have a3 : wr.cell? ⟨pb, po + j * 9 + 3, none⟩ = some (.int .i64 p3) := hcs 3 (by decide)
                    have a4 : wr.cell? ⟨pb, po + j * 9 + 4, none⟩ = some (.int .i64 p4) := hcs 4 (by decide)
                    have a5 : wr.cell? ⟨pb, po + j * 9 + 5, none⟩ = some (.int .i64 p5) := hcs 5 (by decide)
                    have a6 : wr.cell? ⟨pb, po + j * 9 + 6, none⟩ = some (.int .i64 p6) := hcs 6 (by decide)
                    have a7 : wr.cell? ⟨pb, po + j * 9 + 7, none⟩ = some (.int .i64 p7) := hcs 7 (by decide)
                    have a8 : wr.cell? ⟨pb, po + j * 9 + 8, none⟩ = some (.int .i64 p8) := hcs 8 (by decide)
                    clear hcs
                    go_upto_region 12 with fail
                    refine gen_world (fun W7 hW7 => ?_)
                    have HP7 := hid (show W7.heap[wr.heap.size]? = some (.cells #[.int .i64 p0, .int .i64 p1, .int .i64 p2, .int .i64 p3, .int .i64 p4, .int .i64 p5, .int .i64 p6, .int .i64 p7, .int .i64 p8] 36) by rw [hW7]; exact heap_alloc_at _ _ _ rfl)
                    have HB7 := hid (show Below w.heap.size w W7 by rw [hW7]; exact HB8.out.alloc hz8 _)
                    clear hW7 a0 a1 a2 a3 a4 a5 a6 a7 a8
                    obtain ⟨g, hg⟩ : ∃ g, g = wr.heap.size := ⟨_, rfl⟩
                    rw [← hg] at HP7 ⊢
                    clear hg
                    have c0 := fun d os => cell_regrown (show W7.cell? ⟨g, 0, none⟩ = some (.int .i64 p0) from (cell_row (j := 0) HP7.out).trans rfl) d os
                    have c4 := fun d os => cell_regrown (show W7.cell? ⟨b, off + k * 5 + 4, none⟩ = some (.slice fa fm fc) by rw [HB7.out.cell HBW.out]; exact HF4.out) d os
                    obtain ⟨z, hz⟩ : ∃ z, z = idxL f.pts p0 := ⟨_, rfl⟩
                    have HFW := hid (HFP.out.still HB7.out)
                    have HIC := hid (fun d os => (show Calls Try.prog 58 #[.slice fa fm fc, .int .i64 p0] (grow (redrawn W7 d) os) fun r w' => r = .returned (.int .i64 z) ∧ Below (grow (redrawn W7 d) os).heap.size (grow (redrawn W7 d) os) w' from hz ▸ rindex_any (.slice fa fm fc) f.pts p0 (grow (redrawn W7 d) os) (HFW.out.still (below_regrown W7 d os)) HFL.out))
                    have HZ := hid hz
                    clear hz
                    by_cases hz0 : 0 ≤ z
                    · have dz : decide (0 ≤ z) = true := decide_eq_true hz0
                      have HF := hid (HNO.out (by
                        have h1 : ¬ ∀ q ∈ f.pts, q.id ≠ p0 := fun h => by
                          have h2 := idxL_neg.2 h
                          rw [← HZ.out] at h2
                          omega
                        obtain ⟨q, h2⟩ := Classical.not_forall.1 h1
                        obtain ⟨h3, h4⟩ := Classical.not_imp.1 h2
                        exact TlsOk.not_apart hki HFI.out HTI.out h3 (List.mem_of_getElem? HPI.out) (Classical.not_not.1 h4)))
                      go_wp2_with fail
                      refine wp_region_quiet_below (by kernel_rfl) (by kernel_rfl) ?_
                      repeat (first | go_big_quiet_step ((go_at_call 58; with_reducible exact Calls.regrown_of (HIC.out _ _))) | quiet_step ((go_at_call 58; with_reducible exact Calls.regrown_of (HIC.out _ _))))
                      refine wpQuiet_nil ?_
                      intro _ hw'
                      obtain ⟨⟨dqU, osU⟩, hw2⟩ := hw'
                      subst hw2
                      have HQU := hid (below_regrown W7 dqU osU)
                      generalize Sort.grow (redrawn W7 dqU) osU = U at HQU ⊢
                      have hsU := HQU.out.size
                      clear c0 c4
                      go_wp2_with fail
                      go_ret
                      exact ⟨by rw [HF.out]; rfl, HB7.out.trans (HQU.out.mono HB7.out.size)⟩
                    · have dz : decide (0 ≤ z) = false := decide_eq_false hz0
                      have HAN := hid (show ∀ p ∈ f.pts, ∀ q ∈ P.take (j + 1), p.id ≠ q.id by
                        have h1 := idxL_neg.1 (show idxL f.pts p0 < 0 by rw [← HZ.out]; omega)
                        rw [take_next HPI.out]
                        intro p hp q hq
                        rcases List.mem_append.1 hq with g1 | g1
                        · exact HAQ.out p hp q g1
                        · obtain rfl := List.mem_singleton.1 g1
                          exact h1 p hp)
                      go_wp2_with fail
                      refine wp_region_quiet_below (by kernel_rfl) (by kernel_rfl) ?_
                      repeat (first | go_big_quiet_step ((go_at_call 58; with_reducible exact Calls.regrown_of (HIC.out _ _))) | quiet_step ((go_at_call 58; with_reducible exact Calls.regrown_of (HIC.out _ _))))
                      refine wpQuiet_nil ?_
                      intro _ hw'
                      obtain ⟨⟨dqU, osU⟩, hw2⟩ := hw'
                      subst hw2
                      have HQU := hid (below_regrown W7 dqU osU)
                      generalize Sort.grow (redrawn W7 dqU) osU = U at HQU ⊢
                      have hsU := HQU.out.size
                      clear c0 c4
                      have HBU := hid (HB7.out.trans (HQU.out.mono HB7.out.size))
                      go_wp2_with fail
                      exact ⟨⟨j + 1, by omega, by go_num, HAN.out, HBU.out⟩, by simp [intOf]; omega⟩
                  · obtain rfl : j = m := by omega
                    have d3 : decide ((j : Int) < (j : Int)) = false := by simp
                    have HAN := hid (show ∀ l a, l < k + 1 → (E.map Te.tl)[l]? = some a → ∀ p ∈ a.pts, ∀ q ∈ P, p.id ≠ q.id by
                      intro l a hl ha
                      by_cases hlk : l = k
                      · subst hlk
                        obtain rfl := Option.some.inj (HFI.out.symm.trans ha)
                        have := HAQ.out
                        rw [HMP.out, List.take_length] at this
                        exact this
                      · exact HAP.out l a (by omega) ha)
                    go_wp2_with fail
                    exact ⟨⟨k + 1, by omega, by go_num, HAN.out, HB8.out⟩, by simp [intOf]; omega⟩
              · obtain rfl : k = i := by omega
                have d2 : decide ((k : Int) < (k : Int)) = false := by simp
                have HNX := hid (TlsOk.next HOK.out HTI.out HTOK.out (fun a h ha => HLT.out a h ha) HAP.out)
                go_wp2_with fail
                exact ⟨⟨k + 1, by omega, by go_num, HNX.out, HB6.out⟩, by simp [intOf]; omega⟩
          · have HOC := hid (show ∀ W, Calls Try.prog 57 #[.agg #[.int .i64 e0, .int .i64 e1, .int .i64 e2, .int .i64 e3], .agg #[.int .i64 k0, .int .i64 k1, .int .i64 k2, .int .i64 k3]] W fun r w' => r = .returned (.bool false) ∧ Below W.heap.size W w' from fun W => decide_eq_false hlt2 ▸ before_any ⟨e0, e1, e2, e3⟩ ⟨k0, k1, k2, k3⟩ W)
            have HF := hid (HNO.out (TlsOk.not_order dg2 HEI.out HTI.out hlt2))
            clear hlt2
            go_wp2_with fail
            refine wp_region_quiet_below (by kernel_rfl) (by kernel_rfl) ?_
            repeat (first | go_big_quiet_step ((first | (go_at_call 57; with_reducible exact Calls.regrown_of (HOC.out _)) | (go_at_call 56; with_reducible exact Calls.regrown_of (HTC.out _ _)))) | quiet_step ((first | (go_at_call 57; with_reducible exact Calls.regrown_of (HOC.out _)) | (go_at_call 56; with_reducible exact Calls.regrown_of (HTC.out _ _)))))
            refine wpQuiet_nil ?_
            intro _ hw'
            obtain ⟨⟨dqV, osV⟩, hw2⟩ := hw'
            subst hw2
            have HQV := hid (below_regrown wr dqV osV)
            generalize Sort.grow (redrawn wr dqV) osV = V at HQV ⊢
            have hsV := HQV.out.size
            clear T0 T1 T2 T3 T4
            clear b0 b1 b2 b3
            go_wp2_with fail
            go_ret
            exact ⟨by rw [HF.out]; rfl, HB4.out.trans (HQV.out.mono HB4.out.size)⟩
    · obtain rfl : i = n := by omega
      have d1 : decide ((i : Int) < (i : Int)) = false := by simp
      have HF := hid (HYES.out (by have := HOK.out; rwa [HN.out, List.take_of_length_le (by rw [List.length_map]; exact Nat.le_refl _)] at this))
      go_wp2_with fail
      go_ret
      exact ⟨by rw [HF.out]; rfl, HB4.out⟩
end Go.Proofs.Yteanlcefdoigcaa
