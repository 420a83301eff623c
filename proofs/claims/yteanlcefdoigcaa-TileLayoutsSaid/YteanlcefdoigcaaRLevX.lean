/- The reference's levels (99): the walk. -/
import Derived.Test.YteanlcefdoigcaaRLev
import Derived.Test.YteanlcefdoigcaaCell
namespace Go.Proofs.Yteanlcefdoigcaa
open Go.RowKit Go.Sort

theorem flat39l : flatOf Try.prog 10 39 = some [some .i64, some .i64, some .i64, some .i64] := by kernel_rfl
theorem sameL_four (a b c d e f g h : Int) : sameL [.int .i64 a, .int .i64 b, .int .i64 c, .int .i64 d] [.int .i64 e, .int .i64 f, .int .i64 g, .int .i64 h] = (decide (a = e) && (decide (b = f) && (decide (c = g) && decide (d = h)))) := by
  simp only [sameL, sameV, Bool.and_true]
  congr 1
set_option maxRecDepth 100000 in
theorem eqCell (l : Nat) (p q : Pt) (b : Bool) (hb : b = decide (cellK l p = cellK l q)) (W : World) : (Op.equalIn 10000 39 (.agg (cellC l p.x p.y p.zl)) (.agg (cellC l q.x q.y q.zl))).run Try.prog W = .ok b W := by
  have h := equal_struct Try.underlying39 flat39l [.int .i64 (l : Int), .int .i64 (idxV p.x l), .int .i64 (idxV p.y l), .int .i64 (idxV p.zl l)] [.int .i64 (l : Int), .int .i64 (idxV q.x l), .int .i64 (idxV q.y l), .int .i64 (idxV q.zl l)] rfl rfl W
  refine h.trans ?_
  rw [sameL_four, hb]
  congr 1
  rw [Bool.eq_iff_iff]
  simp only [Bool.and_eq_true, decide_eq_true_eq]
  constructor
  · rintro ⟨_, h1, h2, h3⟩
    exact Ky.ext' rfl h1 h2 h3
  · intro h
    exact ⟨trivial, congrArg Ky.x h, congrArg Ky.y h, congrArg Ky.z h⟩
theorem rRank_belowL (id : Int) (w : World) : Calls Try.prog 24 #[.int .i64 id] w fun e w' => e = .returned (.int .u64 (rankV id)) ∧ Below w.heap.size w w' :=
  (rRank_any id w).mono (by rintro r w' ⟨h, rfl⟩; exact ⟨h, Below.refl _ _⟩)
theorem zeros_flat (n : Nat) : (madeCells (Value.int .i64 0).cells (n * 1)).toList = ((List.replicate n (0 : Int)).map iRow).flatten := by
  rw [Nat.mul_one, show (Value.int .i64 0).cells = #[.int .i64 0] from rfl, toList_madeCells_one]
  induction n with
  | zero => rfl
  | succ n ih => rw [List.replicate_succ, List.replicate_succ, List.map_cons, List.flatten_cons, ← ih]; rfl
/-- while the levels are made -1 -/
def FillRel (w : World) (n : Nat) (v iv : Value) (W : World) : Prop := ∃ (k : Nat) (zs : List Int), k ≤ n ∧ iv = .int .i64 (k : Int) ∧ zs.length = n ∧ (∀ j, j < k → zs[j]? = some (-1)) ∧ OwnI W w.heap.size v zs ∧ Below w.heap.size w W
/-- between two levels -/
def LevRel (w : World) (S : List Pt) (c : Nat) (v lv : Value) (W : World) : Prop := ∃ l : Nat, l ≤ 13 ∧ lv = .int .i64 (l : Int) ∧ OwnI W w.heap.size v (S.map (lvOf S c l)) ∧ Below w.heap.size w W
/-- between two points of a level -/
def PtRel (w : World) (S : List Pt) (c l n g : Nat) (v now iv : Value) (W : World) : Prop :=
  ∃ i : Nat, i ≤ n ∧ iv = .int .i64 (i : Int) ∧ OwnI W w.heap.size v (S.map (lvOf S c l)) ∧ OwnI W w.heap.size now ((nowL S c l i).map Int.ofNat) ∧ (∀ b, now.ownBlock = some b → b ≠ g) ∧ Below w.heap.size w W
/-- between two points that are compared with one -/
def CntRel (W0 : World) (S : List Pt) (c l n : Nat) (p : Pt) (cv kv : Value) (W : World) : Prop :=
  ∃ k : Nat, k ≤ n ∧ kv = .int .i64 (k : Int) ∧ cv = .int .i64 (((S.take k).countP (fun q => here S c l q && lessB l p q) : Nat) : Int) ∧ Below W0.heap.size W0 W
/-- while the level's points are marked -/
def MarkRel (w : World) (S : List Pt) (c l m : Nat) (v now tv : Value) (W : World) : Prop :=
  ∃ (t : Nat) (zs : List Int), t ≤ m ∧ tv = .int .i64 (t : Int) ∧ LvAt S c l t zs ∧ OwnI W w.heap.size v zs ∧ OwnI W w.heap.size now ((nowL S c l S.length).map Int.ofNat) ∧ Below w.heap.size w W
theorem count_next {S : List Pt} {k : Nat} {q : Pt} (f : Pt → Bool) (hq : S[k]? = some q) : (S.take (k + 1)).countP f = (S.take k).countP f + if f q = true then 1 else 0 := by
  rw [take_succ' hq, List.countP_append, List.countP_singleton]
set_option maxRecDepth 100000 in
set_option maxHeartbeats 6400000 in
theorem levels_any (pv : Value) (S : List Pt) (c : Nat) (w : World) (hp : PtsV w pv S) (hf : ∀ p ∈ S, p.fine) (hn : S.length ≤ 4096) :
    Calls Try.prog 99 #[pv, .int .i64 c] w fun r w' => (∃ v, r = .returned v ∧ OwnI w' w.heap.size v (S.map (lvOf S c 13))) ∧ Below w.heap.size w w' := by
  obtain ⟨pa, pc, rfl, hpd⟩ := hp
  obtain ⟨n, hnl⟩ : ∃ n, n = S.length := ⟨_, rfl⟩
  rw [← hnl] at hn ⊢
  have HN := hid hnl
  have HPD := hid hpd
  have HF := hid hf
  clear hnl hpd hf
  obtain ⟨i0, hi, hz0, hz1, hz2⟩ := info_parts info3
  have HI := hid hi
  have HZ0 := hid hz0
  have HZ1 := hid hz1
  have HZ2 := hid hz2
  clear hi hz0 hz1 hz2
  go_enter Try.func99, Try.ntmps99
  go_wp2_with (first
    | (refine wpList_make_full _ rfl (.tmp 15) (.tmp 15) 30 rfl w.heap.size 3 i0 (.int .i64 0) 1 Try.underlying30 HI.out HZ0.out HZ1.out .i64 .i64 (n : Int) (n : Int) n rfl rfl rfl rfl (by rw [HZ2.out]; omega) (by unfold maxLen; omega) (Nat.le_refl _) ?_
       intro W1 hown hg
       have HO1 := hid (show OwnI W1 w.heap.size (.slice (some ⟨w.heap.size, 0, none⟩) n n) (List.replicate n 0) from ⟨ints_wide _, by rw [List.length_map, List.length_replicate, ← zeros_flat]; exact hown⟩)
       have HB1 := hid (show Below w.heap.size w W1 from (Below.refl _ _).grown hg (Nat.le_refl _) (fun k hk => by cases hk))
       clear hown hg))
  go_loopw [19] (fun iv W => FillRel w n (.slice (some ⟨w.heap.size, 0, none⟩) n n) iv W) (fun iv _ => n - (intOf iv).toNat)
  case atStart => exact ⟨0, _, by omega, rfl, by simp, fun j h => by omega, HO1.out, HB1.out⟩
  case round =>
    obtain ⟨k, zs, hk, rfl, hzl, hzz, hown, hB⟩ := hrel
    have HOW := hid hown
    have HBW := hid hB
    have HZZ := hid hzz
    have HZL := hid hzl
    clear hown hB hzz hzl
    by_cases hlt : k < n
    · have d1 : decide ((k : Int) < (n : Int)) = true := decide_eq_true (by omega)
      obtain ⟨z1, C, z2, hC, hle, z3, hCs, z4⟩ := own_parts HOW.out
      have HC := hid hC
      have hCn : C.size = n := by rw [hCs, Nat.mul_one]
      clear z1 z2 z3 z4 hC hle hCs
      go_wp2_with (first
        | (refine pt_store1 rfl 3 (.tmp 24) _ rfl w.heap.size k _ rfl rfl rfl rfl HC.out size3 (by omega) ?_))
      exact ⟨⟨k + 1, _, by omega, by go_num, by rw [List.length_set]; exact HZL.out, fun j hj => by
        by_cases hjk : j = k
        · subst hjk
          exact List.getElem?_set_self (by rw [HZL.out]; exact hlt)
        · rw [List.getElem?_set_ne (Ne.symm hjk)]
          exact HZZ.out j (by omega), OwnI.set HOW.out HC.out (by rw [HZL.out]; exact hlt), below_row HBW.out (Nat.le_refl _)⟩, by simp [intOf]; omega⟩
    · obtain rfl : k = n := by omega
      have d1 : decide ((k : Int) < (k : Int)) = false := by simp
      have HO2 := hid (show OwnI wr w.heap.size (.slice (some ⟨w.heap.size, 0, none⟩) k k) (S.map (lvOf S c 0)) by
        have e : zs = S.map (lvOf S c 0) := by
          refine List.ext_getElem? fun j => ?_
          have hkS := HN.out
          by_cases hj : j < k
          · rw [HZZ.out j hj, List.getElem?_map, List.getElem?_eq_getElem (by omega)]
            rfl
          · rw [List.getElem?_eq_none (by rw [HZL.out]; omega), List.getElem?_eq_none (by rw [List.length_map]; omega)]
        rw [← e]
        exact HOW.out)
      go_wp2_with fail
      go_loopw [7] (fun lv W => LevRel w S c (.slice (some ⟨w.heap.size, 0, none⟩) k k) lv W) (fun lv _ => 13 - (intOf lv).toNat)
      case atStart => exact ⟨0, by omega, rfl, HO2.out, HBW.out⟩
      case round =>
        obtain ⟨l, hl, rfl, hown, hB⟩ := hrel
        have HLW := hid hown
        have HBL := hid hB
        clear hown hB
        by_cases hl12 : l ≤ 12
        · have d2 : decide ((l : Int) ≤ 12) = true := decide_eq_true (by omega)
          go_wp2_with fail
          go_loopw [8, 32] (fun now iv W => PtRel w S c l k w.heap.size (.slice (some ⟨w.heap.size, 0, none⟩) k k) now iv W) (fun _ iv _ => k - (intOf iv).toNat)
          case atStart => exact ⟨0, by omega, rfl, HLW.out, OwnR.nil _ _ _ _, fun b h => (by cases h), HBL.out⟩
          case round =>
            obtain ⟨i, hi, rfl, hown, hnow, hap, hB⟩ := hrel
            have HOI := hid hown
            have HAP := hid hap
            have HBI := hid hB
            have hzi := hB.size
            obtain ⟨na, ncap, hns⟩ := OwnR.slice hnow
            have hnl : (nowL S c l i).length ≤ 4096 := Nat.le_trans (nowL_len S c l i) (by omega)
            rw [List.length_map, List.length_map] at hns
            obtain ⟨nn, hnn⟩ : ∃ nn, nn = (nowL S c l i).length := ⟨_, rfl⟩
            rw [← hnn] at hns hnl
            have HNN := hid hnn
            subst hns
            have HNOW := hid hnow
            clear hown hap hB hnow hnn
            by_cases hlt2 : i < k
            · have d3 : decide ((i : Int) < (k : Int)) = true := decide_eq_true (by omega)
              have hiS : i < S.length := by rw [← HN.out]; exact hlt2
              obtain ⟨p, hp⟩ : ∃ p, S[i]? = some p := ⟨_, List.getElem?_eq_getElem hiS⟩
              have HP := hid hp
              have hSne : S ≠ [] := fun e => by rw [e] at hp; simp at hp
              obtain ⟨pb, po, rfl, hpb, hpr⟩ := HPD.out.resolve_left hSne
              have HPR := hid hpr
              have HPB := hid hpb
              have c5 : wr.cell? ⟨w.heap.size, i, none⟩ = some (.int .i64 (lvOf S c l p)) := (OwnI.cells HOI.out).2.2.2 i _ (by rw [List.getElem?_map, hp]; rfl)
              have hneg := lvOf_neg S c p l
              clear hp hSne hpr hpb hiS
              cases hh : here S c l p
              · have HSEL := hid (show sel S c l p = false by unfold sel; rw [hh]; rfl)
                rw [hh] at hneg
                generalize lvOf S c l p = z at c5 hneg
                have d4 : decide (0 ≤ z) = true := decide_eq_true (by simp at hneg; omega)
                clear hneg hh
                go_wp2_with fail
                exact ⟨⟨i + 1, by omega, by go_num, HOI.out, by rw [nowL_no HP.out HSEL.out]; exact HNOW.out, HAP.out, HBI.out⟩, by simp [intOf]; omega⟩
              · have HH := hid hh
                rw [hh] at hneg
                generalize lvOf S c l p = z at c5 hneg
                have d4 : decide (0 ≤ z) = false := decide_eq_false (by simp at hneg; omega)
                clear hneg hh
                go_wp2_with fail
                refine gen_world (fun W4 hW4 => ?_)
                subst hW4
                go_loopw [10, 42] (fun cv kv W => CntRel W4 S c l k p cv kv W) (fun _ kv _ => k - (intOf kv).toNat)
                case atStart => exact ⟨0, by omega, rfl, by simp, Below.refl _ _⟩
                case round =>
                  obtain ⟨j, hj, rfl, hcv, hB⟩ := hrel
                  obtain ⟨m, hm⟩ : ∃ m, m = (S.take j).countP (fun q => here S c l q && lessB l p q) := ⟨_, rfl⟩
                  rw [← hm] at hcv
                  subst hcv
                  have HM := hid hm
                  have HB4 := hid hB
                  have hmk : m ≤ 4096 := by
                    rw [hm]
                    refine Nat.le_trans List.countP_le_length ?_
                    rw [List.length_take]
                    omega
                  have hz4 := hB.size
                  clear hm hB
                  by_cases hjk : j < k
                  · have d5 : decide ((j : Int) < (k : Int)) = true := decide_eq_true (by omega)
                    have hjS : j < S.length := by rw [← HN.out]; exact hjk
                    obtain ⟨q, hq⟩ : ∃ q, S[j]? = some q := ⟨_, List.getElem?_eq_getElem hjS⟩
                    have HQ := hid hq
                    have HCN := hid (count_next (fun q => here S c l q && lessB l p q) hq)
                    have c6 := fun d os => cell_regrown (show wr.cell? ⟨w.heap.size, j, none⟩ = some (.int .i64 (lvOf S c l q)) from (OwnI.cells (OwnR.grow' HOI.out HB4.out)).2.2.2 j _ (by rw [List.getElem?_map, hq]; rfl)) d os
                    have hneg := lvOf_neg S c q l
                    have HBW2 := hid (HBI.out.trans (HB4.out.mono hzi))
                    clear hq hjS
                    cases hh : here S c l q
                    · rw [hh] at hneg
                      generalize lvOf S c l q = y at c6 hneg
                      have d6 : decide (y < 0) = false := decide_eq_false (by simp at hneg; omega)
                      have HH2 := hid hh
                      clear hneg hh
                      go_wp2_with fail
                      refine wp_region_quiet_below (by kernel_rfl) (by kernel_rfl) ?_
                      repeat (first | go_big_quiet_step (fail) | quiet_step (fail))
                      refine wpQuiet_nil ?_
                      intro _ hw'
                      obtain ⟨⟨dqV, osV⟩, hw2⟩ := hw'
                      subst hw2
                      have HQV := hid (below_regrown wr dqV osV)
                      generalize Sort.grow (redrawn wr dqV) osV = V at HQV ⊢
                      have hsV := HQV.out.size
                      have HB5 := hid (HB4.out.trans (HQV.out.mono hz4))
                      clear c6
                      go_wp2_with fail
                      exact ⟨⟨j + 1, by omega, by go_num, by rw [HCN.out, ← HM.out]; simp [HH2.out], HB5.out⟩, by simp [intOf]; omega⟩
                    · rw [hh] at hneg
                      generalize lvOf S c l q = y at c6 hneg
                      have d6 : decide (y < 0) = true := decide_eq_true (by simp at hneg; omega)
                      have HH2 := hid hh
                      clear hneg hh
                      have HCQ := hid (fun W => rCell_any q.id q.x q.y q.zl q.zh q.wd q.nm q.of q.cl l hl12 (HF.out q (List.mem_of_getElem? HQ.out)).2.1 (HF.out q (List.mem_of_getElem? HQ.out)).2.2.1 (HF.out q (List.mem_of_getElem? HQ.out)).2.2.2 W)
                      have HCP := hid (fun W => rCell_any p.id p.x p.y p.zl p.zh p.wd p.nm p.of p.cl l hl12 (HF.out p (List.mem_of_getElem? HP.out)).2.1 (HF.out p (List.mem_of_getElem? HP.out)).2.2.1 (HF.out p (List.mem_of_getElem? HP.out)).2.2.2 W)
                      have heq := fun b hb W => eqCell l q p b hb W
                      have hcq : ∀ e, e < 9 → wr.cell? ⟨pb, po + j * 9 + e, none⟩ = some (.int .i64 (q.f e)) := fun e he => by
                        rw [HBW2.out.cell HPB.out, HPR.out j q.row (by rw [List.getElem?_map, HQ.out]; rfl) e he, Pt.row_at q e he]
                      have hcp : ∀ e, e < 9 → wr.cell? ⟨pb, po + i * 9 + e, none⟩ = some (.int .i64 (p.f e)) := fun e he => by
                        rw [HBW2.out.cell HPB.out, HPR.out i p.row (by rw [List.getElem?_map, HP.out]; rfl) e he, Pt.row_at p e he]
                      have HLB := hid (show lessB l p q = (decide (cellK l q = cellK l p) && decide (rankV q.id < rankV p.id)) from rfl)
                      generalize hsb : decide (cellK l q = cellK l p) = sb at HLB
                      have heq2 := heq sb hsb.symm
                      clear heq hsb
                      obtain ⟨q0, q1, q2, q3, q4, q5, q6, q7, q8⟩ := q
                      obtain ⟨p0, p1, p2, p3, p4, p5, p6, p7, p8⟩ := p
                      have ea := HCQ
                      simp only at heq2 HCQ HCP HLB
                      have a0 := fun d os => cell_regrown (show wr.cell? ⟨pb, po + j * 9, none⟩ = some (.int .i64 q0) from hcq 0 (by decide)) d os
                      have a1 := fun d os => cell_regrown (show wr.cell? ⟨pb, po + j * 9 + 1, none⟩ = some (.int .i64 q1) from hcq 1 (by decide)) d os
                      have a2 := fun d os => cell_regrown (show wr.cell? ⟨pb, po + j * 9 + 2, none⟩ = some (.int .i64 q2) from hcq 2 (by decide)) d os
                      have a3 := fun d os => cell_regrown (show wr.cell? ⟨pb, po + j * 9 + 3, none⟩ = some (.int .i64 q3) from hcq 3 (by decide)) d os
                      have a4 := fun d os => cell_regrown (show wr.cell? ⟨pb, po + j * 9 + 4, none⟩ = some (.int .i64 q4) from hcq 4 (by decide)) d os
                      have a5 := fun d os => cell_regrown (show wr.cell? ⟨pb, po + j * 9 + 5, none⟩ = some (.int .i64 q5) from hcq 5 (by decide)) d os
                      have a6 := fun d os => cell_regrown (show wr.cell? ⟨pb, po + j * 9 + 6, none⟩ = some (.int .i64 q6) from hcq 6 (by decide)) d os
                      have a7 := fun d os => cell_regrown (show wr.cell? ⟨pb, po + j * 9 + 7, none⟩ = some (.int .i64 q7) from hcq 7 (by decide)) d os
                      have a8 := fun d os => cell_regrown (show wr.cell? ⟨pb, po + j * 9 + 8, none⟩ = some (.int .i64 q8) from hcq 8 (by decide)) d os
                      have b0 := fun d os => cell_regrown (show wr.cell? ⟨pb, po + i * 9, none⟩ = some (.int .i64 p0) from hcp 0 (by decide)) d os
                      have b1 := fun d os => cell_regrown (show wr.cell? ⟨pb, po + i * 9 + 1, none⟩ = some (.int .i64 p1) from hcp 1 (by decide)) d os
                      have b2 := fun d os => cell_regrown (show wr.cell? ⟨pb, po + i * 9 + 2, none⟩ = some (.int .i64 p2) from hcp 2 (by decide)) d os
                      have b3 := fun d os => cell_regrown (show wr.cell? ⟨pb, po + i * 9 + 3, none⟩ = some (.int .i64 p3) from hcp 3 (by decide)) d os
                      have b4 := fun d os => cell_regrown (show wr.cell? ⟨pb, po + i * 9 + 4, none⟩ = some (.int .i64 p4) from hcp 4 (by decide)) d os
                      have b5 := fun d os => cell_regrown (show wr.cell? ⟨pb, po + i * 9 + 5, none⟩ = some (.int .i64 p5) from hcp 5 (by decide)) d os
                      have b6 := fun d os => cell_regrown (show wr.cell? ⟨pb, po + i * 9 + 6, none⟩ = some (.int .i64 p6) from hcp 6 (by decide)) d os
                      have b7 := fun d os => cell_regrown (show wr.cell? ⟨pb, po + i * 9 + 7, none⟩ = some (.int .i64 p7) from hcp 7 (by decide)) d os
                      have b8 := fun d os => cell_regrown (show wr.cell? ⟨pb, po + i * 9 + 8, none⟩ = some (.int .i64 p8) from hcp 8 (by decide)) d os
                      clear hcq hcp ea
                      cases sb
                      · go_wp2_with fail
                        refine wp_region_quiet_below (by kernel_rfl) (by kernel_rfl) ?_
                        repeat (first | go_big_quiet_step ((first | (go_at_call 53; with_reducible exact Calls.regrown_of (HCQ.out _)) | (go_at_call 53; with_reducible exact Calls.regrown_of (HCP.out _)) | (go_at_call 24; exact Calls.regrown_of (rRank_belowL _ _)))) | quiet_step ((first | (go_at_call 53; with_reducible exact Calls.regrown_of (HCQ.out _)) | (go_at_call 53; with_reducible exact Calls.regrown_of (HCP.out _)) | (go_at_call 24; exact Calls.regrown_of (rRank_belowL _ _)))))
                        refine wpQuiet_nil ?_
                        intro _ hw'
                        obtain ⟨⟨dqV, osV⟩, hw2⟩ := hw'
                        subst hw2
                        have HQV := hid (below_regrown wr dqV osV)
                        generalize Sort.grow (redrawn wr dqV) osV = V at HQV ⊢
                        have hsV := HQV.out.size
                        have HB5 := hid (HB4.out.trans (HQV.out.mono hz4))
                        clear c6 a0 b0 a1 b1 a2 b2 a3 b3 a4 b4 a5 b5 a6 b6 a7 b7 a8 b8 heq2
                        go_wp2_with fail
                        exact ⟨⟨j + 1, by omega, by go_num, by rw [HCN.out, ← HM.out]; simp [HLB.out], HB5.out⟩, by simp [intOf]; omega⟩
                      · by_cases hrk : rankV q0 < rankV p0
                        · have d7 : decide (rankV q0 < rankV p0) = true := decide_eq_true hrk
                          go_wp2_with fail
                          refine wp_region_quiet_below (by kernel_rfl) (by kernel_rfl) ?_
                          repeat (first | go_big_quiet_step ((first | (go_at_call 53; with_reducible exact Calls.regrown_of (HCQ.out _)) | (go_at_call 53; with_reducible exact Calls.regrown_of (HCP.out _)) | (go_at_call 24; exact Calls.regrown_of (rRank_belowL _ _)))) | quiet_step ((first | (go_at_call 53; with_reducible exact Calls.regrown_of (HCQ.out _)) | (go_at_call 53; with_reducible exact Calls.regrown_of (HCP.out _)) | (go_at_call 24; exact Calls.regrown_of (rRank_belowL _ _)))))
                          refine wpQuiet_nil ?_
                          intro _ hw'
                          obtain ⟨⟨dqV, osV⟩, hw2⟩ := hw'
                          subst hw2
                          have HQV := hid (below_regrown wr dqV osV)
                          generalize Sort.grow (redrawn wr dqV) osV = V at HQV ⊢
                          have hsV := HQV.out.size
                          have HB5 := hid (HB4.out.trans (HQV.out.mono hz4))
                          clear c6 a0 b0 a1 b1 a2 b2 a3 b3 a4 b4 a5 b5 a6 b6 a7 b7 a8 b8 heq2
                          go_wp2_with fail
                          exact ⟨⟨j + 1, by omega, by go_num, by rw [HCN.out, ← HM.out]; simp [HLB.out, HH2.out, hrk], HB5.out⟩, by simp [intOf]; omega⟩
                        · have d7 : decide (rankV q0 < rankV p0) = false := decide_eq_false hrk
                          go_wp2_with fail
                          refine wp_region_quiet_below (by kernel_rfl) (by kernel_rfl) ?_
                          repeat (first | go_big_quiet_step ((first | (go_at_call 53; with_reducible exact Calls.regrown_of (HCQ.out _)) | (go_at_call 53; with_reducible exact Calls.regrown_of (HCP.out _)) | (go_at_call 24; exact Calls.regrown_of (rRank_belowL _ _)))) | quiet_step ((first | (go_at_call 53; with_reducible exact Calls.regrown_of (HCQ.out _)) | (go_at_call 53; with_reducible exact Calls.regrown_of (HCP.out _)) | (go_at_call 24; exact Calls.regrown_of (rRank_belowL _ _)))))
                          refine wpQuiet_nil ?_
                          intro _ hw'
                          obtain ⟨⟨dqV, osV⟩, hw2⟩ := hw'
                          subst hw2
                          have HQV := hid (below_regrown wr dqV osV)
                          generalize Sort.grow (redrawn wr dqV) osV = V at HQV ⊢
                          have hsV := HQV.out.size
                          have HB5 := hid (HB4.out.trans (HQV.out.mono hz4))
                          clear c6 a0 b0 a1 b1 a2 b2 a3 b3 a4 b4 a5 b5 a6 b6 a7 b7 a8 b8 heq2
                          go_wp2_with fail
                          exact ⟨⟨j + 1, by omega, by go_num, by rw [HCN.out, ← HM.out, if_neg (fun e => by simp [HLB.out] at e; omega)]; simp, HB5.out⟩, by simp [intOf]; omega⟩
                  · obtain rfl : j = k := by omega
                    have d5 : decide ((j : Int) < (j : Int)) = false := by simp
                    have hkS := HN.out
                    have HTK := hid (show takes S c l p = (decide (l = 12) || decide (m < c)) by
                      rw [HM.out, hkS, List.take_length]
                      rfl)
                    clear hkS
                    by_cases hmc : m < c
                    · have d6 : decide ((m : Int) < (c : Int)) = true := decide_eq_true (by omega)
                      have HSEL := hid (show sel S c l p = true by unfold sel; rw [HTK.out, HH.out]; simp [hmc])
                      go_upto_region 23 with fail
                      have HW5 := hid (show Below W4.heap.size W4 (wr.alloc (.cells #[.int .i64 (i : Int)] 3)) from HB4.out.alloc HB4.out.size _)
                      have HNW5 := hid (OwnR.grow' HNOW.out HW5.out)
                      have HOW5 := hid (OwnR.grow' HOI.out HW5.out)
                      have HRW5 := hid (show RowsAt (wr.alloc (.cells #[.int .i64 (i : Int)] 3)) wr.heap.size 0 1 [iRow (i : Int)] from RowsAt.one (heap_alloc_at _ _ _ rfl))
                      have HL5 := hid (show (((nowL S c l i).map Int.ofNat).map iRow).length + 1 ≤ maxLen by rw [List.length_map, List.length_map, ← HNN.out]; unfold maxLen; omega)
                      have HL6 := hid (show ((((nowL S c l i).map Int.ofNat).map iRow).length + 1) * 8 ≤ 140737488355328 by rw [List.length_map, List.length_map, ← HNN.out]; omega)
                      have HS5 := hid (show w.heap.size ≤ (wr.alloc (.cells #[.int .i64 (i : Int)] 3)).heap.size by simp; omega)
                      go_wp2_with (first
                        | (at_builtin
                           refine wpList_append_rows rfl (.tmp 90) (.tmp 92) 30 rfl w.heap.size 3 i0 _ 1 8 Try.underlying30 HI.out HZ0.out HZ1.out HZ2.out rfl (by decide) (.slice na nn ncap) _ [iRow (i : Int)] rfl HNW5.out wr.heap.size 0 1 1 rfl rfl HRW5.out (Wide.one rfl (iRow_one _)) HL5.out HL6.out HS5.out ?_
                           intro v6 W6 hown6 hg6 halt6
                           have HO6 := hid hown6
                           have HG6 := hid hg6
                           have HA6 := hid halt6
                           clear hown6 hg6 halt6))
                      exact ⟨⟨i + 1, by omega, by go_num, OwnR.turned HOW5.out (turned_grown HG6.out) (fun b hb e => HAP.out b e.symm (by injection hb with hb; exact hb.symm)), (by
                        rw [nowL_yes HP.out HSEL.out, List.map_append]
                        unfold OwnI
                        rw [List.map_append]
                        exact HO6.out), (fun b hb e => by
                        rcases HA6.out with h | h
                        · rw [h] at hb
                          exact HAP.out b hb e
                        · rw [h] at hb
                          injection hb with hb
                          simp at hb
                          have := (OwnI.cells HOI.out).2.1
                          omega), (HBI.out.trans (HW5.out.mono hzi)).grown HG6.out HS5.out (fun q hq => OwnR.ownBlock HNW5.out q hq)⟩, by simp [intOf]; omega⟩
                    · have d6 : decide ((m : Int) < (c : Int)) = false := decide_eq_false (by omega)
                      by_cases hl2 : l = 12
                      · have d7 : ((l : Int) == 12) = true := by simp; omega
                        have HSEL := hid (show sel S c l p = true by unfold sel; rw [HTK.out, HH.out]; simp [hl2])
                        clear hl2
                        go_upto_region 23 with fail
                        have HW5 := hid (show Below W4.heap.size W4 (wr.alloc (.cells #[.int .i64 (i : Int)] 3)) from HB4.out.alloc HB4.out.size _)
                        have HNW5 := hid (OwnR.grow' HNOW.out HW5.out)
                        have HOW5 := hid (OwnR.grow' HOI.out HW5.out)
                        have HRW5 := hid (show RowsAt (wr.alloc (.cells #[.int .i64 (i : Int)] 3)) wr.heap.size 0 1 [iRow (i : Int)] from RowsAt.one (heap_alloc_at _ _ _ rfl))
                        have HL5 := hid (show (((nowL S c l i).map Int.ofNat).map iRow).length + 1 ≤ maxLen by rw [List.length_map, List.length_map, ← HNN.out]; unfold maxLen; omega)
                        have HL6 := hid (show ((((nowL S c l i).map Int.ofNat).map iRow).length + 1) * 8 ≤ 140737488355328 by rw [List.length_map, List.length_map, ← HNN.out]; omega)
                        have HS5 := hid (show w.heap.size ≤ (wr.alloc (.cells #[.int .i64 (i : Int)] 3)).heap.size by simp; omega)
                        go_wp2_with (first
                          | (at_builtin
                             refine wpList_append_rows rfl (.tmp 90) (.tmp 92) 30 rfl w.heap.size 3 i0 _ 1 8 Try.underlying30 HI.out HZ0.out HZ1.out HZ2.out rfl (by decide) (.slice na nn ncap) _ [iRow (i : Int)] rfl HNW5.out wr.heap.size 0 1 1 rfl rfl HRW5.out (Wide.one rfl (iRow_one _)) HL5.out HL6.out HS5.out ?_
                             intro v6 W6 hown6 hg6 halt6
                             have HO6 := hid hown6
                             have HG6 := hid hg6
                             have HA6 := hid halt6
                             clear hown6 hg6 halt6))
                        exact ⟨⟨i + 1, by omega, by go_num, OwnR.turned HOW5.out (turned_grown HG6.out) (fun b hb e => HAP.out b e.symm (by injection hb with hb; exact hb.symm)), (by
                          rw [nowL_yes HP.out HSEL.out, List.map_append]
                          unfold OwnI
                          rw [List.map_append]
                          exact HO6.out), (fun b hb e => by
                          rcases HA6.out with h | h
                          · rw [h] at hb
                            exact HAP.out b hb e
                          · rw [h] at hb
                            injection hb with hb
                            simp at hb
                            have := (OwnI.cells HOI.out).2.1
                            omega), (HBI.out.trans (HW5.out.mono hzi)).grown HG6.out HS5.out (fun q hq => OwnR.ownBlock HNW5.out q hq)⟩, by simp [intOf]; omega⟩
                      · have d7 : ((l : Int) == 12) = false := by simp; omega
                        have HSEL := hid (show sel S c l p = false by unfold sel; rw [HTK.out, HH.out]; simp [hmc, hl2])
                        go_wp2_with fail
                        exact ⟨⟨i + 1, by omega, by go_num, OwnR.grow' HOI.out HB4.out, by rw [nowL_no HP.out HSEL.out]; exact OwnR.grow' HNOW.out HB4.out, HAP.out, HBI.out.trans (HB4.out.mono hzi)⟩, by simp [intOf]; omega⟩
            · obtain rfl : i = k := by omega
              have d3 : decide ((i : Int) < (i : Int)) = false := by simp
              go_wp2_with fail
              have HNS := hid (show nowL S c l i = nowL S c l S.length by rw [← HN.out])
              go_loopw [97] (fun tv W => MarkRel w S c l nn (.slice (some ⟨w.heap.size, 0, none⟩) i i) (.slice na nn ncap) tv W) (fun tv _ => nn - (intOf tv).toNat)
              case atStart => exact ⟨0, _, by omega, rfl, LvAt.start rfl, HOI.out, HNS.out ▸ HNOW.out, HBI.out⟩
              case round =>
                obtain ⟨s, zs, hs, rfl, hlv, hown, hnow, hB⟩ := hrel
                have HLV := hid hlv
                have HOM := hid hown
                have HNM := hid hnow
                have HBM := hid hB
                clear hlv hown hnow hB
                by_cases hlt3 : s < nn
                · have d4 : decide ((s : Int) < (nn : Int)) = true := decide_eq_true (by omega)
                  obtain ⟨j, hj⟩ : ∃ j, (nowL S c l S.length)[s]? = some j := ⟨_, List.getElem?_eq_getElem (by rw [← HNS.out, ← HNN.out]; exact hlt3)⟩
                  have HJ := hid hj
                  have hjn : j < i := by
                    have := List.mem_of_getElem? hj
                    simp [nowL] at this
                    have hq := HN.out
                    omega
                  obtain ⟨nb, ncap', ncur, hns, hnB, hnc, hnr, _⟩ := OwnR.rows HNM.out (by rw [List.length_map, List.length_map, ← HNS.out, ← HNN.out]; omega)
                  obtain ⟨rfl, rfl⟩ : na = some ⟨nb, 0, none⟩ ∧ ncap = ncap' := by injection hns with e1 e2 e3; exact ⟨e1, e3⟩
                  have c7 : wr.cell? ⟨nb, s, none⟩ = some (.int .i64 (j : Int)) := by
                    have := hnr s (iRow (j : Int)) (by rw [List.getElem?_map, List.getElem?_map, hj]; rfl) 0 (by decide)
                    rw [Nat.mul_one, Nat.zero_add, Nat.add_zero] at this
                    exact this
                  obtain ⟨z1, C, z2, hC, hle, z3, hCs, z4⟩ := own_parts HOM.out
                  have HC := hid hC
                  have hCn : C.size = i := by rw [hCs, Nat.mul_one]
                  clear z1 z2 z3 z4 hC hle hCs hns hnB hnc hnr hj
                  go_wp2_with (first
                    | (refine pt_store1 rfl 3 (.tmp 104) (.tmp 103) rfl w.heap.size j _ rfl rfl rfl rfl HC.out size3 (by omega) ?_))
                  exact ⟨⟨s + 1, _, by omega, by go_num, HLV.out.step HJ.out, OwnI.set HOM.out HC.out (by rw [HLV.out.1, ← HN.out]; exact hjn), OwnR.turned HNM.out (turned_row _ _ _) (fun b hb e => HAP.out b hb e), below_row HBM.out (Nat.le_refl _)⟩, by simp [intOf]; omega⟩
                · obtain rfl : s = nn := by omega
                  have d4 : decide ((s : Int) < (s : Int)) = false := by simp
                  go_wp2_with fail
                  exact ⟨⟨l + 1, by omega, by go_num, HLV.out.done (by rw [← HNS.out, ← HNN.out]; exact Nat.le_refl _) ▸ HOM.out, HBM.out⟩, by simp [intOf]; omega⟩
        · obtain rfl : l = 13 := by omega
          go_wp2_with fail
          go_ret
          exact ⟨⟨_, rfl, HLW.out⟩, HBL.out⟩
end Go.Proofs.Yteanlcefdoigcaa
