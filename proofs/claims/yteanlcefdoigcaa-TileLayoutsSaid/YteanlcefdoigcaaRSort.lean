/- The reference's Sorted (29): the points in ascending order of Id, in a slice of the call's own. -/
import Derived.Test.YteanlcefdoigcaaInsM
import Derived.Test.YteanlcefdoigcaaOpenP
namespace Go.Proofs.Yteanlcefdoigcaa
open Go.RowKit Go.Sort

theorem size36r : (Try.prog.info? 36).map (·.size) = some 9 := by kernel_rfl
def idLt (p q : Pt) : Prop := p.id < q.id
/-- v holds the points in ascending order of Id -/
def SortRes (W : World) (base : Nat) (v : Value) (S : List Pt) : Prop := ∃ L, OwnP W base v L ∧ L.Perm S ∧ L.Pairwise (fun p q => ¬ q.id < p.id)
/-- between two rounds of the inner loop -/
def SRel (w : World) (S : List Pt) (i : Nat) (v kv : Value) (W : World) : Prop :=
  ∃ (k : Nat) (L : List Pt), k ≤ i ∧ kv = .int .i64 (k : Int) ∧ L.Perm S ∧ InsAt idLt L i k ∧ OwnP W w.heap.size v L ∧ Below w.heap.size w W
def SOut (w : World) (S : List Pt) (n : Nat) (v iv : Value) (W : World) : Prop :=
  ∃ (i : Nat) (L : List Pt), i ≤ n ∧ iv = .int .i64 (i : Int) ∧ L.Perm S ∧ SortedTo idLt L i ∧ OwnP W w.heap.size v L ∧ Below w.heap.size w W
set_option maxRecDepth 100000 in
set_option maxHeartbeats 6400000 in
theorem rsorted_any (pv : Value) (S : List Pt) (w : World) (hp : PtsV w pv S) (hp0 : NilV pv) (hn : S.length ≤ 1000000) :
    Calls Try.prog 29 #[pv] w fun r w' => (∃ v, r = .returned v ∧ SortRes w' w.heap.size v S) ∧ Below w.heap.size w w' := by
  obtain ⟨pa, pc, rfl, hpd⟩ := hp
  obtain ⟨n, hnl⟩ : ∃ n, n = S.length := ⟨_, rfl⟩
  rw [← hnl] at hn hp0 ⊢
  have HN := hid hnl
  have HP0 := hid hp0
  have HPD := hid hpd
  have HNB := hid hn
  clear hnl hp0 hpd
  obtain ⟨i0, hi, hz0, hz1, hz2⟩ := info_parts info36
  have HI := hid hi
  have HZ0 := hid hz0
  have HZ1 := hid hz1
  have HZ2 := hid hz2
  clear hi hz0 hz1 hz2
  have HX3 := hid (show ((S.map Pt.row = [] ∧ (pa = none → pc = 0)) ∨ ∃ b off, pa = some ⟨b, off, none⟩ ∧ RowsAt w b off 9 (S.map Pt.row)) by
    rcases HPD.out with h | ⟨b, off, h1, h2, h3⟩
    · refine Or.inl ⟨by rw [h]; rfl, fun e => HP0.out pc ?_⟩
      have hn0 : n = 0 := by rw [HN.out, h]; rfl
      rw [e, hn0]
    · exact Or.inr ⟨b, off, h1, h3⟩)
  have HLN := hid (show (S.map Pt.row).length = n by rw [List.length_map]; exact HN.out.symm)
  have HL1 := hid (show ([] : List (List Value)).length + (S.map Pt.row).length ≤ maxLen by rw [HLN.out]; show 0 + n ≤ maxLen; have := HNB.out; unfold maxLen; omega)
  have HL2 := hid (show (([] : List (List Value)).length + (S.map Pt.row).length) * 72 ≤ 140737488355328 by rw [HLN.out]; show (0 + n) * 72 ≤ _; have := HNB.out; omega)
  have HWD := hid (wide_map (enc := Pt.row) (k := 9) (fun _ => rfl) Pt.row_one S)
  go_enter Try.func29, Try.ntmps29
  go_wp2_with (first
    | (at_builtin
       refine wpList_append_rowsV rfl (.tmp 6) (.tmp 7) 22 rfl w.heap.size 36 i0 _ 9 72 Try.underlying22 HI.out HZ0.out HZ1.out HZ2.out rfl (by decide) _ [] (S.map Pt.row) rfl (OwnR.nil _ _ _ _) pa n pc HLN.out.symm rfl HX3.out HWD.out HL1.out HL2.out (Nat.le_refl _) ?_
       intro v4 W4 hown4 hg4 z5
       clear z5
       have HO4 := hid (show OwnP W4 w.heap.size v4 S from hown4)
       have HB4 := hid (show Below w.heap.size w W4 from (Below.refl _ _).grown hg4 (Nat.le_refl _) (fun k hk => by cases hk))
       clear hown4 hg4
       obtain ⟨ma, mcap, hmv⟩ := OwnP.slice HO4.out
       rw [← HN.out] at hmv
       subst hmv))
  go_loopw [11] (fun iv W => SOut w S n (.slice ma n mcap) iv W) (fun iv _ => n - (intOf iv).toNat)
  case atStart => exact ⟨0, S, by omega, rfl, List.Perm.refl _, fun a b x y _ h => by omega, HO4.out, HB4.out⟩
  case round =>
    obtain ⟨i, Ls, hi, rfl, hpm, hst, hoL, hB⟩ := hrel
    have HPM := hid hpm
    have HST := hid hst
    have HOL := hid hoL
    have HBW := hid hB
    clear hpm hst hoL hB
    by_cases hlt : i < n
    · have d1 : decide ((i : Int) < (n : Int)) = true := decide_eq_true (by omega)
      go_wp2_with fail
      go_loopw [5] (fun kv W => SRel w S i (.slice ma n mcap) kv W) (fun kv _ => (intOf kv).toNat)
      case atStart => exact ⟨i, Ls, by omega, rfl, HPM.out, ins_start HST.out, HOL.out, HBW.out⟩
      case round =>
        obtain ⟨k, Lk, hk, rfl, hpm, hin, hoL, hB⟩ := hrel
        have HPK := hid hpm
        have HIN := hid hin
        have HOK := hid hoL
        have HBK := hid hB
        have hzw := hB.size
        clear hpm hin hoL hB
        have hLn : Lk.length = n := by rw [HPK.out.length_eq]; exact HN.out.symm
        by_cases hk0 : k = 0
        · subst hk0
          go_wp2_with fail
          refine wp_region_quiet_below (by kernel_rfl) (by kernel_rfl) ?_
          repeat (first | go_big_quiet_step (fail) | quiet_step (fail))
          refine wpQuiet_nil ?_
          intro _ hw'
          obtain ⟨⟨dqV, osV⟩, hw2⟩ := hw'
          subst hw2
          have HQV := hid (below_regrown wr dqV osV)
          generalize Sort.grow (redrawn wr dqV) osV = V at HQV ⊢
          have hsV := HQV.out.size
          go_wp2_with fail
          exact ⟨⟨i + 1, Lk, by omega, by go_num, HPK.out, ins_end (k := 0) (fun x y z h1 h2 h3 => by unfold idLt at *; omega) HIN.out (Nat.zero_le _) (fun x y h => by omega), OwnR.grow' HOK.out HQV.out, HBK.out.trans (HQV.out.mono hzw)⟩, by simp [intOf]; omega⟩
        · obtain ⟨p, hp⟩ : ∃ p, Lk[k]? = some p := ⟨_, List.getElem?_eq_getElem (by omega)⟩
          obtain ⟨q, hq⟩ : ∃ q, Lk[k - 1]? = some q := ⟨_, List.getElem?_eq_getElem (by omega)⟩
          obtain ⟨g, gcap, hsl, hgb, hgs, hcells⟩ := OwnP.cells HOK.out (by omega)
          injection hsl with hsl hnn hcap
          clear hnn
          subst hsl hcap
          have a0 := fun d os => cell_regrown (show wr.cell? ⟨g, k * 9, none⟩ = some (.int .i64 p.id) from hcells k p hp 0 (by decide)) d os
          have b0 := fun d os => cell_regrown (show wr.cell? ⟨g, (k - 1) * 9, none⟩ = some (.int .i64 q.id) from hcells (k - 1) q hq 0 (by decide)) d os
          have hg0 : decide ((0 : Int) < (k : Int)) = true := decide_eq_true (by omega)
          have hg1 : 0 < k := by omega
          have HPX := hid hp
          have HQY := hid hq
          clear hcells hp hq hLn
          by_cases hlt2 : p.id < q.id
          · have hd : decide (p.id < q.id) = true := decide_eq_true hlt2
            go_wp2_with fail
            refine wp_region_quiet_below (by kernel_rfl) (by kernel_rfl) ?_
            repeat (first | go_big_quiet_step (fail) | quiet_step (fail))
            refine wpQuiet_nil ?_
            intro _ hw'
            obtain ⟨⟨dqV, osV⟩, hw2⟩ := hw'
            subst hw2
            have HQV := hid (below_regrown wr dqV osV)
            generalize Sort.grow (redrawn wr dqV) osV = V at HQV ⊢
            have hsV := HQV.out.size
            have HOV := hid (OwnR.grow' HOK.out HQV.out)
            have HBV := hid (HBK.out.trans (HQV.out.mono hzw))
            clear a0 b0
            go_wp2_with fail
            obtain ⟨z1, C, z2, hC, hle, z3, hCs, z4⟩ := own_parts HOV.out
            rw [List.length_map, HPK.out.length_eq, ← HN.out] at hle
            have hCn : n * 9 ≤ C.size := by rw [hCs]; exact Nat.mul_le_mul_right 9 hle
            have YC := hid hC
            obtain ⟨g', gcap', hsl', hgb', hgs', hcells⟩ := OwnP.cells HOV.out (by rw [HPK.out.length_eq, ← HN.out]; omega)
            obtain rfl : g = g' := by injection hsl' with e; injection e with e; injection e
            clear hsl'
            have YP := hid (fun j hj => hcells k p HPX.out j hj)
            have YQ := hid (fun j hj => hcells (k - 1) q HQY.out j hj)
            clear z1 z2 z3 z4 hcells hC hCs hle hgb'
            obtain ⟨p0, p1, p2, p3, p4, p5, p6, p7, p8⟩ := p
            obtain ⟨q0, q1, q2, q3, q4, q5, q6, q7, q8⟩ := q
            have HLT := hid hlt2
            clear hlt2 hd
            refine gen_act (fun A0 hA => ?_)
            refine wp_region_by (by kernel_rfl) (by kernel_rfl) [some 33, some 34, some 35, some 36, some 37, some 38, some 39, some 40, some 41, some 42, some 43, some 44, some 45, some 46, some 47, none, some 48, none] rfl (by decide) (TwoT V.drew (V.drew.setRow g (ptL C (k * 9) [.int .i64 q0, .int .i64 q1, .int .i64 q2, .int .i64 q3, .int .i64 q4, .int .i64 q5, .int .i64 q6, .int .i64 q7, .int .i64 q8])) ((V.drew.setRow g (ptL C (k * 9) [.int .i64 q0, .int .i64 q1, .int .i64 q2, .int .i64 q3, .int .i64 q4, .int .i64 q5, .int .i64 q6, .int .i64 q7, .int .i64 q8])).setRow g (ptL (ptL C (k * 9) [.int .i64 q0, .int .i64 q1, .int .i64 q2, .int .i64 q3, .int .i64 q4, .int .i64 q5, .int .i64 q6, .int .i64 q7, .int .i64 q8]) ((k - 1) * 9) [.int .i64 p0, .int .i64 p1, .int .i64 p2, .int .i64 p3, .int .i64 p4, .int .i64 p5, .int .i64 p6, .int .i64 p7, .int .i64 p8])) 15 17 [0, 1, 5, 6, 7, 8, 9, 13, 14] [.slice (some ⟨g, 0, none⟩) n mcap, .int .i64 (k : Int), .slice (some ⟨g, 0, none⟩) n mcap, .int .i64 (k : Int), .int .i64 ((k : Int) - 1), .slice (some ⟨g, 0, none⟩) n mcap, .int .i64 (k : Int), .int .i64 ((k : Int) - 1), .pointer (some ⟨g, (k - 1) * 9, none⟩), .agg #[.int .i64 q0, .int .i64 q1, .int .i64 q2, .int .i64 q3, .int .i64 q4, .int .i64 q5, .int .i64 q6, .int .i64 q7, .int .i64 q8], .slice (some ⟨g, 0, none⟩) n mcap, .int .i64 (k : Int), .pointer (some ⟨g, k * 9, none⟩), .agg #[.int .i64 p0, .int .i64 p1, .int .i64 p2, .int .i64 p3, .int .i64 p4, .int .i64 p5, .int .i64 p6, .int .i64 p7, .int .i64 p8], .pointer (some ⟨g, k * 9, none⟩), undef, .pointer (some ⟨g, (k - 1) * 9, none⟩), undef]) (selfF A0 _) (putF_self A0 _) TwoT.start ?hs1_9_W1 ?hend_9_W1
            case hs1_9_W1 =>
              refine ⟨?_, ?_, ?_, ?_, ?_, ?_, ?_, ?_, ?_, ?_, ?_, ?_, ?_, ?_, ?_, ?_, ?_, ?_, trivial⟩
              · intro K L us W hK0 hL hd hR
                have hK := hid (fun v A' h1 h2 => hK0 v A' W h1 (hR.pure 0 (by decide) (by decide) h2)); clear hK0
                (try simp [Region.binds] at hd)
                clear hd hR
                simp only [putF]
                rw [hA]
                go_frame
                go_wp2_with fail
                exact hK.out _ _ (by rw [hA]; simp only [putF]; kernel_rfl) rfl
              · intro K L us W hK0 hL hd hR
                have hK := hid (fun v A' h1 h2 => hK0 v A' W h1 (hR.pure 1 (by decide) (by decide) h2)); clear hK0
                (try simp [Region.binds] at hd)
                clear hd hR
                simp only [putF]
                rw [hA]
                go_frame
                go_wp2_with fail
                exact hK.out _ _ (by rw [hA]; simp only [putF]; kernel_rfl) rfl
              · intro K L us W hK0 hL hd hR
                have hK := hid (fun v A' h1 h2 => hK0 v A' W h1 (hR.pure 2 (by decide) (by decide) h2)); clear hK0
                (try simp [Region.binds] at hd)
                clear hd hR
                simp only [putF]
                rw [hA]
                go_frame
                go_wp2_with fail
                exact hK.out _ _ (by rw [hA]; simp only [putF]; kernel_rfl) rfl
              · intro K L us W hK0 hL hd hR
                have hK := hid (fun v A' h1 h2 => hK0 v A' W h1 (hR.pure 3 (by decide) (by decide) h2)); clear hK0
                (try simp [Region.binds] at hd)
                clear hd hR
                simp only [putF]
                rw [hA]
                go_frame
                go_wp2_with fail
                exact hK.out _ _ (by rw [hA]; simp only [putF]; kernel_rfl) rfl
              · intro K L us W hK0 hL hd hR
                have hK := hid (fun v A' h1 h2 => hK0 v A' W h1 (hR.pure 4 (by decide) (by decide) h2)); clear hK0
                (try simp [Region.binds] at hd)
                have e3 : us 3 = .int .i64 (k : Int) := hR.vals 3 (by simp [hd]) (by decide) (by decide)
                clear hd hR
                simp only [putF]
                rw [hA, e3]
                go_frame
                go_wp2_with fail
                exact hK.out _ _ (by rw [hA]; simp only [putF]; rw [e3]; kernel_rfl) rfl
              · intro K L us W hK0 hL hd hR
                have hK := hid (fun v A' h1 h2 => hK0 v A' W h1 (hR.pure 5 (by decide) (by decide) h2)); clear hK0
                (try simp [Region.binds] at hd)
                clear hd hR
                simp only [putF]
                rw [hA]
                go_frame
                go_wp2_with fail
                exact hK.out _ _ (by rw [hA]; simp only [putF]; kernel_rfl) rfl
              · intro K L us W hK0 hL hd hR
                have hK := hid (fun v A' h1 h2 => hK0 v A' W h1 (hR.pure 6 (by decide) (by decide) h2)); clear hK0
                (try simp [Region.binds] at hd)
                clear hd hR
                simp only [putF]
                rw [hA]
                go_frame
                go_wp2_with fail
                exact hK.out _ _ (by rw [hA]; simp only [putF]; kernel_rfl) rfl
              · intro K L us W hK0 hL hd hR
                have hK := hid (fun v A' h1 h2 => hK0 v A' W h1 (hR.pure 7 (by decide) (by decide) h2)); clear hK0
                (try simp [Region.binds] at hd)
                have e6 : us 6 = .int .i64 (k : Int) := hR.vals 6 (by simp [hd]) (by decide) (by decide)
                clear hd hR
                simp only [putF]
                rw [hA, e6]
                go_frame
                go_wp2_with fail
                exact hK.out _ _ (by rw [hA]; simp only [putF]; rw [e6]; kernel_rfl) rfl
              · intro K L us W hK0 hL hd hR
                have hK := hid (fun v A' h1 h2 => hK0 v A' W h1 (hR.pure 8 (by decide) (by decide) h2)); clear hK0
                (try simp [Region.binds] at hd)
                have e5 : us 5 = .slice (some ⟨g, 0, none⟩) n mcap := hR.vals 5 (by simp [hd]) (by decide) (by decide)
                have e7 : us 7 = .int .i64 ((k : Int) - 1) := hR.vals 7 (by simp [hd]) (by decide) (by decide)
                clear hd hR
                simp only [putF]
                rw [hA, e5, e7]
                go_frame
                go_wp2_with fail
                exact hK.out _ _ (by rw [hA]; simp only [putF]; rw [e5, e7]; kernel_rfl) rfl
              · intro K L us W hK0 hL hd hR
                have hK := hid (fun v A' h1 h2 => hK0 v A' W h1 (hR.pure 9 (by decide) (by decide) h2)); clear hK0
                (try simp [Region.binds] at hd)
                have e8 : us 8 = .pointer (some ⟨g, (k - 1) * 9, none⟩) := hR.vals 8 (by simp [hd]) (by decide) (by decide)
                have hW := hR.at0 (k := 9) (by decide) hL
                clear hd hR
                subst hW
                have c0 : V.drew.cell? ⟨g, (k - 1) * 9, none⟩ = some (.int .i64 q0) := YQ.out 0 (by decide)
                have c1 : V.drew.cell? ⟨g, (k - 1) * 9 + 1, none⟩ = some (.int .i64 q1) := YQ.out 1 (by decide)
                have c2 : V.drew.cell? ⟨g, (k - 1) * 9 + 2, none⟩ = some (.int .i64 q2) := YQ.out 2 (by decide)
                have c3 : V.drew.cell? ⟨g, (k - 1) * 9 + 3, none⟩ = some (.int .i64 q3) := YQ.out 3 (by decide)
                have c4 : V.drew.cell? ⟨g, (k - 1) * 9 + 4, none⟩ = some (.int .i64 q4) := YQ.out 4 (by decide)
                have c5 : V.drew.cell? ⟨g, (k - 1) * 9 + 5, none⟩ = some (.int .i64 q5) := YQ.out 5 (by decide)
                have c6 : V.drew.cell? ⟨g, (k - 1) * 9 + 6, none⟩ = some (.int .i64 q6) := YQ.out 6 (by decide)
                have c7 : V.drew.cell? ⟨g, (k - 1) * 9 + 7, none⟩ = some (.int .i64 q7) := YQ.out 7 (by decide)
                have c8 : V.drew.cell? ⟨g, (k - 1) * 9 + 8, none⟩ = some (.int .i64 q8) := YQ.out 8 (by decide)
                simp only [putF]
                rw [hA, e8]
                go_frame
                go_wp2_with fail
                exact hK.out _ _ (by rw [hA]; simp only [putF]; rw [e8]; kernel_rfl) rfl
              · intro K L us W hK0 hL hd hR
                have hK := hid (fun v A' h1 h2 => hK0 v A' W h1 (hR.pure 10 (by decide) (by decide) h2)); clear hK0
                (try simp [Region.binds] at hd)
                clear hd hR
                simp only [putF]
                rw [hA]
                go_frame
                go_wp2_with fail
                exact hK.out _ _ (by rw [hA]; simp only [putF]; kernel_rfl) rfl
              · intro K L us W hK0 hL hd hR
                have hK := hid (fun v A' h1 h2 => hK0 v A' W h1 (hR.pure 11 (by decide) (by decide) h2)); clear hK0
                (try simp [Region.binds] at hd)
                clear hd hR
                simp only [putF]
                rw [hA]
                go_frame
                go_wp2_with fail
                exact hK.out _ _ (by rw [hA]; simp only [putF]; kernel_rfl) rfl
              · intro K L us W hK0 hL hd hR
                have hK := hid (fun v A' h1 h2 => hK0 v A' W h1 (hR.pure 12 (by decide) (by decide) h2)); clear hK0
                (try simp [Region.binds] at hd)
                have e10 : us 10 = .slice (some ⟨g, 0, none⟩) n mcap := hR.vals 10 (by simp [hd]) (by decide) (by decide)
                have e11 : us 11 = .int .i64 (k : Int) := hR.vals 11 (by simp [hd]) (by decide) (by decide)
                clear hd hR
                simp only [putF]
                rw [hA, e10, e11]
                go_frame
                go_wp2_with fail
                exact hK.out _ _ (by rw [hA]; simp only [putF]; rw [e10, e11]; kernel_rfl) rfl
              · intro K L us W hK0 hL hd hR
                have hK := hid (fun v A' h1 h2 => hK0 v A' W h1 (hR.pure 13 (by decide) (by decide) h2)); clear hK0
                (try simp [Region.binds] at hd)
                have e12 : us 12 = .pointer (some ⟨g, k * 9, none⟩) := hR.vals 12 (by simp [hd]) (by decide) (by decide)
                have hW := hR.at0 (k := 13) (by decide) hL
                clear hd hR
                subst hW
                have c0 : V.drew.cell? ⟨g, k * 9, none⟩ = some (.int .i64 p0) := YP.out 0 (by decide)
                have c1 : V.drew.cell? ⟨g, k * 9 + 1, none⟩ = some (.int .i64 p1) := YP.out 1 (by decide)
                have c2 : V.drew.cell? ⟨g, k * 9 + 2, none⟩ = some (.int .i64 p2) := YP.out 2 (by decide)
                have c3 : V.drew.cell? ⟨g, k * 9 + 3, none⟩ = some (.int .i64 p3) := YP.out 3 (by decide)
                have c4 : V.drew.cell? ⟨g, k * 9 + 4, none⟩ = some (.int .i64 p4) := YP.out 4 (by decide)
                have c5 : V.drew.cell? ⟨g, k * 9 + 5, none⟩ = some (.int .i64 p5) := YP.out 5 (by decide)
                have c6 : V.drew.cell? ⟨g, k * 9 + 6, none⟩ = some (.int .i64 p6) := YP.out 6 (by decide)
                have c7 : V.drew.cell? ⟨g, k * 9 + 7, none⟩ = some (.int .i64 p7) := YP.out 7 (by decide)
                have c8 : V.drew.cell? ⟨g, k * 9 + 8, none⟩ = some (.int .i64 p8) := YP.out 8 (by decide)
                simp only [putF]
                rw [hA, e12]
                go_frame
                go_wp2_with fail
                exact hK.out _ _ (by rw [hA]; simp only [putF]; rw [e12]; kernel_rfl) rfl
              · intro K L us W hK0 hL hd hR
                have hK := hid (fun v A' h1 h2 => hK0 v A' W h1 (hR.pure 14 (by decide) (by decide) h2)); clear hK0
                (try simp [Region.binds] at hd)
                have e0 : us 0 = .slice (some ⟨g, 0, none⟩) n mcap := hR.vals 0 (by simp [hd]) (by decide) (by decide)
                have e1 : us 1 = .int .i64 (k : Int) := hR.vals 1 (by simp [hd]) (by decide) (by decide)
                clear hd hR
                simp only [putF]
                rw [hA, e0, e1]
                go_frame
                go_wp2_with fail
                exact hK.out _ _ (by rw [hA]; simp only [putF]; rw [e0, e1]; kernel_rfl) rfl
              · intro K L us W hK0 hL hd hR
                simp [Region.binds] at hd
                have e14 : us 14 = .pointer (some ⟨g, k * 9, none⟩) := hR.vals 14 (by simp [hd]) (by decide) (by decide)
                have e9 : us 9 = .agg #[.int .i64 q0, .int .i64 q1, .int .i64 q2, .int .i64 q3, .int .i64 q4, .int .i64 q5, .int .i64 q6, .int .i64 q7, .int .i64 q8] := hR.vals 9 (by simp [hd]) (by decide) (by decide)
                have hp : ∀ j ∈ [0, 1, 5, 6, 7, 8, 9, 13, 14], L j = true := by
                  intro j hj
                  simp only [List.mem_cons, List.not_mem_nil, or_false] at hj
                  rcases hj with rfl | rfl | rfl | rfl | rfl | rfl | rfl | rfl | rfl
                  all_goals (simp [hd])
                have hW := (hR.fst (v := undef) hL hp (by decide)).1
                have hK := hid (fun A' h1 => hK0 undef A' _ h1 (hR.fst hL hp (by decide)).2); clear hK0 hp
                clear hd hR
                subst hW
                simp only [putF]
                rw [hA, e14, e9]
                go_frame
                go_wp2_with (refine pt_store rfl 36 (.tmp 47) (.tmp 42) rfl g (k * 9) _ rfl rfl (show V.drew.heap[g]? = _ from YC.out) size36r rfl (by show k * 9 + 9 ≤ C.size; omega) rfl ?_)
                exact hK.out _ (by rw [hA]; simp only [putF]; rw [e14, e9]; kernel_rfl)
              · intro K L us W hK0 hL hd hR
                have hK := hid (fun v A' h1 h2 => hK0 v A' W h1 (hR.pure 16 (by decide) (by decide) h2)); clear hK0
                (try simp [Region.binds] at hd)
                have e2 : us 2 = .slice (some ⟨g, 0, none⟩) n mcap := hR.vals 2 (by simp [hd]) (by decide) (by decide)
                have e4 : us 4 = .int .i64 ((k : Int) - 1) := hR.vals 4 (by simp [hd]) (by decide) (by decide)
                clear hd hR
                simp only [putF]
                rw [hA, e2, e4]
                go_frame
                go_wp2_with fail
                exact hK.out _ _ (by rw [hA]; simp only [putF]; rw [e2, e4]; kernel_rfl) rfl
              · intro K L us W hK0 hL hd hR
                simp [Region.binds] at hd
                have e16 : us 16 = .pointer (some ⟨g, (k - 1) * 9, none⟩) := hR.vals 16 (by simp [hd]) (by decide) (by decide)
                have e13 : us 13 = .agg #[.int .i64 p0, .int .i64 p1, .int .i64 p2, .int .i64 p3, .int .i64 p4, .int .i64 p5, .int .i64 p6, .int .i64 p7, .int .i64 p8] := hR.vals 13 (by simp [hd]) (by decide) (by decide)
                have h5 : L 15 = true := by simp [hd]
                have hW := (hR.snd (v := undef) h5 hL).1
                have hK := hid (fun A' h1 => hK0 undef A' _ h1 (hR.snd h5 hL).2); clear hK0
                clear hd hR
                subst hW
                simp only [putF]
                rw [hA, e16, e13]
                go_frame
                go_wp2_with (refine pt_store rfl 36 (.tmp 48) (.tmp 46) rfl g ((k - 1) * 9) _ rfl rfl (setRow_heap _ _ _ _ _ _ (show V.drew.heap[g]? = _ from YC.out)) size36r rfl (by show (k - 1) * 9 + 9 ≤ (ptL C (k * 9) _).size; rw [ptL_size]; omega) rfl ?_)
                exact hK.out _ (by rw [hA]; simp only [putF]; rw [e16, e13]; kernel_rfl)
            intro L us W1 hL hR
            have hW : W1 = (V.drew.setRow g (ptL C (k * 9) [.int .i64 q0, .int .i64 q1, .int .i64 q2, .int .i64 q3, .int .i64 q4, .int .i64 q5, .int .i64 q6, .int .i64 q7, .int .i64 q8])).setRow g (ptL (ptL C (k * 9) [.int .i64 q0, .int .i64 q1, .int .i64 q2, .int .i64 q3, .int .i64 q4, .int .i64 q5, .int .i64 q6, .int .i64 q7, .int .i64 q8]) ((k - 1) * 9) [.int .i64 p0, .int .i64 p1, .int .i64 p2, .int .i64 p3, .int .i64 p4, .int .i64 p5, .int .i64 p6, .int .i64 p7, .int .i64 p8]) := by have := hR.wld; rw [hL 17 (by decide)] at this; exact this
            clear hR hL
            simp only [putF]
            rw [hA]
            clear hA
            go_frame
            subst hW
            have HO5 := hid (own_swapE (enc := Pt.row) (show OwnR V.drew w.heap.size 36 9 (.slice (some ⟨g, 0, none⟩) n mcap) (Lk.map Pt.row) from OwnR.drew HOV.out) YC.out rfl rfl (Pt.row_one _) (Pt.row_one _) HPX.out HQY.out)
            have HB5 := hid (fun X Y => below_row (X := Y) (below_row (X := X) (below_drew HBV.out) hgb) hgb)
            simp only [Pt.row] at HO5
            have HP5 := hid ((sw_perm HPX.out HQY.out).trans HPK.out)
            have HI5 := hid (show InsAt idLt ((Lk.set k ⟨q0, q1, q2, q3, q4, q5, q6, q7, q8⟩).set (k - 1) ⟨p0, p1, p2, p3, p4, p5, p6, p7, p8⟩) i (k - 1) by
              have e : k = (k - 1) + 1 := by omega
              have h := ins_step (r := idLt) (k := k - 1) (fun x y h h2 => by unfold idLt at *; omega) (by rw [← e]; exact HIN.out) (by omega) (by rw [← e]; exact HPX.out) HQY.out HLT.out
              rw [← e] at h
              exact h)
            go_wp2_with fail
            exact ⟨⟨k - 1, _, by omega, by congr 1; omega, HP5.out, HI5.out, HO5.out, HB5.out _ _⟩, by simp [intOf]; omega⟩
          · have hd : decide (p.id < q.id) = false := decide_eq_false hlt2
            go_wp2_with fail
            refine wp_region_quiet_below (by kernel_rfl) (by kernel_rfl) ?_
            repeat (first | go_big_quiet_step (fail) | quiet_step (fail))
            refine wpQuiet_nil ?_
            intro _ hw'
            obtain ⟨⟨dqV, osV⟩, hw2⟩ := hw'
            subst hw2
            have HQV := hid (below_regrown wr dqV osV)
            generalize Sort.grow (redrawn wr dqV) osV = V at HQV ⊢
            have hsV := HQV.out.size
            have HOV := hid (OwnR.grow' HOK.out HQV.out)
            have HBV := hid (HBK.out.trans (HQV.out.mono hzw))
            clear a0 b0
            go_wp2_with fail
            exact ⟨⟨i + 1, Lk, by omega, by go_num, HPK.out, ins_end (k := k) (fun x y z h1 h2 h3 => by unfold idLt at *; omega) HIN.out hk (fun x y _ h1 h2 => by
              rw [HPX.out] at h1
              rw [HQY.out] at h2
              injection h1 with h1
              injection h2 with h2
              subst h1 h2
              exact fun h => by unfold idLt at h; omega), HOV.out, HBV.out⟩, by simp [intOf]; omega⟩
    · obtain rfl : i = n := by omega
      have d1 : decide ((i : Int) < (i : Int)) = false := by simp
      go_wp2_with fail
      go_ret
      refine ⟨⟨_, rfl, Ls, HOL.out, HPM.out, ?_⟩, HBW.out⟩
      have h := HST.out
      rw [HN.out, ← HPM.out.length_eq] at h
      exact sortedTo_pairwise h
end Go.Proofs.Yteanlcefdoigcaa
