/- The reference's clocks of syncs. -/
import Derived.Test.YteoikaedpgianaaClockX
namespace Go.Proofs.Yteoikaedpgianaa
open Go.RowKit

theorem cl_step {P : Program} {ops : Array Oper} {Q : Exit → Act → World → Prop} {l rest : List Oper} {o : Oper} {a : Act} {w : World} (hl : l = o :: rest)
    (h : ∀ K : Act → World → Prop, (∀ v A' W', A' = a.put o.dst v → SeqS P ops Q rest A' W' → K A' W') → wpList P ops (Exit.then K Q) [o] a w) : SeqS P ops Q l a w := by
  subst hl
  exact h
theorem cl_end {P : Program} {ops : Array Oper} {Q : Exit → Act → World → Prop} {l : List Oper} {a : Act} {w : World} (hl : l = []) (h : Q .normal a w) : SeqS P ops Q l a w := by
  subst hl
  exact h
theorem recL_succ (f lo hi : Nat → Int) (n : Nat) : recL f lo hi (n + 1) = recL f lo hi n ++ [(f n, lo n, hi n)] := by
  simp [recL, List.range_succ]
theorem OwnL.to {W : World} {base t : Nat} {v : Value} {l m : List Syn} (h : OwnL W base t v l) (e : l = m) : OwnL W base t v m := e ▸ h
set_option maxRecDepth 100000 in
set_option maxHeartbeats 3200000 in
theorem rClocks_any (b off n c : Nat) (f lo hi : Nat → Int) (w : World) (hn0 : 0 < n) (hn : n ≤ 40) (hbw : b < w.heap.size) (hr : recs3 w b off n f lo hi) :
    Calls Try.prog 60 #[.slice (some ⟨b, off, none⟩) n c] w fun r w' => (allN (syncN f lo hi) n = false ∧ r = .returned (.tuple #[.slice none 0 0, .int .i64 41]) ∨
      allN (syncN f lo hi) n = true ∧ ∃ v z, Stab keyS (recL f lo hi n) z ∧ r = .returned (.tuple #[v, .int .i64 0]) ∧ OwnL w' w.heap.size 99 v (clocksOf z)) ∧ Below w.heap.size w w' := by
  have HC := hid hr
  obtain ⟨i0, hi, hz0, hz1, hz2⟩ := info_parts info57
  have HI := hid hi
  have HZ0 := hid hz0
  have HZ1 := hid hz1
  have HZ2 := hid hz2
  clear hi hz0 hz1 hz2 hr
  go_enter Try.func60, Try.ntmps60
  go_wp2_with fail
  go_loopw [4, 17] (fun lv i W => ∃ k : Nat, k ≤ n ∧ i = .int .i64 (k : Int) ∧ allN (syncN f lo hi) k = true ∧ OwnL W w.heap.size 57 lv (recL f lo hi k) ∧ Below w.heap.size w W) (fun _ i _ => n - (intOf i).toNat)
  case atStart => exact ⟨0, by omega, rfl, rfl, OwnL.nil _ _ _, Below.refl _ _⟩
  case round =>
    obtain ⟨k, hk, rfl, hall, hown, hB⟩ := hrel
    have HBwr := hid hB
    have hzwr := hB.size
    have HA := hid hall
    have HOWN := hid hown
    by_cases hlt : k < n
    · obtain ⟨c0, c1, c2⟩ := HC.out.still hB hbw k hlt
      have HN := hid (fun h : syncN f lo hi k = true => allN_next HA.out h)
      have HX := hid (fun h : syncN f lo hi k = false => @allN_stop (syncN f lo hi) n k hlt h)
      have HSB := hid (show ∀ bb, syncB (f k) (lo k) (hi k) = bb → syncN f lo hi k = bb from fun bb h => h)
      have HSU := hid (recL_succ f lo hi k)
      have HLL := hid (recL_length f lo hi k).symm
      clear hB hall hown
      generalize f k = fk at *
      generalize lo k = lk at *
      generalize hi k = hik at *
      generalize recL f lo hi k = LK at *
      by_cases hs : syncB fk lk hik = true
      · have HS := hid hs; clear hs
        go_wp2_with fail
        have HOW1 := hid (HOWN.out.grow ((Below.refl _ _).alloc (Nat.le_refl _) (.cells #[.int .i64 fk, .int .i64 lk, .int .i64 hik] 57)))
        have HX1 := hid (heap_alloc_at wr (.cells #[.int .i64 fk, .int .i64 lk, .int .i64 hik] 57) _ rfl)
        refine (rSync_any _ _ _ _).mono ?_
        rintro r w1 ⟨rfl, hb⟩
        have HBw1 := hid (show Below w.heap.size w w1 by have hB0 := HBwr.out; refine Below.trans ?_ (hb.mono ?_); (focus ((repeat' (first | (with_reducible exact Below.refl _ _) | (with_reducible assumption) | (with_reducible refine Below.alloc ?_ ?_ _) | (with_reducible refine Below.drew ?_) | (with_reducible refine below_drewN ?_ _) | (with_reducible refine Below.setCell ?_ ?_ _) | (with_reducible refine below_setRow ?_ ?_ _) | go_size)); done)); (focus (first | (simp; done) | (simp; omega) | (have hB1 := hB0.size; simp; omega))))
        have hsw1 := hb.size
        (try simp at hsw1)
        have hzw1 : w.heap.size < w1.heap.size := by omega
        obtain ⟨hcw1, hfw1⟩ := bcell hb
        have hkw1 := hid (fun n x => @heap_still _ _ n x hb)
        clear hb
        rw [HS.out]
        have HOW2 := hid (HOW1.out.heap (W' := w1) (fun g x hx _ => hkw1.out _ _ hx))
        have HX2 := hid (hkw1.out _ _ HX1.out)
        have q0 : w1.cell? ⟨wr.heap.size, 0, none⟩ = some (.int .i64 fk) := (cell_row (j := 0) HX2.out).trans rfl
        have q1 : w1.cell? ⟨wr.heap.size, 1, none⟩ = some (.int .i64 lk) := (cell_row (j := 1) HX2.out).trans rfl
        have q2 : w1.cell? ⟨wr.heap.size, 2, none⟩ = some (.int .i64 hik) := (cell_row (j := 2) HX2.out).trans rfl
        have hy1 : wr.heap.size < w1.heap.size := by omega
        obtain ⟨av, cap3, hv3⟩ := HOW2.out.slice
        subst hv3
        rw [← HLL.out] at HOWN HOW1 HOW2 ⊢
        have HNL := hid HLL.out
        have HOA := hid (show World.ownsRow (w1.alloc (.cells #[.int .i64 fk, .int .i64 lk, .int .i64 hik] 57)) w.heap.size 57 3 (.slice av k cap3) k (rowsOf LK) by
          have h := HOW2.out.grow ((Below.refl _ _).alloc (Nat.le_refl _) (.cells #[.int .i64 fk, .int .i64 lk, .int .i64 hik] 57))
          unfold OwnL at h
          rw [← HLL.out] at h
          exact h)
        have HBA := hid (show Below w.heap.size w (w1.alloc (.cells #[.int .i64 fk, .int .i64 lk, .int .i64 hik] 57)) from HBw1.out.alloc (by omega) _)
        go_wp2_with (at_builtin; refine wpList_append_own _ rfl (.tmp 24) (.tmp 26) 95 rfl w.heap.size 57 i0 _ 3 24 Try.underlying95 HI.out HZ0.out HZ1.out HZ2.out rfl (by decide) _ k (rowsOf LK) rfl HOA.out ⟨w1.heap.size, 0, none⟩ 1 1 (row3 (fk, lk, hik)) rfl rfl (fun j u hu => cells_back (heap_alloc_at _ _ _ (by simp)) j u hu) (row3_one _) (by unfold maxLen; omega) (by omega) (by simp; omega) ?_; intro v' w5 hown5 hgrow5 hnil5)
        have HO5 := hid (OwnL.snoc HNL.out hown5)
        have HB5 := hid (HBA.out.grown hgrow5 (by simp; omega) (fun k hk => OwnL.ownBlock (show OwnL _ w.heap.size 57 _ LK by unfold OwnL; rw [← HNL.out]; exact HOA.out) k hk))
        have hs5 := hgrow5.size
        (try simp at hs5)
        clear hown5 hgrow5 hnil5
        exact ⟨⟨k + 1, by omega, by go_num, HN.out (HSB.out _ HS.out), by rw [HSU.out]; exact HO5.out, HB5.out⟩, by simp [intOf]; omega⟩
      · have HS := hid (Bool.eq_false_iff.2 hs); clear hs
        go_wp2_with fail
        refine (rSync_any _ _ _ _).mono ?_
        rintro r w1 ⟨rfl, hb⟩
        have HBw1 := hid (show Below w.heap.size w w1 by have hB0 := HBwr.out; refine Below.trans ?_ (hb.mono ?_); (focus ((repeat' (first | (with_reducible exact Below.refl _ _) | (with_reducible assumption) | (with_reducible refine Below.alloc ?_ ?_ _) | (with_reducible refine Below.drew ?_) | (with_reducible refine below_drewN ?_ _) | (with_reducible refine Below.setCell ?_ ?_ _) | (with_reducible refine below_setRow ?_ ?_ _) | go_size)); done)); (focus (first | (simp; done) | (simp; omega) | (have hB1 := hB0.size; simp; omega))))
        have hsw1 := hb.size
        (try simp at hsw1)
        have hzw1 : w.heap.size < w1.heap.size := by omega
        obtain ⟨hcw1, hfw1⟩ := bcell hb
        have hkw1 := hid (fun n x => @heap_still _ _ n x hb)
        clear hb
        rw [HS.out]
        go_wp2_with fail
        go_ret2
        exact ⟨Or.inl ⟨HX.out (HSB.out _ HS.out), rfl⟩, HBw1.out⟩
    · obtain rfl : k = n := by omega
      have HV := hid (recL_all HA.out)
      clear hB hall hown HC hbw
      obtain ⟨g, cap, cur, hv, hg0, hg1, hg2, hg3, hg4, hg5⟩ := HOWN.out.rows (by rw [recL_length]; omega)
      rw [recL_length] at hv hg3
      subst hv
      have HRL := hid (show RowsL wr g 57 (recL f lo hi k) from ⟨cur, hg1, hg2⟩)
      have hglt : g < wr.heap.size := (Array.getElem?_eq_some_iff.1 hg1).1
      have hLL := recL_length f lo hi k
      have HLL := hid hLL
      clear hg1 hg2 hg5 HOWN hLL HI HZ0 HZ1 HZ2
      obtain ⟨i0, hi, hz0, hz1, hz2⟩ := info_parts info99
      have HI := hid hi
      have HZ0 := hid hz0
      have HZ1 := hid hz1
      have HZ2 := hid hz2
      clear hi hz0 hz1 hz2
      generalize hLE : recL f lo hi k = L at *
      have HLE := hid hLE
      clear hLE
      go_wp2_with fail
      go_loopw [31] (fun iv W => ∃ (i : Nat) (Z : List Syn), i ≤ k ∧ iv = .int .i64 (i : Int) ∧ Stab keyS (L.take i) Z ∧ Z.length = i ∧ RowsL W g 57 (Z ++ L.drop i) ∧ Keeps g wr.heap.size wr W) (fun iv _ => k - (intOf iv).toNat)
      case atStart => exact ⟨0, [], by omega, rfl, ⟨up_nil, Same.refl _⟩, rfl, by simpa using HRL.out, Keeps.refl _ _ _⟩
      case round =>
        obtain ⟨i, Z, hik, rfl, hZ, hZl, hRW, hKP⟩ := hrel
        have HZ := hid hZ
        have HRW := hid hRW
        have HKP := hid hKP
        clear hZ hRW hKP
        by_cases hki : i < k
        · obtain ⟨v, R, hv⟩ : ∃ v R, L.drop i = v :: R := ⟨_, _, List.drop_eq_getElem_cons (by have := HLL.out; omega)⟩
          rw [hv] at HRW
          have HLV := hid hv
          clear hv
          go_wp2_with fail
          go_loopw [8] (fun jv W => ∃ (j : Nat) (Z1 Z2 : List Syn), j ≤ i ∧ jv = .int .i64 (j : Int) ∧ Z = Z1 ++ Z2 ∧ Z1.length = j ∧ (∀ a ∈ Z2, keyS v < keyS a) ∧ RowsL W g 57 (Z1 ++ v :: (Z2 ++ R)) ∧ Keeps g _ _ W) (fun jv _ => (intOf jv).toNat)
          case atStart => exact ⟨i, Z, [], by omega, rfl, by simp, hZl, by simp, by simpa using HRW.out, HKP.out⟩
          case round =>
            obtain ⟨j, Z1, Z2, hji, rfl, hZZ, hZ1, hZ2, hRW2, hKP2⟩ := hrel
            have HRW2 := hid hRW2
            have HKP2 := hid hKP2
            have HZ2 := hid hZ2
            clear hRW2 hKP2 hZ2
            by_cases hj0 : 0 < j
            · have hg : decide ((0 : Int) < (j : Int)) = true := decide_eq_true (by omega)
              rcases List.eq_nil_or_concat Z1 with rfl | ⟨Z1', u, rfl⟩
              · simp at hZ1; omega
              rw [List.concat_eq_append] at hZ1 HRW2 hZZ
              have hvx : v ∈ L := List.mem_of_mem_drop (i := i) (by rw [HLV.out]; simp)
              have hux : u ∈ L := List.mem_of_mem_take (i := i) ((HZ.out.2.mem u).1 (by rw [hZZ]; simp))
              obtain ⟨C, hC, hrc⟩ := HRW2.out
              have hZ1l : Z1'.length + 1 = j := by simpa using hZ1
              have e1 : (((Z1' ++ [u]) ++ v :: (Z2 ++ R)))[j]? = some v := at_mid [] _ _ _ _ (by simp; omega)
              have e0 : (((Z1' ++ [u]) ++ v :: (Z2 ++ R)))[j - 1]? = some u := by rw [List.append_assoc]; exact at_mid [] _ _ _ _ (by simp; omega)
              have a0 := fun d os => cell_regrown (w := wr) ((cell_row hC).trans (hrc.at0 _ _ e1)) d os
              have b0 := fun d os => cell_regrown (w := wr) ((cell_row hC).trans (hrc.at0 _ _ e0)) d os
              go_wp2_with fail
              refine wp_region_quiet_below (by kernel_rfl) (by kernel_rfl) ?_
              repeat (first | go_big_quiet_step (fail) | quiet_step (fail))
              refine wpQuiet_nil ?_
              intro _ hw'
              obtain ⟨⟨dq, osq⟩, hw2⟩ := hw'
              subst hw2
              have ZR := hid (show RowsL (Sort.grow (redrawn wr dq) osq) g 57 (((Z1' ++ [u]) ++ v :: (Z2 ++ R))) from (RowsL.grow ⟨C, hC, hrc⟩ (below_regrown wr dq osq)))
              have ZK := hid (HKP2.out.trans ((Keeps.of_below (g := g) (below_regrown wr dq osq)).mono HKP2.out.size))
              clear a0 b0 hC hrc
              generalize Sort.grow (redrawn wr dq) osq = W9 at *
              have hln : (((Z1' ++ [u]) ++ v :: (Z2 ++ R))).length = k := by
                have h1 := congrArg List.length HLV.out
                have h2 := congrArg List.length hZZ
                have h3 := HLL.out
                simp at h1 h2 ⊢
                omega
              have HLN := hid hln
              clear hln
              by_cases hvu : v.1 < u.1
              · have hd : decide (v.1 < u.1) = true := decide_eq_true hvu
                obtain ⟨C9, hC9, hr9⟩ := ZR.out
                have hs9 := hr9.size
                rw [HLN.out] at hs9
                have HR9 := hid hr9
                have E1 := hid e1
                have E0 := hid e0
                have HZZ := hid hZZ
                clear hZZ
                go_wp2_with fail
                refine gen_world (fun V hV => ?_)
                have YC := hid (show V.heap[g]? = some (.cells C9 57) by rw [hV]; exact hC9)
                have YK := hid (show Keeps g _ _ V by rw [hV]; exact ZK.out)
                clear hV hC9 hr9 e0 e1
                refine gen_act (fun A0 hA => ?_)
                refine wp_region_by (by kernel_rfl) (by kernel_rfl) [some 53, some 54, some 55, some 56, some 57, some 58, some 59, some 60, some 61, some 62, some 63, some 64, some 65, some 66, some 67, none, some 68, none] rfl (by decide) (TwoT V.drew (V.drew.setRow g (ptL C9 (j * 3) (row3 u))) ((V.drew.setRow g (ptL C9 (j * 3) (row3 u))).setRow g (ptL (ptL C9 (j * 3) (row3 u)) ((j - 1) * 3) (row3 v))) 15 17 [0, 1, 5, 6, 7, 8, 9, 13, 14] [.slice (some ⟨g, 0, none⟩) k cap, .int .i64 (j : Int), .slice (some ⟨g, 0, none⟩) k cap, .int .i64 (j : Int), .int .i64 ((j : Int) - 1), .slice (some ⟨g, 0, none⟩) k cap, .int .i64 (j : Int), .int .i64 ((j : Int) - 1), .pointer (some ⟨g, (j - 1) * 3, none⟩), .agg #[.int .i64 u.1, .int .i64 u.2.1, .int .i64 u.2.2], .slice (some ⟨g, 0, none⟩) k cap, .int .i64 (j : Int), .pointer (some ⟨g, j * 3, none⟩), .agg #[.int .i64 v.1, .int .i64 v.2.1, .int .i64 v.2.2], .pointer (some ⟨g, j * 3, none⟩), undef, .pointer (some ⟨g, (j - 1) * 3, none⟩), undef]) (selfF A0 _) (putF_self A0 _) TwoT.start ?hs1_15_W1 ?hend_15_W1
                case hs1_15_W1 =>
                  refine ⟨?_, ?_, ?_, ?_, ?_, ?_, ?_, ?_, ?_, ?_, ?_, ?_, ?_, ?_, ?_, ?_, ?_, ?_, trivial⟩
                  · intro K L us W hK0 hL hd hR
                    have hK := hid (fun v A' h1 h2 => hK0 v A' W h1 (hR.pure 0 (by decide) (by decide) h2)); clear hK0
                    (try simp [Region.binds] at hd)
                    clear hd hR
                    simp only [putF]
                    rw [hA]
                    go_frame
                    go_wp2_with fail
                    exact hK.out _ _ (by rw [hA]; simp only [putF]; kernel_rfl) rfl
                  · intro K L us W hK0 hL hd hR
                    have hK := hid (fun v A' h1 h2 => hK0 v A' W h1 (hR.pure 1 (by decide) (by decide) h2)); clear hK0
                    (try simp [Region.binds] at hd)
                    clear hd hR
                    simp only [putF]
                    rw [hA]
                    go_frame
                    go_wp2_with fail
                    exact hK.out _ _ (by rw [hA]; simp only [putF]; kernel_rfl) rfl
                  · intro K L us W hK0 hL hd hR
                    have hK := hid (fun v A' h1 h2 => hK0 v A' W h1 (hR.pure 2 (by decide) (by decide) h2)); clear hK0
                    (try simp [Region.binds] at hd)
                    clear hd hR
                    simp only [putF]
                    rw [hA]
                    go_frame
                    go_wp2_with fail
                    exact hK.out _ _ (by rw [hA]; simp only [putF]; kernel_rfl) rfl
                  · intro K L us W hK0 hL hd hR
                    have hK := hid (fun v A' h1 h2 => hK0 v A' W h1 (hR.pure 3 (by decide) (by decide) h2)); clear hK0
                    (try simp [Region.binds] at hd)
                    clear hd hR
                    simp only [putF]
                    rw [hA]
                    go_frame
                    go_wp2_with fail
                    exact hK.out _ _ (by rw [hA]; simp only [putF]; kernel_rfl) rfl
                  · intro K L us W hK0 hL hd hR
                    have hK := hid (fun v A' h1 h2 => hK0 v A' W h1 (hR.pure 4 (by decide) (by decide) h2)); clear hK0
                    (try simp [Region.binds] at hd)
                    have e3 : us 3 = .int .i64 (j : Int) := hR.vals 3 (by simp_all) (by decide) (by decide)
                    clear hd hR
                    simp only [putF]
                    rw [hA, e3]
                    go_frame
                    go_wp2_with fail
                    exact hK.out _ _ (by rw [hA]; simp only [putF]; rw [e3]; kernel_rfl) rfl
                  · intro K L us W hK0 hL hd hR
                    have hK := hid (fun v A' h1 h2 => hK0 v A' W h1 (hR.pure 5 (by decide) (by decide) h2)); clear hK0
                    (try simp [Region.binds] at hd)
                    clear hd hR
                    simp only [putF]
                    rw [hA]
                    go_frame
                    go_wp2_with fail
                    exact hK.out _ _ (by rw [hA]; simp only [putF]; kernel_rfl) rfl
                  · intro K L us W hK0 hL hd hR
                    have hK := hid (fun v A' h1 h2 => hK0 v A' W h1 (hR.pure 6 (by decide) (by decide) h2)); clear hK0
                    (try simp [Region.binds] at hd)
                    clear hd hR
                    simp only [putF]
                    rw [hA]
                    go_frame
                    go_wp2_with fail
                    exact hK.out _ _ (by rw [hA]; simp only [putF]; kernel_rfl) rfl
                  · intro K L us W hK0 hL hd hR
                    have hK := hid (fun v A' h1 h2 => hK0 v A' W h1 (hR.pure 7 (by decide) (by decide) h2)); clear hK0
                    (try simp [Region.binds] at hd)
                    have e6 : us 6 = .int .i64 (j : Int) := hR.vals 6 (by simp_all) (by decide) (by decide)
                    clear hd hR
                    simp only [putF]
                    rw [hA, e6]
                    go_frame
                    go_wp2_with fail
                    exact hK.out _ _ (by rw [hA]; simp only [putF]; rw [e6]; kernel_rfl) rfl
                  · intro K L us W hK0 hL hd hR
                    have hK := hid (fun v A' h1 h2 => hK0 v A' W h1 (hR.pure 8 (by decide) (by decide) h2)); clear hK0
                    (try simp [Region.binds] at hd)
                    have e5 : us 5 = .slice (some ⟨g, 0, none⟩) k cap := hR.vals 5 (by simp_all) (by decide) (by decide)
                    have e7 : us 7 = .int .i64 ((j : Int) - 1) := hR.vals 7 (by simp_all) (by decide) (by decide)
                    clear hd hR
                    simp only [putF]
                    rw [hA, e5, e7]
                    go_frame
                    go_wp2_with fail
                    exact hK.out _ _ (by rw [hA]; simp only [putF]; rw [e5, e7]; kernel_rfl) rfl
                  · intro K L us W hK0 hL hd hR
                    have hK := hid (fun v A' h1 h2 => hK0 v A' W h1 (hR.pure 9 (by decide) (by decide) h2)); clear hK0
                    (try simp [Region.binds] at hd)
                    have e8 : us 8 = .pointer (some ⟨g, (j - 1) * 3, none⟩) := hR.vals 8 (by simp_all) (by decide) (by decide)
                    have hW := hR.at0 (k := 9) (by decide) hL
                    clear hd hR
                    subst hW
                    have c0 : V.drew.cell? ⟨g, (j - 1) * 3, none⟩ = some (.int .i64 u.1) := (cell_row YC.out).trans (HR9.out.at0 _ _ E0.out)
                    have c1 : V.drew.cell? ⟨g, (j - 1) * 3 + 1, none⟩ = some (.int .i64 u.2.1) := (cell_row YC.out).trans (HR9.out.at1 _ _ E0.out)
                    have c2 : V.drew.cell? ⟨g, (j - 1) * 3 + 2, none⟩ = some (.int .i64 u.2.2) := (cell_row YC.out).trans (HR9.out.at2 _ _ E0.out)
                    simp only [putF]
                    rw [hA, e8]
                    go_frame
                    go_wp2_with fail
                    exact hK.out _ _ (by rw [hA]; simp only [putF]; rw [e8]; kernel_rfl) rfl
                  · intro K L us W hK0 hL hd hR
                    have hK := hid (fun v A' h1 h2 => hK0 v A' W h1 (hR.pure 10 (by decide) (by decide) h2)); clear hK0
                    (try simp [Region.binds] at hd)
                    clear hd hR
                    simp only [putF]
                    rw [hA]
                    go_frame
                    go_wp2_with fail
                    exact hK.out _ _ (by rw [hA]; simp only [putF]; kernel_rfl) rfl
                  · intro K L us W hK0 hL hd hR
                    have hK := hid (fun v A' h1 h2 => hK0 v A' W h1 (hR.pure 11 (by decide) (by decide) h2)); clear hK0
                    (try simp [Region.binds] at hd)
                    clear hd hR
                    simp only [putF]
                    rw [hA]
                    go_frame
                    go_wp2_with fail
                    exact hK.out _ _ (by rw [hA]; simp only [putF]; kernel_rfl) rfl
                  · intro K L us W hK0 hL hd hR
                    have hK := hid (fun v A' h1 h2 => hK0 v A' W h1 (hR.pure 12 (by decide) (by decide) h2)); clear hK0
                    (try simp [Region.binds] at hd)
                    have e10 : us 10 = .slice (some ⟨g, 0, none⟩) k cap := hR.vals 10 (by simp_all) (by decide) (by decide)
                    have e11 : us 11 = .int .i64 (j : Int) := hR.vals 11 (by simp_all) (by decide) (by decide)
                    clear hd hR
                    simp only [putF]
                    rw [hA, e10, e11]
                    go_frame
                    go_wp2_with fail
                    exact hK.out _ _ (by rw [hA]; simp only [putF]; rw [e10, e11]; kernel_rfl) rfl
                  · intro K L us W hK0 hL hd hR
                    have hK := hid (fun v A' h1 h2 => hK0 v A' W h1 (hR.pure 13 (by decide) (by decide) h2)); clear hK0
                    (try simp [Region.binds] at hd)
                    have e12 : us 12 = .pointer (some ⟨g, j * 3, none⟩) := hR.vals 12 (by simp_all) (by decide) (by decide)
                    have hW := hR.at0 (k := 13) (by decide) hL
                    clear hd hR
                    subst hW
                    have c0 : V.drew.cell? ⟨g, j * 3, none⟩ = some (.int .i64 v.1) := (cell_row YC.out).trans (HR9.out.at0 _ _ E1.out)
                    have c1 : V.drew.cell? ⟨g, j * 3 + 1, none⟩ = some (.int .i64 v.2.1) := (cell_row YC.out).trans (HR9.out.at1 _ _ E1.out)
                    have c2 : V.drew.cell? ⟨g, j * 3 + 2, none⟩ = some (.int .i64 v.2.2) := (cell_row YC.out).trans (HR9.out.at2 _ _ E1.out)
                    simp only [putF]
                    rw [hA, e12]
                    go_frame
                    go_wp2_with fail
                    exact hK.out _ _ (by rw [hA]; simp only [putF]; rw [e12]; kernel_rfl) rfl
                  · intro K L us W hK0 hL hd hR
                    have hK := hid (fun v A' h1 h2 => hK0 v A' W h1 (hR.pure 14 (by decide) (by decide) h2)); clear hK0
                    (try simp [Region.binds] at hd)
                    have e0 : us 0 = .slice (some ⟨g, 0, none⟩) k cap := hR.vals 0 (by simp_all) (by decide) (by decide)
                    have e1 : us 1 = .int .i64 (j : Int) := hR.vals 1 (by simp_all) (by decide) (by decide)
                    clear hd hR
                    simp only [putF]
                    rw [hA, e0, e1]
                    go_frame
                    go_wp2_with fail
                    exact hK.out _ _ (by rw [hA]; simp only [putF]; rw [e0, e1]; kernel_rfl) rfl
                  · intro K L us W hK0 hL hd hR
                    simp [Region.binds] at hd
                    have e14 : us 14 = .pointer (some ⟨g, j * 3, none⟩) := hR.vals 14 (by simp_all) (by decide) (by decide)
                    have e9 : us 9 = .agg #[.int .i64 u.1, .int .i64 u.2.1, .int .i64 u.2.2] := hR.vals 9 (by simp_all) (by decide) (by decide)
                    have hp : ∀ j ∈ [0, 1, 5, 6, 7, 8, 9, 13, 14], L j = true := by
                      intro j hj
                      simp only [List.mem_cons, List.not_mem_nil, or_false] at hj
                      rcases hj with rfl | rfl | rfl | rfl | rfl | rfl | rfl | rfl | rfl
                      all_goals simp_all
                    have hW := (hR.fst (v := undef) hL hp (by decide)).1
                    have hK := hid (fun A' h1 => hK0 undef A' _ h1 (hR.fst hL hp (by decide)).2); clear hK0 hp
                    clear hd hR
                    subst hW
                    simp only [putF]
                    rw [hA, e14, e9]
                    go_frame
                    go_wp2_with (refine pt_store rfl 57 (.tmp 67) (.tmp 62) rfl g (j * 3) _ rfl rfl (show V.drew.heap[g]? = _ from YC.out) size57s rfl (by show j * 3 + 3 ≤ C9.size; omega) rfl ?_)
                    exact hK.out _ (by rw [hA]; simp only [putF]; rw [e14, e9]; kernel_rfl)
                  · intro K L us W hK0 hL hd hR
                    have hK := hid (fun v A' h1 h2 => hK0 v A' W h1 (hR.pure 16 (by decide) (by decide) h2)); clear hK0
                    (try simp [Region.binds] at hd)
                    have e2 : us 2 = .slice (some ⟨g, 0, none⟩) k cap := hR.vals 2 (by simp_all) (by decide) (by decide)
                    have e4 : us 4 = .int .i64 ((j : Int) - 1) := hR.vals 4 (by simp_all) (by decide) (by decide)
                    clear hd hR
                    simp only [putF]
                    rw [hA, e2, e4]
                    go_frame
                    go_wp2_with fail
                    exact hK.out _ _ (by rw [hA]; simp only [putF]; rw [e2, e4]; kernel_rfl) rfl
                  · intro K L us W hK0 hL hd hR
                    simp [Region.binds] at hd
                    have e16 : us 16 = .pointer (some ⟨g, (j - 1) * 3, none⟩) := hR.vals 16 (by simp_all) (by decide) (by decide)
                    have e13 : us 13 = .agg #[.int .i64 v.1, .int .i64 v.2.1, .int .i64 v.2.2] := hR.vals 13 (by simp_all) (by decide) (by decide)
                    have h5 : L 15 = true := by simp_all
                    have hW := (hR.snd (v := undef) h5 hL).1
                    have hK := hid (fun A' h1 => hK0 undef A' _ h1 (hR.snd h5 hL).2); clear hK0
                    clear hd hR
                    subst hW
                    simp only [putF]
                    rw [hA, e16, e13]
                    go_frame
                    go_wp2_with (refine pt_store rfl 57 (.tmp 68) (.tmp 66) rfl g ((j - 1) * 3) _ rfl rfl (setRow_heap _ _ _ _ _ _ (show V.drew.heap[g]? = _ from YC.out)) size57s rfl (by show (j - 1) * 3 + 3 ≤ (ptL C9 (j * 3) _).size; rw [ptL_size]; omega) rfl ?_)
                    exact hK.out _ (by rw [hA]; simp only [putF]; rw [e16, e13]; kernel_rfl)
                intro L us W1 hL hR
                have hW : W1 = (V.drew.setRow g (ptL C9 (j * 3) (row3 u))).setRow g (ptL (ptL C9 (j * 3) (row3 u)) ((j - 1) * 3) (row3 v)) := by have := hR.wld; rw [hL 17 (by decide)] at this; exact this
                clear hR hL
                simp only [putF]
                rw [hA]
                clear hA
                go_frame
                subst hW
                have ZS : RowsL ((V.drew.setRow g (ptL C9 (j * 3) (row3 u))).setRow g (ptL (ptL C9 (j * 3) (row3 u)) ((j - 1) * 3) (row3 v))) g 57 (Z1' ++ v :: ((u :: Z2) ++ R)) := by
                  refine ⟨_, setRow_heap _ _ _ _ _ _ (setRow_heap _ _ _ _ _ _ (show V.drew.heap[g]? = _ from YC.out)), ?_⟩
                  have q1 := (HR9.out.set (i := j) (by rw [HLN.out]; omega) u).set (i := j - 1) (by rw [List.length_set, HLN.out]; omega) v
                  have q := two_set Z1' (Z2 ++ R) u v
                  rw [show Z1'.length = j - 1 by omega, show j - 1 + 1 = j by omega] at q
                  rw [show (Z1' ++ [u]) ++ v :: (Z2 ++ R) = Z1' ++ u :: v :: (Z2 ++ R) by simp, q] at q1
                  simpa using q1
                have ZT := ((YK.out.drew).setRow (ptL C9 (j * 3) (row3 u))).setRow (ptL (ptL C9 (j * 3) (row3 u)) ((j - 1) * 3) (row3 v))
                go_wp2_with fail
                go_roundw
                case rel => exact ⟨j - 1, Z1', u :: Z2, by omega, by congr 1; omega, by rw [HZZ.out]; simp, by omega, (fun a ha => by
                  rcases List.mem_cons.1 ha with rfl | h
                  · exact hvu
                  · exact HZ2.out a h), ZS, ZT⟩
                case measure => simp [intOf]; omega
              · have hd : decide (v.1 < u.1) = false := decide_eq_false hvu
                obtain ⟨q1, q2⟩ := ins_end (Z1 := Z1' ++ [u]) (by rw [← hZZ]; exact HZ.out) HLV.out HZ2.out (fun a ha => by
                  have hup := (up_append.1 (show Up keyS (Z1' ++ ([u] ++ Z2)) by rw [← List.append_assoc, ← hZZ]; exact HZ.out.1)).2.2
                  rcases List.mem_append.1 ha with h | h
                  · have := hup a h u (by simp)
                    show a.1 ≤ v.1
                    have h3 : a.1 ≤ u.1 := this
                    omega
                  · rw [List.mem_singleton.1 h]
                    show u.1 ≤ v.1
                    omega)
                have Q1 := hid q1
                have Q2 := hid q2
                have hZZl := congrArg List.length hZZ
                have HZZL := hid hZZl
                clear q1 q2 hZZ hZZl
                go_wp2_with fail
                refine ⟨⟨i + 1, (Z1' ++ [u]) ++ v :: Z2, by omega, by go_num, Q1.out, ?_, ?_, ZK.out⟩, by simp [intOf]; omega⟩
                · have := HZZL.out
                  simp at this ⊢
                  omega
                · rw [Q2.out]
                  simpa using ZR.out
            · have hg : decide ((0 : Int) < (j : Int)) = false := decide_eq_false (by omega)
              go_wp2_with fail
              refine wp_region_quiet_below (by kernel_rfl) (by kernel_rfl) ?_
              repeat (first | go_big_quiet_step (fail) | quiet_step (fail))
              refine wpQuiet_nil ?_
              intro _ hw'
              obtain ⟨⟨dq, osq⟩, hw2⟩ := hw'
              subst hw2
              have ZR := hid (HRW2.out.grow (below_regrown wr dq osq))
              have ZK := hid (HKP2.out.trans ((Keeps.of_below (g := g) (below_regrown wr dq osq)).mono HKP2.out.size))
              generalize Sort.grow (redrawn wr dq) osq = W9 at *
              obtain rfl : Z1 = [] := List.eq_nil_of_length_eq_zero (by omega)
              obtain ⟨q1, q2⟩ := ins_end (Z1 := []) (by rw [← hZZ]; exact HZ.out) HLV.out HZ2.out (by simp)
              have Q1 := hid q1
              have Q2 := hid q2
              have hZZl := congrArg List.length hZZ
              have HZZL := hid hZZl
              clear q1 q2 hZZ hZZl
              go_wp2_with fail
              refine ⟨⟨i + 1, v :: Z2, by omega, by go_num, Q1.out, ?_, ?_, ZK.out⟩, by simp [intOf]; omega⟩
              · have := HZZL.out
                simp at this ⊢
                omega
              · rw [Q2.out]
                simpa using ZR.out
        · have hik2 : i = k := by omega
          have HST := hid (show Stab keyS L Z by have h := HZ.out; rwa [List.take_of_length_le (by have := HLL.out; omega)] at h)
          have HRZ0 := hid (show RowsL wr g 57 Z by have h := HRW.out; rwa [List.drop_of_length_le (by have := HLL.out; omega), List.append_nil] at h)
          have HB0 := hid (show Below w.heap.size w wr from HBwr.out.trans ((HKP.out.mono HBwr.out.size).below hg0))
          have hgw0 : g < wr.heap.size := by have := HKP.out.size; omega
          have HZV := hid (show ∀ x ∈ Z, syncR x from fun x hx => HV.out x ((HST.out.2.mem x).1 hx))
          clear HZ HRW HBwr hzwr HRL
          subst hik2
          go_wp2_with fail
          go_loopw [9, 72] (fun ov iv W => ∃ (m : Nat) (O : List Syn), m ≤ i ∧ iv = .int .i64 (m : Int) ∧ O = (Z.take m).foldl clockStep [] ∧ OwnL W (g + 1) 99 ov O.reverse ∧ RowsL W g 57 Z ∧ Below w.heap.size w W ∧ g < W.heap.size) (fun _ iv _ => i - (intOf iv).toNat)
          case atStart => exact ⟨0, [], by omega, rfl, rfl, OwnL.nil _ _ _, HRZ0.out, HB0.out, hgw0⟩
          case round =>
            obtain ⟨m, O, hmi, rfl, hO, hown, hrz, hB, hgw⟩ := hrel
            have HBwr := hid hB
            have hzwr := hB.size
            have HOWN := hid hown
            have HRZ := hid hrz
            have HOO := hid hO
            clear hB hown hrz hO
            by_cases hlt2 : m < i
            · obtain ⟨x, hx⟩ : ∃ x, Z[m]? = some x := ⟨_, List.getElem?_eq_getElem (by omega)⟩
              have HSTP := hid (step_take hx)
              have HXV := hid (HZV.out x (List.mem_of_getElem? hx))
              obtain ⟨c0, c1, c2⟩ := HRZ.out.cell hx
              clear hx
              obtain ⟨xa, xp, xe⟩ := x
              have hxb : (0 ≤ xa ∧ xa ≤ 1125899906842624) ∧ (0 ≤ xp ∧ xp ≤ 1125899906842624) ∧ (0 ≤ xe ∧ xe ≤ 1125899906842624) := HXV.out
              go_wp2_with fail
              refine gen_world (fun V hV => ?_)
              have YX := hid (show V.heap[wr.heap.size]? = some (.cells #[.int .i64 xa, .int .i64 xp, .int .i64 xe] 57) by rw [hV]; exact heap_alloc_at _ _ _ rfl)
              have YN := hid (show OwnL V (g + 1) 99 u9 O.reverse by rw [hV]; exact HOWN.out.grow ((Below.refl _ _).alloc (Nat.le_refl _) _))
              have YR := hid (show RowsL V g 57 Z by rw [hV]; exact HRZ.out.grow ((Below.refl _ _).alloc (Nat.le_refl _) _))
              have YW := hid (show Below w.heap.size w V by rw [hV]; exact HBwr.out.alloc hzwr _)
              have YZ : V.heap.size = wr.heap.size + 1 := by rw [hV]; simp
              clear hV c0 c1 c2 HOWN HRZ HBwr
              have a0 := fun d os => cell_regrown (w := V) ((cell_row (j := 0) YX.out).trans rfl) d os
              have a1 := fun d os => cell_regrown (w := V) ((cell_row (j := 1) YX.out).trans rfl) d os
              have a2 := fun d os => cell_regrown (w := V) ((cell_row (j := 2) YX.out).trans rfl) d os
              refine wp_region_quiet_below (by kernel_rfl) (by kernel_rfl) ?_
              repeat (first | go_big_quiet_step (fail) | quiet_step (fail))
              refine wpQuiet_nil ?_
              intro _ hw'
              obtain ⟨⟨dq, osq⟩, hw2⟩ := hw'
              subst hw2
              have hbq := below_regrown V dq osq
              have ZX := hid (heap_still hbq YX.out)
              have ZN := hid (YN.out.grow hbq)
              have ZR := hid (YR.out.grow hbq)
              have ZW := hid (YW.out.trans (hbq.mono YW.out.size))
              have hz9 := hbq.size
              clear a0 a1 a2 YX YN YR YW hbq
              generalize Sort.grow (redrawn V dq) osq = W9 at *
              generalize hlx : xp - xa - xe = lx at *
              generalize hhx : xp - xa + xe = hx at *
              have HLX := hid hlx
              have HHX := hid hhx
              clear hlx hhx
              match O with
              | [] =>
                obtain ⟨av, cap3, hv3⟩ := ZN.out.slice
                have hv3' : u9 = .slice av 0 cap3 := hv3
                subst hv3'
                have hg : decide ((0 : Int) < ((0 : Nat) : Int)) = false := by decide
                go_wp2_with fail
                refine gen_world (fun V hV => ?_)
                have YX := hid (show V.heap[wr.heap.size]? = some (.cells #[.int .i64 xa, .int .i64 xp, .int .i64 xe] 57) by rw [hV]; exact ZX.out)
                have YN := hid (show OwnL V (g + 1) 99 (.slice av 0 cap3) [] by rw [hV]; exact ZN.out)
                have YR := hid (show RowsL V g 57 Z by rw [hV]; exact ZR.out)
                have YW := hid (show Below w.heap.size w V by rw [hV]; exact ZW.out)
                have hzv : W9.heap.size = V.heap.size := by rw [hV]
                clear hV ZX ZN ZR ZW
                refine wp_region_quiet_below (by kernel_rfl) (by kernel_rfl) ?_
                repeat (first | go_big_quiet_step (fail) | quiet_step (fail))
                refine wpQuiet_nil ?_
                intro _ hw'
                obtain ⟨⟨dq2, osq2⟩, hw2⟩ := hw'
                subst hw2
                have hbq := below_regrown V dq2 osq2
                have ZX := hid (heap_still hbq YX.out)
                have ZN := hid (YN.out.grow hbq)
                have ZR := hid (YR.out.grow hbq)
                have ZW := hid (YW.out.trans (hbq.mono YW.out.size))
                have hz8 := hbq.size
                clear YX YN YR YW hbq
                generalize Sort.grow (redrawn V dq2) osq2 = W8 at *
                have q0 : W8.cell? ⟨wr.heap.size, 0, none⟩ = some (.int .i64 xa) := (cell_row (j := 0) ZX.out).trans rfl
                have HOA := hid (show World.ownsRow (W8.alloc (.cells #[.int .i64 xa, .int .i64 lx, .int .i64 hx] 99)) (g + 1) 99 3 (.slice av 0 cap3) 0 (rowsOf []) from ZN.out.grow ((Below.refl _ _).alloc (Nat.le_refl _) _))
                have HRA := hid (show RowsL (W8.alloc (.cells #[.int .i64 xa, .int .i64 lx, .int .i64 hx] 99)) g 57 Z from ZR.out.grow ((Below.refl _ _).alloc (Nat.le_refl _) _))
                have HBA := hid (show Below w.heap.size w (W8.alloc (.cells #[.int .i64 xa, .int .i64 lx, .int .i64 hx] 99)) from ZW.out.alloc (by omega) _)
                have HOW := hid (show OwnL _ (g + 1) 99 (.slice av 0 cap3) [] from HOA.out)
                have HNL := hid (show 0 = ([] : List Syn).length from rfl)
                have hgm : g + 1 ≤ W8.heap.size + 1 := by omega
                go_wp2_with (at_builtin; refine wpList_append_own _ rfl (.tmp 141) (.tmp 148) 50 rfl (g + 1) 99 i0 _ 3 24 Try.underlying50 HI.out HZ0.out HZ1.out HZ2.out rfl (by decide) _ 0 (rowsOf []) rfl HOA.out ⟨W8.heap.size, 0, none⟩ 1 1 (row3 (xa, lx, hx)) rfl rfl (fun j u hu => cells_back (heap_alloc_at _ _ _ (by simp)) j u hu) (row3_one _) (by unfold maxLen; omega) (by omega) (by simp; omega) ?_; intro v' w5 hown5 hgrow5 hnil5)
                have HO5 := hid (OwnL.snoc HNL.out hown5)
                have HR5 := hid (HRA.out.grown HOW.out (Nat.lt_succ_self g) hgrow5)
                have HB5 := hid (HBA.out.grown hgrow5 (by simp; omega) (fun k hk => Nat.le_trans (by omega) (OwnL.ownBlock HOW.out k hk)))
                have hs5 := hgrow5.size
                (try simp at hs5)
                clear hown5 hgrow5 hnil5
                go_roundw
                case rel => exact ⟨m + 1, _, by omega, by go_num, HSTP.out.symm, by rw [← HOO.out]; show OwnL w5 (g + 1) 99 _ [(xa, offLo (xa, xp, xe), offHi (xa, xp, xe))]; rw [show offLo (xa, xp, xe) = lx from HLX.out, show offHi (xa, xp, xe) = hx from HHX.out]; exact HO5.out, HR5.out, HB5.out, by omega⟩
                case measure => simp [intOf]; omega
              | (cf, cl, ch) :: O =>
                have hol : ((cf, cl, ch) :: O).reverse = O.reverse ++ [(cf, cl, ch)] := List.reverse_cons
                rw [hol] at ZN
                obtain ⟨g2, cap3, cur3, hv3, hg2, hc3, hr3, hle3, hcap3, hsz3⟩ := ZN.out.rows (by simp)
                have hlen : (O.reverse ++ [(cf, cl, ch)]).length = O.length + 1 := by simp
                rw [hlen] at hv3 hle3
                subst hv3
                have HC3 := hid hc3
                have HR3 := hid hr3
                have hg2s : g2 < W9.heap.size := (Array.getElem?_eq_some_iff.1 hc3).1
                have HSZ3 := hid hsz3
                have HL3 := hid (last_at O (cf, cl, ch))
                clear hc3 hr3 hlen hol hsz3
                generalize ho : O.length = o at *
                have HM := hid ho
                have hmb : o + 1 ≤ 40 := by
                  have h1 := (fold_length (Z.take m) []).1
                  rw [← HOO.out, List.length_take, List.length_cons] at h1
                  simp at h1
                  omega
                clear ho
                have hmb2 : o * 3 + 3 ≤ cur3.size := by have := HSZ3.out; omega
                have hg : decide ((0 : Int) < (o : Int) + 1) = true := decide_eq_true (by omega)
                go_wp2_with fail
                refine gen_world (fun V hV => ?_)
                have YX := hid (show V.heap[wr.heap.size]? = some (.cells #[.int .i64 xa, .int .i64 xp, .int .i64 xe] 57) by rw [hV]; exact ZX.out)
                have YC := hid (show V.heap[g2]? = some (.cells cur3 99) by rw [hV]; exact HC3.out)
                have YR := hid (show RowsL V g 57 Z by rw [hV]; exact ZR.out)
                have YW := hid (show Below w.heap.size w V by rw [hV]; exact ZW.out)
                have hzv : W9.heap.size = V.heap.size := by rw [hV]
                clear hV ZX ZN ZR ZW HC3
                have d1 := fun d os => cell_regrown (w := V) ((cell_row YC.out).trans (HR3.out.at1 _ _ HL3.out)) d os
                have d2 := fun d os => cell_regrown (w := V) ((cell_row YC.out).trans (HR3.out.at2 _ _ HL3.out)) d os
                refine wp_region_quiet_below (by kernel_rfl) (by kernel_rfl) ?_
                repeat (first | go_big_quiet_step (fail) | quiet_step (fail))
                refine wpQuiet_nil ?_
                intro _ hw'
                obtain ⟨⟨dq2, osq2⟩, hw2⟩ := hw'
                subst hw2
                have hbq := below_regrown V dq2 osq2
                have ZX := hid (heap_still hbq YX.out)
                have ZC := hid (heap_still hbq YC.out)
                have ZR := hid (YR.out.grow hbq)
                have ZW := hid (YW.out.trans (hbq.mono YW.out.size))
                have hz8 := hbq.size
                clear d1 d2 YX YC YR YW hbq
                generalize Sort.grow (redrawn V dq2) osq2 = W8 at *
                generalize hmx : (if lx < cl then cl else lx) = mx at *
                generalize hmn : (if ch < hx then ch else hx) = mn at *
                have HMX := hid (show mx = max lx cl by rw [← hmx]; split <;> omega)
                have HMN := hid (show mn = min hx ch by rw [← hmn]; split <;> omega)
                clear hmx hmn
                have HPT := hid (show ptL cur3 (o * 3 + 1) [.int .i64 (max lx cl), .int .i64 (min hx ch)] = ptL cur3 (o * 3) (row3 (cf, max lx cl, min hx ch)) from ptL_two (show cur3[o * 3]? = some (.int .i64 cf) from HR3.out.at0 _ _ HL3.out))
                by_cases hc : max lx cl ≤ min hx ch
                · have hcm : mx ≤ mn := by rw [HMX.out, HMN.out]; exact hc
                  have hd : decide (mx ≤ mn) = true := decide_eq_true hcm
                  rw [hd]
                  have HSTEP := hid (show clockStep ((cf, cl, ch) :: O) (xa, xp, xe) = (cf, max lx cl, min hx ch) :: O by
                    show (if max cl (offLo (xa, xp, xe)) ≤ min ch (offHi (xa, xp, xe)) then _ else _) = _
                    rw [show offLo (xa, xp, xe) = lx from HLX.out, show offHi (xa, xp, xe) = hx from HHX.out, Int.max_comm cl lx, Int.min_comm ch hx, if_pos hc])
                  go_wp2_with fail
                  refine gen_world (fun V2 hV => ?_)
                  have YC := hid (show V2.heap[g2]? = some (.cells cur3 99) by rw [hV]; exact ZC.out)
                  have YR := hid (show RowsL V2 g 57 Z by rw [hV]; exact ZR.out)
                  have YW := hid (show Below w.heap.size w V2 by rw [hV]; exact ZW.out)
                  have hzv2 : V2.heap.size = W8.heap.size := by rw [hV]
                  clear hV ZX ZC ZR ZW
                  refine gen_act (fun A0 hA => ?_)
                  refine wp_region_tail (by kernel_rfl) (by kernel_rfl) [some 117, some 118, some 119, some 120, some 121, some 122, some 123, some 124, some 125, some 126, some 127, some 128, some 129, some 130, some 131, some 132, some 133, some 134, some 135, some 136, some 137, some 138, some 139, some 140, none] rfl (by decide) 24 (by decide) (by kernel_rfl) (by kernel_rfl)
                    [IsV (.slice (some ⟨g2, 0, none⟩) (o + 1) cap3), IsV (.int .i64 ((o : Int) + 1)), IsV (.int .i64 (o : Int)), IsV (.int .i64 lx), IsV (.slice (some ⟨g2, 0, none⟩) (o + 1) cap3), IsV (.int .i64 ((o : Int) + 1)), IsV (.int .i64 (o : Int)), IsV (.pointer (some ⟨g2, o * 3, none⟩)), IsV (.pointer (some ⟨g2, o * 3 + 1, none⟩)), IsV (.pointer (some ⟨g2, o * 3 + 1, none⟩)), IsV (.int .i64 cl), IsV (.int .i64 (max lx cl)), IsV (.int .i64 hx), IsV (.slice (some ⟨g2, 0, none⟩) (o + 1) cap3), IsV (.int .i64 ((o : Int) + 1)), IsV (.int .i64 (o : Int)), IsV (.pointer (some ⟨g2, o * 3, none⟩)), IsV (.pointer (some ⟨g2, o * 3 + 1, none⟩)), IsV (.pointer (some ⟨g2, o * 3 + 2, none⟩)), IsV (.int .i64 ch), IsV (.int .i64 (min hx ch)), IsV (.agg #[.int .i64 (max lx cl), .int .i64 (min hx ch)]), IsV (.pointer (some ⟨g2, o * 3, none⟩)), IsV (.pointer (some ⟨g2, o * 3 + 1, none⟩))]
                    ⟨IsV.stb _, IsV.stb _, IsV.stb _, IsV.stb _, IsV.stb _, IsV.stb _, IsV.stb _, IsV.stb _, IsV.stb _, IsV.stb _, IsV.stb _, IsV.stb _, IsV.stb _, IsV.stb _, IsV.stb _, IsV.stb _, IsV.stb _, IsV.stb _, IsV.stb _, IsV.stb _, IsV.stb _, IsV.stb _, IsV.stb _, IsV.stb _, trivial⟩ ?hs1_24_V7 ?hend_24_V7
                  case hs1_24_V7 =>
                    refine ⟨?_, ?_, ?_, ?_, ?_, ?_, ?_, ?_, ?_, ?_, ?_, ?_, ?_, ?_, ?_, ?_, ?_, ?_, ?_, ?_, ?_, ?_, ?_, ?_, trivial⟩
                    · intro K us W hK0 hB hd
                      have hK := hid hK0; clear hK0
                      have HBW := hid hB
                      have hsW := hB.size
                      have GB := hid (YW.out.trans (hB.mono YW.out.size))
                      clear hd
                      simp only [putF]
                      rw [hA]
                      go_frame
                      go_wp2_with fail
                      exact hK.out _ _ _ (by rw [hA]; simp only [putF]; kernel_rfl) (Below.refl _ _) rfl
                    · intro K us W hK0 hB hd
                      have hK := hid hK0; clear hK0
                      have HBW := hid hB
                      have hsW := hB.size
                      have GB := hid (YW.out.trans (hB.mono YW.out.size))
                      clear hd
                      simp only [putF]
                      rw [hA]
                      go_frame
                      go_wp2_with fail
                      exact hK.out _ _ _ (by rw [hA]; simp only [putF]; kernel_rfl) (Below.refl _ _) rfl
                    · intro K us W hK0 hB hd
                      have hK := hid hK0; clear hK0
                      have HBW := hid hB
                      have hsW := hB.size
                      have GB := hid (YW.out.trans (hB.mono YW.out.size))
                      have e1 : us 1 = .int .i64 ((o : Int) + 1) := hd ⟨1, Ground.data⟩ (by simp) rfl
                      clear hd
                      simp only [putF]
                      rw [hA, e1]
                      go_frame
                      go_wp2_with fail
                      exact hK.out _ _ _ (by rw [hA]; simp only [putF]; rw [e1]; kernel_rfl) (Below.refl _ _) rfl
                    · intro K us W hK0 hB hd
                      have hK := hid hK0; clear hK0
                      have HBW := hid hB
                      have hsW := hB.size
                      have GB := hid (YW.out.trans (hB.mono YW.out.size))
                      clear hd
                      simp only [putF]
                      rw [hA]
                      go_frame
                      go_wp2_with fail
                      exact hK.out _ _ _ (by rw [hA]; simp only [putF]; kernel_rfl) (Below.refl _ _) rfl
                    · intro K us W hK0 hB hd
                      have hK := hid hK0; clear hK0
                      have HBW := hid hB
                      have hsW := hB.size
                      have GB := hid (YW.out.trans (hB.mono YW.out.size))
                      clear hd
                      simp only [putF]
                      rw [hA]
                      go_frame
                      go_wp2_with fail
                      exact hK.out _ _ _ (by rw [hA]; simp only [putF]; kernel_rfl) (Below.refl _ _) rfl
                    · intro K us W hK0 hB hd
                      have hK := hid hK0; clear hK0
                      have HBW := hid hB
                      have hsW := hB.size
                      have GB := hid (YW.out.trans (hB.mono YW.out.size))
                      clear hd
                      simp only [putF]
                      rw [hA]
                      go_frame
                      go_wp2_with fail
                      exact hK.out _ _ _ (by rw [hA]; simp only [putF]; kernel_rfl) (Below.refl _ _) rfl
                    · intro K us W hK0 hB hd
                      have hK := hid hK0; clear hK0
                      have HBW := hid hB
                      have hsW := hB.size
                      have GB := hid (YW.out.trans (hB.mono YW.out.size))
                      have e5 : us 5 = .int .i64 ((o : Int) + 1) := hd ⟨5, Ground.data⟩ (by simp) rfl
                      clear hd
                      simp only [putF]
                      rw [hA, e5]
                      go_frame
                      go_wp2_with fail
                      exact hK.out _ _ _ (by rw [hA]; simp only [putF]; rw [e5]; kernel_rfl) (Below.refl _ _) rfl
                    · intro K us W hK0 hB hd
                      have hK := hid hK0; clear hK0
                      have HBW := hid hB
                      have hsW := hB.size
                      have GB := hid (YW.out.trans (hB.mono YW.out.size))
                      have e4 : us 4 = .slice (some ⟨g2, 0, none⟩) (o + 1) cap3 := hd ⟨4, Ground.data⟩ (by simp) rfl
                      have e6 : us 6 = .int .i64 (o : Int) := hd ⟨6, Ground.data⟩ (by simp) rfl
                      clear hd
                      simp only [putF]
                      rw [hA, e4, e6]
                      go_frame
                      go_wp2_with fail
                      exact hK.out _ _ _ (by rw [hA]; simp only [putF]; rw [e4, e6]; kernel_rfl) (Below.refl _ _) rfl
                    · intro K us W hK0 hB hd
                      have hK := hid hK0; clear hK0
                      have HBW := hid hB
                      have hsW := hB.size
                      have GB := hid (YW.out.trans (hB.mono YW.out.size))
                      have e7 : us 7 = .pointer (some ⟨g2, o * 3, none⟩) := hd ⟨7, Ground.data⟩ (by simp) rfl
                      clear hd
                      simp only [putF]
                      rw [hA, e7]
                      go_frame
                      go_wp2_with fail
                      exact hK.out _ _ _ (by rw [hA]; simp only [putF]; rw [e7]; kernel_rfl) (Below.refl _ _) rfl
                    · intro K us W hK0 hB hd
                      have hK := hid hK0; clear hK0
                      have HBW := hid hB
                      have hsW := hB.size
                      have GB := hid (YW.out.trans (hB.mono YW.out.size))
                      have e8 : us 8 = .pointer (some ⟨g2, o * 3 + 1, none⟩) := hd ⟨8, Ground.data⟩ (by simp) rfl
                      clear hd
                      simp only [putF]
                      rw [hA, e8]
                      go_frame
                      go_wp2_with fail
                      exact hK.out _ _ _ (by rw [hA]; simp only [putF]; rw [e8]; kernel_rfl) (Below.refl _ _) rfl
                    · intro K us W hK0 hB hd
                      have hK := hid hK0; clear hK0
                      have HBW := hid hB
                      have hsW := hB.size
                      have GB := hid (YW.out.trans (hB.mono YW.out.size))
                      have e9 : us 9 = .pointer (some ⟨g2, o * 3 + 1, none⟩) := hd ⟨9, Ground.data⟩ (by simp) rfl
                      clear hd
                      have c0 : W.cell? ⟨g2, o * 3 + 1, none⟩ = some (.int .i64 cl) := (cell_row (heap_still hB YC.out)).trans (HR3.out.at1 _ _ HL3.out)
                      simp only [putF]
                      rw [hA, e9]
                      go_frame
                      go_wp2_with fail
                      exact hK.out _ _ _ (by rw [hA]; simp only [putF]; rw [e9]; kernel_rfl) (Below.refl _ _) rfl
                    · intro K us W hK0 hB hd
                      have hK := hid hK0; clear hK0
                      have HBW := hid hB
                      have hsW := hB.size
                      have GB := hid (YW.out.trans (hB.mono YW.out.size))
                      have e3 : us 3 = .int .i64 lx := hd ⟨3, Ground.data⟩ (by simp) rfl
                      have e10 : us 10 = .int .i64 cl := hd ⟨10, Ground.data⟩ (by simp) rfl
                      clear hd
                      simp only [putF]
                      rw [hA, e3, e10]
                      go_frame
                      go_wp2_with fail
                      · exact hK.out (.int .i64 cl) _ _ (by rw [hA]; simp only [putF]; rw [e3, e10]; kernel_rfl) (Below.refl _ _) (by show Value.int _ _ = Value.int _ _; congr 1; omega)
                      · exact hK.out (.int .i64 lx) _ _ (by rw [hA]; simp only [putF]; rw [e3, e10]; kernel_rfl) (Below.refl _ _) (by show Value.int _ _ = Value.int _ _; congr 1; omega)
                    · intro K us W hK0 hB hd
                      have hK := hid hK0; clear hK0
                      have HBW := hid hB
                      have hsW := hB.size
                      have GB := hid (YW.out.trans (hB.mono YW.out.size))
                      clear hd
                      simp only [putF]
                      rw [hA]
                      go_frame
                      go_wp2_with fail
                      exact hK.out _ _ _ (by rw [hA]; simp only [putF]; kernel_rfl) (Below.refl _ _) rfl
                    · intro K us W hK0 hB hd
                      have hK := hid hK0; clear hK0
                      have HBW := hid hB
                      have hsW := hB.size
                      have GB := hid (YW.out.trans (hB.mono YW.out.size))
                      clear hd
                      simp only [putF]
                      rw [hA]
                      go_frame
                      go_wp2_with fail
                      exact hK.out _ _ _ (by rw [hA]; simp only [putF]; kernel_rfl) (Below.refl _ _) rfl
                    · intro K us W hK0 hB hd
                      have hK := hid hK0; clear hK0
                      have HBW := hid hB
                      have hsW := hB.size
                      have GB := hid (YW.out.trans (hB.mono YW.out.size))
                      clear hd
                      simp only [putF]
                      rw [hA]
                      go_frame
                      go_wp2_with fail
                      exact hK.out _ _ _ (by rw [hA]; simp only [putF]; kernel_rfl) (Below.refl _ _) rfl
                    · intro K us W hK0 hB hd
                      have hK := hid hK0; clear hK0
                      have HBW := hid hB
                      have hsW := hB.size
                      have GB := hid (YW.out.trans (hB.mono YW.out.size))
                      have e14 : us 14 = .int .i64 ((o : Int) + 1) := hd ⟨14, Ground.data⟩ (by simp) rfl
                      clear hd
                      simp only [putF]
                      rw [hA, e14]
                      go_frame
                      go_wp2_with fail
                      exact hK.out _ _ _ (by rw [hA]; simp only [putF]; rw [e14]; kernel_rfl) (Below.refl _ _) rfl
                    · intro K us W hK0 hB hd
                      have hK := hid hK0; clear hK0
                      have HBW := hid hB
                      have hsW := hB.size
                      have GB := hid (YW.out.trans (hB.mono YW.out.size))
                      have e13 : us 13 = .slice (some ⟨g2, 0, none⟩) (o + 1) cap3 := hd ⟨13, Ground.data⟩ (by simp) rfl
                      have e15 : us 15 = .int .i64 (o : Int) := hd ⟨15, Ground.data⟩ (by simp) rfl
                      clear hd
                      simp only [putF]
                      rw [hA, e13, e15]
                      go_frame
                      go_wp2_with fail
                      exact hK.out _ _ _ (by rw [hA]; simp only [putF]; rw [e13, e15]; kernel_rfl) (Below.refl _ _) rfl
                    · intro K us W hK0 hB hd
                      have hK := hid hK0; clear hK0
                      have HBW := hid hB
                      have hsW := hB.size
                      have GB := hid (YW.out.trans (hB.mono YW.out.size))
                      have e16 : us 16 = .pointer (some ⟨g2, o * 3, none⟩) := hd ⟨16, Ground.data⟩ (by simp) rfl
                      clear hd
                      simp only [putF]
                      rw [hA, e16]
                      go_frame
                      go_wp2_with fail
                      exact hK.out _ _ _ (by rw [hA]; simp only [putF]; rw [e16]; kernel_rfl) (Below.refl _ _) rfl
                    · intro K us W hK0 hB hd
                      have hK := hid hK0; clear hK0
                      have HBW := hid hB
                      have hsW := hB.size
                      have GB := hid (YW.out.trans (hB.mono YW.out.size))
                      have e17 : us 17 = .pointer (some ⟨g2, o * 3 + 1, none⟩) := hd ⟨17, Ground.data⟩ (by simp) rfl
                      clear hd
                      simp only [putF]
                      rw [hA, e17]
                      go_frame
                      go_wp2_with fail
                      exact hK.out _ _ _ (by rw [hA]; simp only [putF]; rw [e17]; kernel_rfl) (Below.refl _ _) rfl
                    · intro K us W hK0 hB hd
                      have hK := hid hK0; clear hK0
                      have HBW := hid hB
                      have hsW := hB.size
                      have GB := hid (YW.out.trans (hB.mono YW.out.size))
                      have e18 : us 18 = .pointer (some ⟨g2, o * 3 + 2, none⟩) := hd ⟨18, Ground.data⟩ (by simp) rfl
                      clear hd
                      have c0 : W.cell? ⟨g2, o * 3 + 2, none⟩ = some (.int .i64 ch) := (cell_row (heap_still hB YC.out)).trans (HR3.out.at2 _ _ HL3.out)
                      simp only [putF]
                      rw [hA, e18]
                      go_frame
                      go_wp2_with fail
                      exact hK.out _ _ _ (by rw [hA]; simp only [putF]; rw [e18]; kernel_rfl) (Below.refl _ _) rfl
                    · intro K us W hK0 hB hd
                      have hK := hid hK0; clear hK0
                      have HBW := hid hB
                      have hsW := hB.size
                      have GB := hid (YW.out.trans (hB.mono YW.out.size))
                      have e12 : us 12 = .int .i64 hx := hd ⟨12, Ground.data⟩ (by simp) rfl
                      have e19 : us 19 = .int .i64 ch := hd ⟨19, Ground.data⟩ (by simp) rfl
                      clear hd
                      simp only [putF]
                      rw [hA, e12, e19]
                      go_frame
                      go_wp2_with fail
                      · exact hK.out (.int .i64 ch) _ _ (by rw [hA]; simp only [putF]; rw [e12, e19]; kernel_rfl) (Below.refl _ _) (by show Value.int _ _ = Value.int _ _; congr 1; omega)
                      · exact hK.out (.int .i64 hx) _ _ (by rw [hA]; simp only [putF]; rw [e12, e19]; kernel_rfl) (Below.refl _ _) (by show Value.int _ _ = Value.int _ _; congr 1; omega)
                    · intro K us W hK0 hB hd
                      have hK := hid hK0; clear hK0
                      have HBW := hid hB
                      have hsW := hB.size
                      have GB := hid (YW.out.trans (hB.mono YW.out.size))
                      have e11 : us 11 = .int .i64 (max lx cl) := hd ⟨11, Ground.data⟩ (by simp) rfl
                      have e20 : us 20 = .int .i64 (min hx ch) := hd ⟨20, Ground.data⟩ (by simp) rfl
                      clear hd
                      simp only [putF]
                      rw [hA, e11, e20]
                      go_frame
                      go_wp2_with fail
                      exact hK.out _ _ _ (by rw [hA]; simp only [putF]; rw [e11, e20]; kernel_rfl) (Below.refl _ _) rfl
                    · intro K us W hK0 hB hd
                      have hK := hid hK0; clear hK0
                      have HBW := hid hB
                      have hsW := hB.size
                      have GB := hid (YW.out.trans (hB.mono YW.out.size))
                      have e0 : us 0 = .slice (some ⟨g2, 0, none⟩) (o + 1) cap3 := hd ⟨0, Ground.data⟩ (by simp) rfl
                      have e2 : us 2 = .int .i64 (o : Int) := hd ⟨2, Ground.data⟩ (by simp) rfl
                      clear hd
                      simp only [putF]
                      rw [hA, e0, e2]
                      go_frame
                      go_wp2_with fail
                      exact hK.out _ _ _ (by rw [hA]; simp only [putF]; rw [e0, e2]; kernel_rfl) (Below.refl _ _) rfl
                    · intro K us W hK0 hB hd
                      have hK := hid hK0; clear hK0
                      have HBW := hid hB
                      have hsW := hB.size
                      have GB := hid (YW.out.trans (hB.mono YW.out.size))
                      have e22 : us 22 = .pointer (some ⟨g2, o * 3, none⟩) := hd ⟨22, Ground.data⟩ (by simp) rfl
                      clear hd
                      simp only [putF]
                      rw [hA, e22]
                      go_frame
                      go_wp2_with fail
                      exact hK.out _ _ _ (by rw [hA]; simp only [putF]; rw [e22]; kernel_rfl) (Below.refl _ _) rfl
                  intro us V7 hB hp
                  have e21 : us 21 = .agg #[.int .i64 (max lx cl), .int .i64 (min hx ch)] := hp 21 (by decide)
                  have e23 : us 23 = .pointer (some ⟨g2, o * 3 + 1, none⟩) := hp 23 (by decide)
                  have HBV7 := hid (YW.out.trans (hB.mono YW.out.size))
                  have HSV7 := hid (fun n x => @heap_still _ _ n x hB)
                  have hzV7 := hB.size
                  have hbV7 := hid hB
                  clear hp
                  clear hB
                  simp only [putF]
                  rw [hA, e21, e23]
                  clear hA e21 e23
                  go_frame
                  refine cl_step rfl ?_
                  intro K hK0
                  have hK := hid hK0
                  clear hK0
                  (try go_frame)
                  go_wp2_with (refine pt_store rfl 44 (.tmp 140) (.tmp 138) rfl g2 (o * 3 + 1) _ rfl rfl (HSV7.out _ _ YC.out) size44 rfl (by omega) rfl ?_)
                  refine hK.out undef _ _ (by kernel_rfl) ?_
                  clear hK
                  refine cl_end rfl ?_
                  (try go_frame)
                  rw [HPT.out]
                  have HSET := hid (OwnL.set (i := o) hg2 (HSV7.out _ _ YC.out) HR3.out (by simp; have := HM.out; omega) hcap3 HSZ3.out (by simp; have := HM.out; omega) (cf, max lx cl, min hx ch))
                  have hne : g ≠ g2 := by omega
                  have ZR2 := hid (show RowsL (V7.setRow g2 (ptL cur3 (o * 3) (row3 (cf, max lx cl, min hx ch)))) g 57 Z by
                    obtain ⟨C, hC, hr⟩ := YR.out
                    exact ⟨C, setRow_past (HSV7.out _ _ hC) hne, hr⟩)
                  have ZB2 := hid (below_setRow HBV7.out (show w.heap.size ≤ g2 by omega) (ptL cur3 (o * 3) (row3 (cf, max lx cl, min hx ch))))
                  have HSET2 := hid (show OwnL (V7.setRow g2 (ptL cur3 (o * 3) (row3 (cf, max lx cl, min hx ch)))) (g + 1) 99 (.slice (some ⟨g2, 0, none⟩) (o + 1) cap3) ((cf, max lx cl, min hx ch) :: O).reverse by
                    have h := HSET.out
                    rw [show (O.reverse ++ [(cf, cl, ch)]).length = o + 1 by simp [HM.out], show (O.reverse ++ [(cf, cl, ch)]).set o (cf, max lx cl, min hx ch) = O.reverse ++ [(cf, max lx cl, min hx ch)] by rw [← HM.out, ← List.length_reverse, List.set_append_right _ _ (Nat.le_refl _), Nat.sub_self]; rfl] at h
                    rw [List.reverse_cons]
                    exact h)
                  have hz7 := hzV7
                  clear HSET
                  generalize max lx cl = mxx at *
                  generalize min hx ch = mnn at *
                  go_wp2_with fail
                  refine ⟨⟨m + 1, (cf, mxx, mnn) :: O, by omega, by go_num, ?_, HSET2.out, ZR2.out, ZB2.out, by simp; omega⟩, by simp [intOf]; omega⟩
                  rw [HSTP.out, ← HOO.out, HSTEP.out]
                · have hcm : mn < mx := by have h1 := HMX.out; have h2 := HMN.out; omega
                  have hd : decide (mx ≤ mn) = false := decide_eq_false (by omega)
                  rw [hd]
                  have HSTEP := hid (show clockStep ((cf, cl, ch) :: O) (xa, xp, xe) = (xa, lx, hx) :: (cf, cl, ch) :: O by
                    show (if max cl (offLo (xa, xp, xe)) ≤ min ch (offHi (xa, xp, xe)) then _ else _) = _
                    rw [show offLo (xa, xp, xe) = lx from HLX.out, show offHi (xa, xp, xe) = hx from HHX.out, Int.max_comm cl lx, Int.min_comm ch hx, if_neg hc])
                  have q0 : W8.cell? ⟨wr.heap.size, 0, none⟩ = some (.int .i64 xa) := (cell_row (j := 0) ZX.out).trans rfl
                  have HOA := hid (show World.ownsRow (W8.alloc (.cells #[.int .i64 xa, .int .i64 lx, .int .i64 hx] 99)) (g + 1) 99 3 (.slice (some ⟨g2, 0, none⟩) (o + 1) cap3) (o + 1) (rowsOf (O.reverse ++ [(cf, cl, ch)])) by
                    have h := OwnL.mk (l := O.reverse ++ [(cf, cl, ch)]) hg2 (heap_alloc_past W8 (.cells #[.int .i64 xa, .int .i64 lx, .int .i64 hx] 99) _ _ ZC.out) HR3.out (by simp [HM.out]; omega) hcap3 HSZ3.out
                    have e : (O.reverse ++ [(cf, cl, ch)]).length = o + 1 := by simp [HM.out]
                    unfold OwnL at h
                    rw [e] at h
                    exact h)
                  have HRA := hid (show RowsL (W8.alloc (.cells #[.int .i64 xa, .int .i64 lx, .int .i64 hx] 99)) g 57 Z from ZR.out.grow ((Below.refl _ _).alloc (Nat.le_refl _) _))
                  have HBA := hid (show Below w.heap.size w (W8.alloc (.cells #[.int .i64 xa, .int .i64 lx, .int .i64 hx] 99)) from ZW.out.alloc (by omega) _)
                  have hgm : g + 1 ≤ W8.heap.size + 1 := by omega
                  have HNL := hid (show o + 1 = (O.reverse ++ [(cf, cl, ch)]).length by simp [HM.out])
                  have HOW := hid (show OwnL (W8.alloc (.cells #[.int .i64 xa, .int .i64 lx, .int .i64 hx] 99)) (g + 1) 99 (.slice (some ⟨g2, 0, none⟩) (o + 1) cap3) (O.reverse ++ [(cf, cl, ch)]) by unfold OwnL; rw [← HNL.out]; exact HOA.out)
                  go_wp2_with (at_builtin; refine wpList_append_own _ rfl (.tmp 141) (.tmp 148) 50 rfl (g + 1) 99 i0 _ 3 24 Try.underlying50 HI.out HZ0.out HZ1.out HZ2.out rfl (by decide) _ (o + 1) (rowsOf (O.reverse ++ [(cf, cl, ch)])) rfl HOA.out ⟨W8.heap.size, 0, none⟩ 1 1 (row3 (xa, lx, hx)) rfl rfl (fun j u hu => cells_back (heap_alloc_at _ _ _ (by simp)) j u hu) (row3_one _) (by unfold maxLen; omega) (by omega) (by simp; omega) ?_; intro v' w5 hown5 hgrow5 hnil5)
                  have HO5 := hid (OwnL.snoc HNL.out hown5)
                  have HR5 := hid (HRA.out.grown HOW.out (Nat.lt_succ_self g) hgrow5)
                  have HB5 := hid (HBA.out.grown hgrow5 (by simp; omega) (fun k hk => Nat.le_trans (by omega) (OwnL.ownBlock HOW.out k hk)))
                  have hs5 := hgrow5.size
                  (try simp at hs5)
                  clear hown5 hgrow5 hnil5
                  go_roundw
                  case rel => exact ⟨m + 1, _, by omega, by go_num, HSTP.out.symm, by rw [← HOO.out, HSTEP.out, List.reverse_cons, List.reverse_cons]; exact HO5.out, HR5.out, HB5.out, by omega⟩
                  case measure => simp [intOf]; omega
            · have hmi2 : m = i := by omega
              subst hmi2
              go_wp2_with fail
              go_ret2
              refine ⟨Or.inr ⟨HA.out, _, Z, by rw [HLE.out]; exact HST.out, rfl, ?_⟩, HBwr.out⟩
              have h := HOWN.out.mono (show w.heap.size ≤ g + 1 by omega)
              have e := HOO.out
              rw [List.take_of_length_le (by omega)] at e
              show OwnL wr w.heap.size 99 _ (Z.foldl clockStep []).reverse
              rw [← e]
              exact h
end Go.Proofs.Yteoikaedpgianaa
