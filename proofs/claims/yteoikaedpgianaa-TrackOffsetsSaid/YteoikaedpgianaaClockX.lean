/- The program's clocks of syncs. -/
import Derived.Test.YteoikaedpgianaaStableS
import Derived.Test.YteoikaedpgianaaOwnL
import Derived.Test.YteoikaedpgianaaClockM
import Derived.Test.YteoikaedpgianaaValid
namespace Go.Proofs.Yteoikaedpgianaa
open Go.RowKit

def syncN (f lo hi : Nat → Int) (i : Nat) : Bool := syncB (f i) (lo i) (hi i)
/-- a valid sync's three numbers are small -/
def syncR (x : Syn) : Prop := (0 ≤ x.1 ∧ x.1 ≤ 1125899906842624) ∧ (0 ≤ x.2.1 ∧ x.2.1 ≤ 1125899906842624) ∧ (0 ≤ x.2.2 ∧ x.2.2 ≤ 1125899906842624)
theorem syncB_bd {a b c : Int} (h : syncB a b c = true) : syncR (a, b, c) := by
  unfold syncB at h
  simp [inB] at h
  refine ⟨?_, ?_, ?_⟩
  · show 0 ≤ a ∧ a ≤ _; omega
  · show 0 ≤ b ∧ b ≤ _; omega
  · show 0 ≤ c ∧ c ≤ _; omega
theorem step_take {z : List Syn} {i : Nat} {x : Syn} (hx : z[i]? = some x) : (z.take (i + 1)).foldl clockStep [] = clockStep ((z.take i).foldl clockStep []) x := by
  obtain ⟨hi, hv⟩ := List.getElem?_eq_some_iff.1 hx
  rw [List.take_succ_eq_append_getElem hi, List.foldl_append, hv]
  rfl
theorem last_at (l : List Syn) (c : Syn) : (l.reverse ++ [c])[l.length]? = some c := by simp
theorem cells_back {w : World} {g : Nat} {C : Array Value} {t : TypeId} {fr : Nat × Nat} (h : w.heap[g]? = some (.cells C t fr)) (j : Nat) (u : Value) (hj : C.toList[j]? = some u) : w.cell? ((⟨g, 0, none⟩ : Addr).add j) = some u := by
  rw [Go.WideShapes.add_plain, Nat.zero_add]
  rw [Array.getElem?_toList] at hj
  exact (cell_row h).trans hj
theorem OwnL.snoc {W : World} {base t : Nat} {v : Value} {l : List Syn} {n : Nat} {x : Syn} (hn : n = l.length) (h : W.ownsRow base t 3 v (n + 1) (rowsOf l ++ row3 x)) : OwnL W base t v (l ++ [x]) := by
  subst hn
  show W.ownsRow base t 3 v (l ++ [x]).length (rowsOf (l ++ [x]))
  rw [rowsOf_append, List.length_append]
  exact h
theorem RowsL.grown {W W' : World} {b t base : Nat} {v : Value} {l m : List Syn} {t2 : Nat} (h : RowsL W b t l) (ho : OwnL W base t2 v m) (hb : b < base) (hg : W.grownBy W' v.ownBlock) : RowsL W' b t l := by
  obtain ⟨C, hC, hr⟩ := h
  exact ⟨C, by rw [hg.block b (Array.getElem?_eq_some_iff.1 hC).1 (ho.away hb)]; exact hC, hr⟩
theorem row3_one (x : Syn) : ∀ u ∈ row3 x, u.oneCell' = true := by
  intro u hu
  simp [row3] at hu
  rcases hu with rfl | rfl | rfl <;> rfl
theorem recL_all {f lo hi : Nat → Int} {n : Nat} (h : allN (syncN f lo hi) n = true) : ∀ x ∈ recL f lo hi n, syncR x := by
  intro x hx
  simp only [recL, List.mem_map, List.mem_range] at hx
  obtain ⟨i, hi, rfl⟩ := hx
  exact syncB_bd (allN_iff.1 h i hi)
set_option maxRecDepth 100000 in
set_option maxHeartbeats 1600000 in
theorem xClocks_any (b off n c : Nat) (f lo hi : Nat → Int) (w : World) (hn0 : 0 < n) (hn : n ≤ 40) (hbw : b < w.heap.size) (hr : recs3 w b off n f lo hi) :
    Calls Try.prog 57 #[.slice (some ⟨b, off, none⟩) n c] w fun r w' => (allN (syncN f lo hi) n = false ∧ r = .returned (.tuple #[.slice none 0 0, .int .i64 41]) ∨
      allN (syncN f lo hi) n = true ∧ ∃ v z, Stab keyS (recL f lo hi n) z ∧ r = .returned (.tuple #[v, .int .i64 0]) ∧ OwnL w' w.heap.size 99 v (clocksOf z)) ∧ Below w.heap.size w w' := by
  have HC := hid hr
  obtain ⟨i0, hi, hz0, hz1, hz2⟩ := info_parts info99
  have HI := hid hi
  have HZ0 := hid hz0
  have HZ1 := hid hz1
  have HZ2 := hid hz2
  clear hi hz0 hz1 hz2 hr
  go_enter Try.func57, Try.ntmps57
  go_wp2_with fail
  go_loopw [17] (fun i W => ∃ k : Nat, k ≤ n ∧ i = .int .i64 (k : Int) ∧ allN (syncN f lo hi) k = true ∧ Below w.heap.size w W) (fun i _ => n - (intOf i).toNat)
  case atStart => exact ⟨0, by omega, rfl, rfl, Below.refl _ _⟩
  case round =>
    obtain ⟨k, hk, rfl, hall, hB⟩ := hrel
    have HBwr := hid hB
    have hzwr := hB.size
    have HA := hid hall
    by_cases hlt : k < n
    · obtain ⟨c0, c1, c2⟩ := HC.out.still hB hbw k hlt
      have HN := hid (fun h : syncN f lo hi k = true => allN_next HA.out h)
      have HX := hid (fun h : syncN f lo hi k = false => @allN_stop (syncN f lo hi) n k hlt h)
      have HSB := hid (show ∀ bb, syncB (f k) (lo k) (hi k) = bb → syncN f lo hi k = bb from fun bb h => h)
      clear hB hall
      generalize f k = fk at *
      generalize lo k = lk at *
      generalize hi k = hik at *
      by_cases hs : syncB fk lk hik = true
      · have HS := hid hs; clear hs
        go_wp2_with fail
        refine (xSync_any _ _ _ _).mono ?_
        rintro r w1 ⟨rfl, hb⟩
        have HBw1 := hid (show Below w.heap.size w w1 by have hB0 := HBwr.out; refine Below.trans ?_ (hb.mono ?_); (focus ((repeat' (first | (with_reducible exact Below.refl _ _) | (with_reducible assumption) | (with_reducible refine Below.alloc ?_ ?_ _) | (with_reducible refine Below.drew ?_) | (with_reducible refine below_drewN ?_ _) | (with_reducible refine Below.setCell ?_ ?_ _) | (with_reducible refine below_setRow ?_ ?_ _) | go_size)); done)); (focus (first | (simp; done) | (simp; omega) | (have hB1 := hB0.size; simp; omega))))
        have hsw1 := hb.size
        (try simp at hsw1)
        have hzw1 : w.heap.size < w1.heap.size := by omega
        obtain ⟨hcw1, hfw1⟩ := bcell hb
        have hkw1 := hid (fun n x => @heap_still _ _ n x hb)
        clear hb
        rw [HS.out]
        go_wp2_with fail
        go_roundw
        case rel => exact ⟨k + 1, by omega, by go_num, HN.out (HSB.out _ HS.out), HBw1.out⟩
        case measure => simp [intOf]; omega
      · have HS := hid (Bool.eq_false_iff.2 hs); clear hs
        go_wp2_with fail
        refine (xSync_any _ _ _ _).mono ?_
        rintro r w1 ⟨rfl, hb⟩
        have HBw1 := hid (show Below w.heap.size w w1 by have hB0 := HBwr.out; refine Below.trans ?_ (hb.mono ?_); (focus ((repeat' (first | (with_reducible exact Below.refl _ _) | (with_reducible assumption) | (with_reducible refine Below.alloc ?_ ?_ _) | (with_reducible refine Below.drew ?_) | (with_reducible refine below_drewN ?_ _) | (with_reducible refine Below.setCell ?_ ?_ _) | (with_reducible refine below_setRow ?_ ?_ _) | go_size)); done)); (focus (first | (simp; done) | (simp; omega) | (have hB1 := hB0.size; simp; omega))))
        have hsw1 := hb.size
        (try simp at hsw1)
        have hzw1 : w.heap.size < w1.heap.size := by omega
        obtain ⟨hcw1, hfw1⟩ := bcell hb
        have hkw1 := hid (fun n x => @heap_still _ _ n x hb)
        clear hb
        rw [HS.out]
        go_wp2_with fail
        go_ret2
        exact ⟨Or.inl ⟨HX.out (HSB.out _ HS.out), rfl⟩, HBw1.out⟩
    · obtain rfl : k = n := by omega
      have HV := hid (recL_all HA.out)
      clear hB hall
      have HCL := hid (cloneSync_any b off k c f lo hi wr (by omega) (HC.out.still HBwr.out hbw))
      go_wp2_with (go_at_call 106; refine HCL.out.mono ?_; rintro r w1 ⟨⟨v, rfl, hown⟩, hb1⟩)
      obtain ⟨g, cap, cur, hv, hg, hg1, hg2, hg3, hg4, hg5⟩ := hown.rows (by rw [recL_length]; omega)
      rw [recL_length] at hv hg3
      have HRL := hid (show RowsL w1 g 57 (recL f lo hi k) from ⟨cur, hg1, hg2⟩)
      have hglt : g < w1.heap.size := (Array.getElem?_eq_some_iff.1 hg1).1
      have HB1 := hid (HBwr.out.trans (hb1.mono HBwr.out.size))
      have HSO := hid (sortStable_any g cap k (recL f lo hi k) w1 (recL_length _ _ _ _).symm (by omega) (fun x hx => by have := (HV.out x hx).1; omega) HRL.out)
      clear hown hg1 hg2 hg5 hb1
      subst hv
      go_wp2_with (go_at_call 107; refine HSO.out.mono ?_; rintro r w2 ⟨rfl, ⟨z, hz, hr2⟩, hk2⟩)
      have HZ := hid hz
      have HR2 := hid hr2
      have hzl : z.length = k := by rw [Same.length hz.2, recL_length]
      have HZL := hid hzl
      have HB2 := hid (show Below w.heap.size w w2 from HB1.out.trans ((hk2.mono HB1.out.size).below (by omega)))
      have hw2 : g < w2.heap.size := by have := hk2.size; omega
      have hg0 : w.heap.size ≤ g := by omega
      have HZV := hid (show ∀ x ∈ z, syncR x from fun x hx => HV.out x ((hz.2.mem x).1 hx))
      clear hz hr2 hk2 hzl
      go_wp2_with fail
      go_loopw [7, 31] (fun ov iv W => ∃ (i : Nat) (O : List Syn), i ≤ k ∧ iv = .int .i64 (i : Int) ∧ O = (z.take i).foldl clockStep [] ∧ OwnL W (g + 1) 99 ov O.reverse ∧ RowsL W g 57 z ∧ Below w.heap.size w W ∧ g < W.heap.size) (fun _ iv _ => k - (intOf iv).toNat)
      case atStart => exact ⟨0, [], by omega, rfl, rfl, OwnL.nil _ _ _, HR2.out, HB2.out, hw2⟩
      case round =>
        obtain ⟨i, O, hik, rfl, hO, hown, hrz, hB, hgw⟩ := hrel
        clear HBwr hzwr
        have HBwr := hid hB
        have hzwr := hB.size
        have HOWN := hid hown
        have HRZ := hid hrz
        have HOO := hid hO
        clear hB hown hrz hO
        by_cases hlt2 : i < k
        · obtain ⟨x, hx⟩ : ∃ x, z[i]? = some x := ⟨_, List.getElem?_eq_getElem (by have := HZL.out; omega)⟩
          have HST := hid (step_take hx)
          have HXV := hid (HZV.out x (List.mem_of_getElem? hx))
          obtain ⟨c0, c1, c2⟩ := HRZ.out.cell hx
          clear hx
          obtain ⟨xa, xp, xe⟩ := x
          have hxb : (0 ≤ xa ∧ xa ≤ 1125899906842624) ∧ (0 ≤ xp ∧ xp ≤ 1125899906842624) ∧ (0 ≤ xe ∧ xe ≤ 1125899906842624) := HXV.out
          have HOF := hid (fun W => offset_any (xa, xp, xe) W (by intro y hy; have := HXV.out; rcases hy with rfl | rfl | rfl; exact this.1; exact this.2.1; exact this.2.2))
          go_wp2_with fail
          refine (HOF.out _).mono ?_
          rintro r w4 ⟨rfl, hb⟩
          have HBw4 := hid (show Below w.heap.size w w4 by have hB0 := HBwr.out; refine Below.trans ?_ (hb.mono ?_); (focus ((repeat' (first | (with_reducible exact Below.refl _ _) | (with_reducible assumption) | (with_reducible refine Below.alloc ?_ ?_ _) | (with_reducible refine Below.drew ?_) | (with_reducible refine below_drewN ?_ _) | (with_reducible refine Below.setCell ?_ ?_ _) | (with_reducible refine below_setRow ?_ ?_ _) | go_size)); done)); (focus (first | (simp; done) | (simp; omega) | (have hB1 := hB0.size; simp; omega))))
          have hsw4 := hb.size
          (try simp at hsw4)
          have hzw4 : w.heap.size < w4.heap.size := by omega
          obtain ⟨hcw4, hfw4⟩ := bcell hb
          have hkw4 := hid (fun n x => @heap_still _ _ n x hb)
          clear hb
          have HOWN4 := hid (HOWN.out.heap (W' := w4) (fun g x hx hb => hkw4.out _ _ (heap_alloc_past _ _ _ _ hx)))
          have HRZ4 := hid (show RowsL w4 g 57 z by obtain ⟨C, hC, hr⟩ := HRZ.out; exact ⟨C, hkw4.out _ _ (heap_alloc_past _ _ _ _ hC), hr⟩)
          have hxs4 := hid (show w4.heap[wr.heap.size]? = some (.cells #[.int .i64 xa, .int .i64 xp, .int .i64 xe] 57) from hkw4.out _ _ (heap_alloc_at _ _ _ rfl))
          have hy4 : wr.heap.size < w4.heap.size := by omega
          have q0 : ∀ o, (w4.alloc o).cell? ⟨wr.heap.size, 0, none⟩ = some (.int .i64 xa) := fun o => (cell_row (j := 0) (heap_alloc_past _ _ _ _ hxs4.out)).trans rfl
          match O with
          | [] =>
            obtain ⟨av, cap3, hv3⟩ := HOWN4.out.slice
            have hv3' : u7 = .slice av 0 cap3 := hv3
            subst hv3'
            have HOA := hid (show World.ownsRow _ (g + 1) 99 3 (.slice av 0 cap3) 0 (rowsOf []) from (HOWN4.out.heap (W' := (w4.alloc (.cells #[.int .i64 (xp - xa - xe), .int .i64 (xp - xa + xe)] 44)).alloc (.cells #[.int .i64 xa, .int .i64 (xp - xa - xe), .int .i64 (xp - xa + xe)] 99)) (fun g x hx hb => heap_alloc_past _ _ _ _ (heap_alloc_past _ _ _ _ hx))))
            have HRA := hid (show RowsL ((w4.alloc (.cells #[.int .i64 (xp - xa - xe), .int .i64 (xp - xa + xe)] 44)).alloc (.cells #[.int .i64 xa, .int .i64 (xp - xa - xe), .int .i64 (xp - xa + xe)] 99)) g 57 z from HRZ4.out.grow (by (repeat' (first | (with_reducible exact Below.refl _ _) | (with_reducible assumption) | (with_reducible refine Below.alloc ?_ ?_ _) | (with_reducible refine Below.drew ?_) | (with_reducible refine below_drewN ?_ _) | (with_reducible refine Below.setCell ?_ ?_ _) | (with_reducible refine below_setRow ?_ ?_ _) | go_size))))
            have HBA := hid (show Below w.heap.size w ((w4.alloc (.cells #[.int .i64 (xp - xa - xe), .int .i64 (xp - xa + xe)] 44)).alloc (.cells #[.int .i64 xa, .int .i64 (xp - xa - xe), .int .i64 (xp - xa + xe)] 99)) from ((HBw4.out.alloc (by omega) _).alloc (by simp; omega) _))
            have HOW := hid (show OwnL _ (g + 1) 99 (.slice av 0 cap3) [] from HOA.out)
            have HNL := hid (show 0 = ([] : List Syn).length from rfl)
            go_wp2_with (at_builtin; refine wpList_append_own _ rfl (.tmp 68) (.tmp 73) 50 rfl (g + 1) 99 i0 _ 3 24 Try.underlying50 HI.out HZ0.out HZ1.out HZ2.out rfl (by decide) _ 0 (rowsOf []) rfl HOA.out ⟨w4.heap.size + 1, 0, none⟩ 1 1 (row3 (xa, xp - xa - xe, xp - xa + xe)) rfl rfl (fun j u hu => cells_back (heap_alloc_at _ _ _ (by simp)) j u hu) (row3_one _) (by unfold maxLen; omega) (by omega) (by simp; omega) ?_; intro v' w5 hown5 hgrow5 hnil5)
            have HO5 := hid (OwnL.snoc HNL.out hown5)
            have HR5 := hid (HRA.out.grown HOW.out (Nat.lt_succ_self g) hgrow5)
            have HB5 := hid (HBA.out.grown hgrow5 (by simp; omega) (fun k hk => Nat.le_trans (by omega) (OwnL.ownBlock HOW.out k hk)))
            have hs5 := hgrow5.size
            (try simp at hs5)
            clear hown5 hgrow5 hnil5
            go_roundw
            case rel => exact ⟨i + 1, _, by omega, by go_num, HST.out.symm, by rw [← HOO.out]; exact HO5.out, HR5.out, HB5.out, by omega⟩
            case measure => simp [intOf]; omega
          | (cf, cl, ch) :: O =>
            have hol : ((cf, cl, ch) :: O).reverse = O.reverse ++ [(cf, cl, ch)] := List.reverse_cons
            rw [hol] at HOWN4
            obtain ⟨g2, cap3, cur3, hv3, hg2, hc3, hr3, hle3, hcap3, hsz3⟩ := HOWN4.out.rows (by simp)
            have hlen : (O.reverse ++ [(cf, cl, ch)]).length = O.length + 1 := by simp
            rw [hlen] at hv3 hle3
            subst hv3
            have HC3 := hid hc3
            have HR3 := hid hr3
            have hg2s : g2 < w4.heap.size := (Array.getElem?_eq_some_iff.1 hc3).1
            have HSZ3 := hid hsz3
            have HL3 := hid (last_at O (cf, cl, ch))
            clear hc3 hr3 hlen hol hsz3
            generalize hm : O.length = m at *
            have HM := hid hm
            have hmb : m + 1 ≤ 40 := by
              have h1 := (fold_length (z.take i) []).1
              rw [← HOO.out, List.length_take, List.length_cons] at h1
              simp at h1
              omega
            have d1 : w4.cell? ⟨g2, m * 3 + 1, none⟩ = some (.int .i64 cl) := (cell_row HC3.out).trans (HR3.out.at1 _ _ HL3.out)
            have d2 : w4.cell? ⟨g2, m * 3 + 1 + 1, none⟩ = some (.int .i64 ch) := (cell_row HC3.out).trans (HR3.out.at2 _ _ HL3.out)
            clear hm
            go_wp2_with fail
            refine gen_world (fun V hV => ?_)
            have YS := hid (show V.heap[w4.heap.size]? = some (.cells #[.int .i64 (xp - xa - xe), .int .i64 (xp - xa + xe)] 44) by rw [hV]; exact heap_alloc_past _ _ _ _ (heap_alloc_at _ _ _ rfl))
            have YO := hid (show V.heap[w4.heap.size + 1]? = some (.cells #[.int .i64 cl, .int .i64 ch] 44) by rw [hV]; exact heap_alloc_at _ _ _ (by simp))
            have YX := hid (show V.heap[wr.heap.size]? = some (.cells #[.int .i64 xa, .int .i64 xp, .int .i64 xe] 57) by rw [hV]; exact heap_alloc_past _ _ _ _ (heap_alloc_past _ _ _ _ hxs4.out))
            have YC := hid (show V.heap[g2]? = some (.cells cur3 99) by rw [hV]; exact heap_alloc_past _ _ _ _ (heap_alloc_past _ _ _ _ HC3.out))
            have YR := hid (show RowsL V g 57 z by rw [hV]; exact HRZ4.out.grow (by (repeat' (first | (with_reducible exact Below.refl _ _) | (with_reducible assumption) | (with_reducible refine Below.alloc ?_ ?_ _) | (with_reducible refine Below.drew ?_) | (with_reducible refine below_drewN ?_ _) | (with_reducible refine Below.setCell ?_ ?_ _) | (with_reducible refine below_setRow ?_ ?_ _) | go_size))))
            have YW := hid (show Below w.heap.size w V by rw [hV]; exact ((HBw4.out.alloc (by omega) _).alloc (by simp; omega) _))
            have YZ : V.heap.size = w4.heap.size + 1 + 1 := by rw [hV]; simp
            clear hV d1 d2 hxs4 HC3 HRZ4 HBw4 q0 hkw4 hcw4 hfw4 HOWN4 HOWN HRZ HBwr
            generalize w4.heap.size = g4 at *
            generalize hlx : xp - xa - xe = lx at *
            generalize hhx : xp - xa + xe = hx at *
            have HLX := hid hlx
            have HHX := hid hhx
            clear hlx hhx
            refine gen_act (fun A0 hA => ?_)
            refine wp_region_pl (by kernel_rfl) (by kernel_rfl) [some 47, some 48, some 49, some 50, some 51, some 52, some 53, some 54, some 55, some 56, some 13, some 14] rfl (by decide)
              [IsV (.pointer (some ⟨g4 + 1, 0, none⟩)), IsV (.int .i64 cl), IsV (.pointer (some ⟨g4, 0, none⟩)), IsV (.int .i64 lx), IsV (.int .i64 (max cl lx)), IsV (.pointer (some ⟨g4 + 1, 1, none⟩)), IsV (.int .i64 ch), IsV (.pointer (some ⟨g4, 1, none⟩)), IsV (.int .i64 hx), IsV (.int .i64 (min ch hx)), IsV (.int .i64 (max cl lx)), IsV (.int .i64 (min ch hx))]
              ⟨IsV.stb _, IsV.stb _, IsV.stb _, IsV.stb _, IsV.stb _, IsV.stb _, IsV.stb _, IsV.stb _, IsV.stb _, IsV.stb _, IsV.stb _, IsV.stb _, trivial⟩ ?hs1_17_V7 ?hend_17_V7
            case hs1_17_V7 =>
              refine ⟨?_, ?_, ?_, ?_, ?_, ?_, ?_, ?_, ?_, ?_, ?_, ?_, trivial⟩
              · intro K us W hK0 hB hd
                have hK := hid hK0; clear hK0
                have HBW := hid hB
                have hsW := hB.size
                have GB := hid (YW.out.trans (hB.mono YW.out.size))
                clear hd
                simp only [putF]
                rw [hA]
                go_frame
                go_wp2_with fail
                exact hK.out _ _ _ (by rw [hA]; simp only [putF]; kernel_rfl) (Below.refl _ _) rfl
              · intro K us W hK0 hB hd
                have hK := hid hK0; clear hK0
                have HBW := hid hB
                have hsW := hB.size
                have GB := hid (YW.out.trans (hB.mono YW.out.size))
                have e0 : us 0 = .pointer (some ⟨g4 + 1, 0, none⟩) := hd ⟨0, Ground.data⟩ (by simp) rfl
                clear hd
                have G0 := hid (heap_still hB YO.out)
                have c0 : W.cell? ⟨g4 + 1, 0, none⟩ = some (.int .i64 cl) := (cell_row (j := 0) G0.out).trans rfl
                simp only [putF]
                rw [hA, e0]
                go_frame
                go_wp2_with fail
                exact hK.out _ _ _ (by rw [hA]; simp only [putF]; rw [e0]; kernel_rfl) (Below.refl _ _) rfl
              · intro K us W hK0 hB hd
                have hK := hid hK0; clear hK0
                have HBW := hid hB
                have hsW := hB.size
                have GB := hid (YW.out.trans (hB.mono YW.out.size))
                clear hd
                simp only [putF]
                rw [hA]
                go_frame
                go_wp2_with fail
                exact hK.out _ _ _ (by rw [hA]; simp only [putF]; kernel_rfl) (Below.refl _ _) rfl
              · intro K us W hK0 hB hd
                have hK := hid hK0; clear hK0
                have HBW := hid hB
                have hsW := hB.size
                have GB := hid (YW.out.trans (hB.mono YW.out.size))
                have e2 : us 2 = .pointer (some ⟨g4, 0, none⟩) := hd ⟨2, Ground.data⟩ (by simp) rfl
                clear hd
                have G0 := hid (heap_still hB YS.out)
                have c0 : W.cell? ⟨g4, 0, none⟩ = some (.int .i64 lx) := (cell_row (j := 0) G0.out).trans rfl
                simp only [putF]
                rw [hA, e2]
                go_frame
                go_wp2_with fail
                exact hK.out _ _ _ (by rw [hA]; simp only [putF]; rw [e2]; kernel_rfl) (Below.refl _ _) rfl
              · intro K us W hK0 hB hd
                have hK := hid hK0; clear hK0
                have HBW := hid hB
                have hsW := hB.size
                have GB := hid (YW.out.trans (hB.mono YW.out.size))
                have e1 : us 1 = .int .i64 cl := hd ⟨1, Ground.data⟩ (by simp) rfl
                have e3 : us 3 = .int .i64 lx := hd ⟨3, Ground.data⟩ (by simp) rfl
                clear hd
                simp only [putF]
                rw [hA, e1, e3]
                go_frame
                go_wp2_with fail
                · exact hK.out (.int .i64 lx) _ _ (by rw [hA]; simp only [putF]; rw [e1, e3]; kernel_rfl) (Below.refl _ _) (by show Value.int _ _ = Value.int _ _; congr 1; omega)
                · exact hK.out (.int .i64 cl) _ _ (by rw [hA]; simp only [putF]; rw [e1, e3]; kernel_rfl) (Below.refl _ _) (by show Value.int _ _ = Value.int _ _; congr 1; omega)
              · intro K us W hK0 hB hd
                have hK := hid hK0; clear hK0
                have HBW := hid hB
                have hsW := hB.size
                have GB := hid (YW.out.trans (hB.mono YW.out.size))
                clear hd
                simp only [putF]
                rw [hA]
                go_frame
                go_wp2_with fail
                exact hK.out _ _ _ (by rw [hA]; simp only [putF]; kernel_rfl) (Below.refl _ _) rfl
              · intro K us W hK0 hB hd
                have hK := hid hK0; clear hK0
                have HBW := hid hB
                have hsW := hB.size
                have GB := hid (YW.out.trans (hB.mono YW.out.size))
                have e5 : us 5 = .pointer (some ⟨g4 + 1, 1, none⟩) := hd ⟨5, Ground.data⟩ (by simp) rfl
                clear hd
                have G0 := hid (heap_still hB YO.out)
                have c0 : W.cell? ⟨g4 + 1, 1, none⟩ = some (.int .i64 ch) := (cell_row (j := 1) G0.out).trans rfl
                simp only [putF]
                rw [hA, e5]
                go_frame
                go_wp2_with fail
                exact hK.out _ _ _ (by rw [hA]; simp only [putF]; rw [e5]; kernel_rfl) (Below.refl _ _) rfl
              · intro K us W hK0 hB hd
                have hK := hid hK0; clear hK0
                have HBW := hid hB
                have hsW := hB.size
                have GB := hid (YW.out.trans (hB.mono YW.out.size))
                clear hd
                simp only [putF]
                rw [hA]
                go_frame
                go_wp2_with fail
                exact hK.out _ _ _ (by rw [hA]; simp only [putF]; kernel_rfl) (Below.refl _ _) rfl
              · intro K us W hK0 hB hd
                have hK := hid hK0; clear hK0
                have HBW := hid hB
                have hsW := hB.size
                have GB := hid (YW.out.trans (hB.mono YW.out.size))
                have e7 : us 7 = .pointer (some ⟨g4, 1, none⟩) := hd ⟨7, Ground.data⟩ (by simp) rfl
                clear hd
                have G0 := hid (heap_still hB YS.out)
                have c0 : W.cell? ⟨g4, 1, none⟩ = some (.int .i64 hx) := (cell_row (j := 1) G0.out).trans rfl
                simp only [putF]
                rw [hA, e7]
                go_frame
                go_wp2_with fail
                exact hK.out _ _ _ (by rw [hA]; simp only [putF]; rw [e7]; kernel_rfl) (Below.refl _ _) rfl
              · intro K us W hK0 hB hd
                have hK := hid hK0; clear hK0
                have HBW := hid hB
                have hsW := hB.size
                have GB := hid (YW.out.trans (hB.mono YW.out.size))
                have e6 : us 6 = .int .i64 ch := hd ⟨6, Ground.data⟩ (by simp) rfl
                have e8 : us 8 = .int .i64 hx := hd ⟨8, Ground.data⟩ (by simp) rfl
                clear hd
                simp only [putF]
                rw [hA, e6, e8]
                go_frame
                go_wp2_with fail
                · exact hK.out (.int .i64 hx) _ _ (by rw [hA]; simp only [putF]; rw [e6, e8]; kernel_rfl) (Below.refl _ _) (by show Value.int _ _ = Value.int _ _; congr 1; omega)
                · exact hK.out (.int .i64 ch) _ _ (by rw [hA]; simp only [putF]; rw [e6, e8]; kernel_rfl) (Below.refl _ _) (by show Value.int _ _ = Value.int _ _; congr 1; omega)
              · intro K us W hK0 hB hd
                have hK := hid hK0; clear hK0
                have HBW := hid hB
                have hsW := hB.size
                have GB := hid (YW.out.trans (hB.mono YW.out.size))
                have e4 : us 4 = .int .i64 (max cl lx) := hd ⟨4, Ground.data⟩ (by simp) rfl
                clear hd
                simp only [putF]
                rw [hA, e4]
                go_frame
                go_wp2_with fail
                exact hK.out _ _ _ (by rw [hA]; simp only [putF]; rw [e4]; kernel_rfl) (Below.refl _ _) rfl
              · intro K us W hK0 hB hd
                have hK := hid hK0; clear hK0
                have HBW := hid hB
                have hsW := hB.size
                have GB := hid (YW.out.trans (hB.mono YW.out.size))
                have e9 : us 9 = .int .i64 (min ch hx) := hd ⟨9, Ground.data⟩ (by simp) rfl
                clear hd
                simp only [putF]
                rw [hA, e9]
                go_frame
                go_wp2_with fail
                exact hK.out _ _ _ (by rw [hA]; simp only [putF]; rw [e9]; kernel_rfl) (Below.refl _ _) rfl
            intro us V7 hB hp
            have e10 : us 10 = .int .i64 (max cl lx) := hp 10 (by decide)
            have e11 : us 11 = .int .i64 (min ch hx) := hp 11 (by decide)
            have HBV7 := hid (YW.out.trans (hB.mono YW.out.size))
            have HSV7 := hid (fun n x => @heap_still _ _ n x hB)
            have hzV7 := hB.size
            have hbV7 := hid hB
            clear hp
            clear hB
            simp only [putF]
            rw [hA, e10, e11]
            clear hA e10 e11
            go_frame
            have hz7 : g4 + 1 + 1 ≤ V7.heap.size := by omega
            have ZC := hid (HSV7.out _ _ YC.out)
            have ZX := hid (HSV7.out _ _ YX.out)
            have ZS := hid (HSV7.out _ _ YS.out)
            have ZR := hid (YR.out.grow hbV7.out)
            clear YS YO YX YC YR YW HSV7 hbV7 YZ hzV7
            have hmb2 : m * 3 + 3 ≤ cur3.size := by have := HSZ3.out; omega
            have hpt : ptL cur3 (m * 3 + 1) [.int .i64 (max cl lx), .int .i64 (min ch hx)] = ptL cur3 (m * 3) (row3 (cf, max cl lx, min ch hx)) := ptL_two (show cur3[m * 3]? = some (.int .i64 cf) from HR3.out.at0 _ _ HL3.out)
            have HPT := hid hpt
            clear hpt
            by_cases hc : max cl lx ≤ min ch hx
            · have hd : decide (max cl lx ≤ min ch hx) = true := decide_eq_true hc
              have HSET := hid (OwnL.set (i := m) hg2 ZC.out HR3.out (by simp; have := HM.out; omega) hcap3 HSZ3.out (by simp; have := HM.out; omega) (cf, max cl lx, min ch hx))
              have HSTEP := hid (show clockStep ((cf, cl, ch) :: O) (xa, xp, xe) = (cf, max cl lx, min ch hx) :: O by
                show (if max cl (offLo (xa, xp, xe)) ≤ min ch (offHi (xa, xp, xe)) then _ else _) = _
                rw [show offLo (xa, xp, xe) = lx from HLX.out, show offHi (xa, xp, xe) = hx from HHX.out, if_pos hc])
              have hne : g ≠ g2 := by omega
              have ZR2 := hid (show RowsL (V7.setRow g2 (ptL cur3 (m * 3) (row3 (cf, max cl lx, min ch hx)))) g 57 z by
                obtain ⟨C, hC, hr⟩ := ZR.out
                exact ⟨C, setRow_past hC hne, hr⟩)
              have ZB2 := hid (below_setRow HBV7.out (show w.heap.size ≤ g2 by omega) (ptL cur3 (m * 3) (row3 (cf, max cl lx, min ch hx))))
              generalize hmx : max cl lx = mx at *
              generalize hmn : min ch hx = mn at *
              clear hmx hmn
              go_wp2_with (refine pt_store rfl 44 (.tmp 67) (.tmp 65) rfl g2 (m * 3 + 1) _ rfl rfl ZC.out size44 rfl (by omega) rfl ?_)
              have HSET2 := hid (show OwnL (V7.setRow g2 (ptL cur3 (m * 3) (row3 (cf, mx, mn)))) (g + 1) 99 (.slice (some ⟨g2, 0, none⟩) (m + 1) cap3) ((cf, mx, mn) :: O).reverse by
                have h := HSET.out
                rw [show (O.reverse ++ [(cf, cl, ch)]).length = m + 1 by simp [HM.out], show (O.reverse ++ [(cf, cl, ch)]).set m (cf, mx, mn) = O.reverse ++ [(cf, mx, mn)] by rw [← HM.out, ← List.length_reverse, List.set_append_right _ _ (Nat.le_refl _), Nat.sub_self]; rfl] at h
                rw [List.reverse_cons]
                exact h)
              rw [HPT.out]
              refine ⟨⟨i + 1, (cf, mx, mn) :: O, by omega, by go_num, ?_, HSET2.out, ZR2.out, ZB2.out, by simp; omega⟩, by simp [intOf]; omega⟩
              rw [HST.out, ← HOO.out, HSTEP.out]
            · have hd : decide (max cl lx ≤ min ch hx) = false := decide_eq_false hc
              have HSTEP := hid (show clockStep ((cf, cl, ch) :: O) (xa, xp, xe) = (xa, lx, hx) :: (cf, cl, ch) :: O by
                show (if max cl (offLo (xa, xp, xe)) ≤ min ch (offHi (xa, xp, xe)) then _ else _) = _
                rw [show offLo (xa, xp, xe) = lx from HLX.out, show offHi (xa, xp, xe) = hx from HHX.out, if_neg hc])
              generalize max cl lx = mx at *
              generalize min ch hx = mn at *
              have q0 : V7.cell? ⟨wr.heap.size, 0, none⟩ = some (.int .i64 xa) := (cell_row (j := 0) ZX.out).trans rfl
              have q1 : V7.cell? ⟨g4, 0, none⟩ = some (.int .i64 lx) := (cell_row (j := 0) ZS.out).trans rfl
              have q2 : V7.cell? ⟨g4, 1, none⟩ = some (.int .i64 hx) := (cell_row (j := 1) ZS.out).trans rfl
              have HOA := hid (show World.ownsRow (V7.alloc (.cells #[.int .i64 xa, .int .i64 lx, .int .i64 hx] 99)) (g + 1) 99 3 (.slice (some ⟨g2, 0, none⟩) (m + 1) cap3) (m + 1) (rowsOf (O.reverse ++ [(cf, cl, ch)])) by
                have h := OwnL.mk (l := O.reverse ++ [(cf, cl, ch)]) hg2 (heap_alloc_past V7 (.cells #[.int .i64 xa, .int .i64 lx, .int .i64 hx] 99) _ _ ZC.out) HR3.out (by simp [HM.out]; omega) hcap3 HSZ3.out
                have e : (O.reverse ++ [(cf, cl, ch)]).length = m + 1 := by simp [HM.out]
                unfold OwnL at h
                rw [e] at h
                exact h)
              have HRA := hid (show RowsL (V7.alloc (.cells #[.int .i64 xa, .int .i64 lx, .int .i64 hx] 99)) g 57 z from ZR.out.grow ((Below.refl _ _).alloc (Nat.le_refl _) _))
              have HBA := hid (show Below w.heap.size w (V7.alloc (.cells #[.int .i64 xa, .int .i64 lx, .int .i64 hx] 99)) from HBV7.out.alloc (by omega) _)
              have hgm : g + 1 ≤ V7.heap.size + 1 := by omega
              have HNL := hid (show m + 1 = (O.reverse ++ [(cf, cl, ch)]).length by simp [HM.out])
              have HOW := hid (show OwnL (V7.alloc (.cells #[.int .i64 xa, .int .i64 lx, .int .i64 hx] 99)) (g + 1) 99 (.slice (some ⟨g2, 0, none⟩) (m + 1) cap3) (O.reverse ++ [(cf, cl, ch)]) by unfold OwnL; rw [← HNL.out]; exact HOA.out)
              go_wp2_with (at_builtin; refine wpList_append_own _ rfl (.tmp 68) (.tmp 73) 50 rfl (g + 1) 99 i0 _ 3 24 Try.underlying50 HI.out HZ0.out HZ1.out HZ2.out rfl (by decide) _ (m + 1) (rowsOf (O.reverse ++ [(cf, cl, ch)])) rfl HOA.out ⟨V7.heap.size, 0, none⟩ 1 1 (row3 (xa, lx, hx)) rfl rfl (fun j u hu => cells_back (heap_alloc_at _ _ _ (by simp)) j u hu) (row3_one _) (by unfold maxLen; omega) (by omega) (by simp; omega) ?_; intro v' w5 hown5 hgrow5 hnil5)
              have HO5 := hid (OwnL.snoc HNL.out hown5)
              have HR5 := hid (HRA.out.grown HOW.out (Nat.lt_succ_self g) hgrow5)
              have HB5 := hid (HBA.out.grown hgrow5 (by simp; omega) (fun k hk => Nat.le_trans (by omega) (OwnL.ownBlock HOW.out k hk)))
              have hs5 := hgrow5.size
              (try simp at hs5)
              clear hown5 hgrow5 hnil5
              go_roundw
              case rel => exact ⟨i + 1, _, by omega, by go_num, HST.out.symm, by rw [← HOO.out, HSTEP.out, List.reverse_cons, List.reverse_cons]; exact HO5.out, HR5.out, HB5.out, by omega⟩
              case measure => simp [intOf]; omega
        · have hik2 : i = k := by omega
          subst hik2
          go_wp2_with fail
          go_ret2
          refine ⟨Or.inr ⟨HA.out, _, z, HZ.out, rfl, ?_⟩, HBwr.out⟩
          have h := HOWN.out.mono (show w.heap.size ≤ g + 1 by omega)
          have e := HOO.out
          rw [List.take_of_length_le (by have := HZL.out; omega)] at e
          show OwnL wr w.heap.size 99 _ (z.foldl clockStep []).reverse
          rw [← e]
          exact h
end Go.Proofs.Yteoikaedpgianaa
