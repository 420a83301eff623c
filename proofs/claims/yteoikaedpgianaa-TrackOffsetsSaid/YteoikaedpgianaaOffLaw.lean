/- TrackOffsets: syncs which a constant offset satisfies give one clock whose offsets contain it, and in any case the span of each sync and the offsets of its clock have a number in common; for no syncs and for more than 40 the law answers by itself. Every input, no condition. -/
import Derived.Test.YteoikaedpgianaaClock0
import Derived.Test.YteoikaedpgianaaOffM
import Derived.Test.YteoikaedpgianaaLift
import Derived.Deep.Cut
namespace Go.Proofs.Yteoikaedpgianaa
open Go.ChangeShapes Go.WideShapes Go.ChangeAt Go.RowKit

set_option maxRecDepth 100000 in
set_option maxHeartbeats 6400000 in
theorem offsets_law (b off n c : Nat) (x : Int) (f lo hi : Nat → Int) (w : World) (hn0 : 0 < n) (hn : n ≤ 40) (hbw : b < w.heap.size) (hr : recs3 w b off n f lo hi) :
    Calls Try.prog 13 #[.slice (some ⟨b, off, none⟩) n c, .int .i64 x] w fun r w' => r = .returned (.bool true) ∧ Below w.heap.size w w' := by
  have HC := hid hr
  clear hr
  have hz0 : ((n : Int) == 0) = false := by simp; omega
  have hz1 : decide ((40 : Int) < (n : Int)) = false := decide_eq_false (by omega)
  go_enter Try.func13, Try.ntmps13
  go_wp2_with fail
  go_loopw [5, 27] (fun qv iv W => ∃ (k : Nat) (q : Bool), k ≤ n ∧ iv = .int .i64 (k : Int) ∧ qv = .bool q ∧ allN (syncN f lo hi) k = true ∧ (q = true → ∀ i, i < k → offLo (f i, lo i, hi i) ≤ x ∧ x ≤ offHi (f i, lo i, hi i)) ∧ Below w.heap.size w W) (fun _ iv _ => n - (intOf iv).toNat)
  case atStart => exact ⟨0, true, by omega, rfl, rfl, rfl, fun _ i hi => absurd hi (Nat.not_lt_zero _), Below.refl _ _⟩
  case round =>
    obtain ⟨k, q, hk, rfl, rfl, hall, hq, hB⟩ := hrel
    have HBwr := hid hB
    have hzwr := hB.size
    have HA := hid hall
    have HQ := hid hq
    by_cases hlt : k < n
    · obtain ⟨c0, c1, c2⟩ := HC.out.still hB hbw k hlt
      have HN := hid (fun h : syncN f lo hi k = true => allN_next HA.out h)
      have HSB := hid (show ∀ bb, syncB (f k) (lo k) (hi k) = bb → syncN f lo hi k = bb from fun bb h => h)
      have HQN := hid (fun (h1 : q = true) (h2 : offLo (f k, lo k, hi k) ≤ x ∧ x ≤ offHi (f k, lo k, hi k)) (i : Nat) (hi2 : i < k + 1) => show offLo (f i, lo i, hi i) ≤ x ∧ x ≤ offHi (f i, lo i, hi i) from by
        rcases Nat.lt_or_ge i k with g | g
        · exact HQ.out h1 i g
        · obtain rfl : i = k := by omega
          exact h2)
      clear hB hall hq
      generalize f k = fk at *
      generalize lo k = lk at *
      generalize hi k = hik at *
      by_cases hs : syncB fk lk hik = true
      · have hbd := syncB_bd hs
        have hxb : (0 ≤ fk ∧ fk ≤ 1125899906842624) ∧ (0 ≤ lk ∧ lk ≤ 1125899906842624) ∧ (0 ≤ hik ∧ hik ≤ 1125899906842624) := hbd
        have HS := hid hs; clear hs hbd
        go_wp2_with fail
        have HX1 := hid (heap_alloc_at wr (.cells #[.int .i64 fk, .int .i64 lk, .int .i64 hik] 57) _ rfl)
        refine (rSync_any _ _ _ _).mono ?_
        rintro r w1 ⟨rfl, hb⟩
        have HBw1 := hid (show Below w.heap.size w w1 by have hB0 := HBwr.out; refine Below.trans ?_ (hb.mono ?_); (focus ((repeat' (first | (with_reducible exact Below.refl _ _) | (with_reducible assumption) | (with_reducible refine Below.alloc ?_ ?_ _) | (with_reducible refine Below.drew ?_) | (with_reducible refine below_drewN ?_ _) | (with_reducible refine Below.setCell ?_ ?_ _) | (with_reducible refine below_setRow ?_ ?_ _) | go_size)); done)); (focus (first | (simp; done) | (simp; omega) | (have hB1 := hB0.size; simp; omega))))
        have hsw1 := hb.size
        (try simp at hsw1)
        have hzw1 : w.heap.size < w1.heap.size := by omega
        obtain ⟨hcw1, hfw1⟩ := bcell hb
        have hkw1 := hid (fun n x => @heap_still _ _ n x hb)
        clear hb
        rw [HS.out]
        have HX2 := hid (hkw1.out _ _ HX1.out)
        have q0 : w1.cell? ⟨wr.heap.size, 0, none⟩ = some (.int .i64 fk) := (cell_row (j := 0) HX2.out).trans rfl
        have q1 : w1.cell? ⟨wr.heap.size, 1, none⟩ = some (.int .i64 lk) := (cell_row (j := 1) HX2.out).trans rfl
        have q2 : w1.cell? ⟨wr.heap.size, 2, none⟩ = some (.int .i64 hik) := (cell_row (j := 2) HX2.out).trans rfl
        have hy1 : wr.heap.size < w1.heap.size := by omega
        cases q
        · go_wp2_with fail
          go_roundw
          case rel => exact ⟨k + 1, false, by omega, by go_num, rfl, HN.out (HSB.out _ HS.out), fun h => Bool.noConfusion h, HBw1.out⟩
          case measure => simp [intOf]; omega
        · by_cases h1 : lk - fk - hik ≤ x
          · by_cases h2 : x ≤ lk - fk + hik
            · have d1 : decide (lk - fk - hik ≤ x) = true := decide_eq_true h1
              have d2 : decide (x ≤ lk - fk + hik) = true := decide_eq_true h2
              go_wp2_with fail
              go_roundw
              case rel => exact ⟨k + 1, true, by omega, by go_num, by first | rfl | simp [h2], HN.out (HSB.out _ HS.out), fun h => (by first | exact HQN.out rfl ⟨h1, h2⟩ | exact HQN.out trivial ⟨h1, h2⟩), HBw1.out⟩
              case measure => simp [intOf]; omega
            · have d1 : decide (lk - fk - hik ≤ x) = true := decide_eq_true h1
              have d2 : decide (x ≤ lk - fk + hik) = false := decide_eq_false h2
              go_wp2_with fail
              go_roundw
              case rel => exact ⟨k + 1, false, by omega, by go_num, by first | rfl | simp [h2], HN.out (HSB.out _ HS.out), fun h => Bool.noConfusion h, HBw1.out⟩
              case measure => simp [intOf]; omega
          · have d1 : decide (lk - fk - hik ≤ x) = false := decide_eq_false h1
            go_wp2_with fail
            go_roundw
            case rel => exact ⟨k + 1, false, by omega, by go_num, by first | rfl | simp, HN.out (HSB.out _ HS.out), fun h => Bool.noConfusion h, HBw1.out⟩
            case measure => simp [intOf]; omega
      · have HS := hid (Bool.eq_false_iff.2 hs); clear hs
        go_wp2_with fail
        refine (rSync_any _ _ _ _).mono ?_
        rintro r w1 ⟨rfl, hb⟩
        have HBw1 := hid (show Below w.heap.size w w1 by have hB0 := HBwr.out; refine Below.trans ?_ (hb.mono ?_); (focus ((repeat' (first | (with_reducible exact Below.refl _ _) | (with_reducible assumption) | (with_reducible refine Below.alloc ?_ ?_ _) | (with_reducible refine Below.drew ?_) | (with_reducible refine below_drewN ?_ _) | (with_reducible refine Below.setCell ?_ ?_ _) | (with_reducible refine below_setRow ?_ ?_ _) | go_size)); done)); (focus (first | (simp; done) | (simp; omega) | (have hB1 := hB0.size; simp; omega))))
        have hsw1 := hb.size
        (try simp at hsw1)
        have hzw1 : w.heap.size < w1.heap.size := by omega
        obtain ⟨hcw1, hfw1⟩ := bcell hb
        have hkw1 := hid (fun n x => @heap_still _ _ n x hb)
        clear hb
        rw [HS.out]
        go_wp2_with fail
        refine (awake_any _).mono ?_
        rintro r w2 ⟨rfl, hb⟩
        have HBw2 := hid (show Below w.heap.size w w2 by have hB0 := HBw1.out; refine Below.trans ?_ (hb.mono ?_); (focus ((repeat' (first | (with_reducible exact Below.refl _ _) | (with_reducible assumption) | (with_reducible refine Below.alloc ?_ ?_ _) | (with_reducible refine Below.drew ?_) | (with_reducible refine below_drewN ?_ _) | (with_reducible refine Below.setCell ?_ ?_ _) | (with_reducible refine below_setRow ?_ ?_ _) | go_size)); done)); (focus (first | (simp; done) | (simp; omega) | (have hB1 := hB0.size; simp; omega))))
        have hsw2 := hb.size
        (try simp at hsw2)
        have hzw2 : w.heap.size < w2.heap.size := by omega
        obtain ⟨hcw2, hfw2⟩ := bcell hb
        have hkw2 := hid (fun n x => @heap_still _ _ n x hb)
        clear hb
        go_wp2_with fail
        go_ret
        exact ⟨rfl, HBw2.out⟩
    · obtain rfl : k = n := by omega
      have HXC := hid (xClocks_any b off k c f lo hi wr hn0 hn (Nat.lt_of_lt_of_le hbw hzwr) (HC.out.still HBwr.out hbw))
      have HLR := hid (show ∀ i, i < k → (recL f lo hi k)[i]? = some (f i, lo i, hi i) from fun i h => recL_at h)
      have HLL := hid (recL_length f lo hi k)
      have HV := hid (recL_all HA.out)
      have HQL := hid (show q = true → ∀ s ∈ recL f lo hi k, offLo s ≤ x ∧ x ≤ offHi s from fun h s hs => by
        simp only [recL, List.mem_map, List.mem_range] at hs
        obtain ⟨i, hi, rfl⟩ := hs
        exact HQ.out h i hi)
      clear hall hq hB HQ
      go_wp2_with fail
      refine HXC.out.mono ?_
      rintro r w1 ⟨⟨hno, _⟩ | ⟨_, v, z, hz, rfl, hown⟩, hb1⟩
      · rw [HA.out] at hno; cases hno
      have hzl : z.length = k := by rw [Same.length hz.2, HLL.out]
      obtain ⟨l, hlz⟩ : ∃ l, l = clocksOf z := ⟨_, rfl⟩
      have hll := clocksOf_length z
      rw [← hlz] at hll hown
      have HSU := hid (show ∀ s ∈ recL f lo hi k, ∃ i, Suits l s i from fun s hs => by rw [hlz]; exact clocks_suit (fun t ht => (HV.out t ((hz.2.mem t).1 ht)).2.2.1) hz.1 ((hz.2.mem s).2 hs))
      have HALL := hid (show q = true → ∃ c, l = [c] ∧ c.2.1 ≤ x ∧ x ≤ c.2.2 from fun h => by rw [hlz]; exact clocks_all (by intro e; rw [e] at hzl; simp at hzl; omega) (fun s hs => HQL.out h s ((hz.2.mem s).1 hs)))
      obtain ⟨g2, cap2, cur2, hv, hg2, hc2, hr2, hle2, hcap2, _⟩ := hown.rows (by omega)
      subst hv
      have hm0 : 0 < l.length := by omega
      have hm40 : l.length ≤ 40 := by omega
      have HRL := hid (show RowsL w1 g2 99 l from ⟨cur2, hc2, hr2⟩)
      have hgw1 : g2 < w1.heap.size := (Array.getElem?_eq_some_iff.1 hc2).1
      have HB1 := hid (HBwr.out.trans (hb1.mono HBwr.out.size))
      have hzw1 := HB1.out.size
      clear hz hown hc2 hr2 hb1 HXC HQL hll hlz hzl HBwr hzwr hg2
      obtain ⟨m, hm⟩ : ∃ m, m = l.length := ⟨_, rfl⟩
      rw [← hm] at hm0 hm40 ⊢
      have HM := hid hm
      clear hm
      have e0 : ((m : Int) == 0) = false := by simp; omega
      go_upto_region 12 with fail
      go_cut [8, 98] from 66 (fun lv sv wc => lv = .slice (some ⟨g2, 0, none⟩) m cap2 ∧ sv = .bool false ∧ wc = w1)
      case first =>
        cases q
        · go_wp2_with fail
          go_meet
          case rel => exact ⟨rfl, rfl, rfl⟩
        · obtain ⟨⟨cf, cl, ch⟩, hl1, hc1, hc2⟩ := HALL.out (by first | rfl | trivial)
          have hm1 : m = 1 := by rw [HM.out, hl1]; rfl
          have e1 : (!((m : Int) == 1)) = false := by rw [hm1]; rfl
          have e2 : ((m : Int) == 1) = true := by rw [hm1]; rfl
          clear hm1
          obtain ⟨a0, a1, a2⟩ := HRL.out.cell (show l[0]? = some (cf, cl, ch) by rw [hl1]; rfl)
          dsimp only at a0 a1 a2 hc1 hc2
          have d1 : decide (x < cl) = false := decide_eq_false (by omega)
          have d2 : decide (ch < x) = false := decide_eq_false (by omega)
          go_wp2_with fail
          all_goals first
            | (exfalso; have e3 := eq_of_beq e2; omega)
            | (go_meet
               exact ⟨rfl, rfl, rfl⟩)
      case rest =>
        obtain ⟨rfl, rfl, hwc⟩ := hcut
        have hwc' := hwc.symm
        subst hwc'
        clear HALL hwc
        go_wp2_with fail
        go_loopw [101] (fun iv W => ∃ i : Nat, i ≤ k ∧ iv = .int .i64 (i : Int) ∧ Below w.heap.size w W ∧ RowsL W g2 99 l ∧ g2 < W.heap.size) (fun iv _ => k - (intOf iv).toNat)
        case atStart => exact ⟨0, by omega, rfl, HB1.out, HRL.out, hgw1⟩
        case round =>
          obtain ⟨i, hik, rfl, hB, hrl, hgw⟩ := hrel
          clear hzw1
          have HBwr := hid hB
          have hzwr := hB.size
          have HRW := hid hrl
          clear hrl
          by_cases hlt2 : i < k
          · obtain ⟨c0, c1, c2⟩ := HC.out.still hB hbw i hlt2
            have hsx : (f i, lo i, hi i) ∈ recL f lo hi k := List.mem_of_getElem? (HLR.out i hlt2)
            obtain ⟨ix, hix⟩ := HSU.out _ hsx
            have HIX := hid hix
            have hxb : (0 ≤ f i ∧ f i ≤ 1125899906842624) ∧ (0 ≤ lo i ∧ lo i ≤ 1125899906842624) ∧ (0 ≤ hi i ∧ hi i ≤ 1125899906842624) := HV.out _ hsx
            clear hB hix hsx
            generalize f i = xa at *
            generalize lo i = xp at *
            generalize hi i = xe at *
            go_wp2_with fail
            obtain ⟨W0, hW0⟩ : ∃ W, W = wr := ⟨_, rfl⟩
            have hgs : g2 ≠ wr.heap.size := by omega
            go_loopw [12, 107] (fun mv jv W => ∃ (j : Nat) (q2 : Bool), j ≤ m ∧ jv = .int .i64 (j : Int) ∧ mv = .bool q2 ∧ (ix < j → q2 = true) ∧ Below w.heap.size w W ∧ RowsL W g2 99 l ∧ W.heap[W0.heap.size]? = some (.cells #[.int .i64 xa, .int .i64 xp, .int .i64 xe] 57) ∧ g2 < W.heap.size ∧ W0.heap.size < W.heap.size) (fun _ jv _ => m - (intOf jv).toNat)
            case atStart => exact ⟨0, false, by omega, rfl, rfl, fun h => absurd h (Nat.not_lt_zero _), HBwr.out.alloc hzwr _, HRW.out.grow ((Below.refl _ _).alloc (Nat.le_refl _) _), by rw [hW0]; exact heap_alloc_at _ _ _ rfl, by simp; omega, by rw [hW0]; simp⟩
            case round =>
              subst hW0
              obtain ⟨j, q2, hjm, rfl, rfl, hq2, hB2, hrl2, hbs, hg3, hw03⟩ := hrel
              have HQ2 := hid hq2
              have HB2 := hid hB2
              have HRL2 := hid hrl2
              have HBS := hid hbs
              have hzB2 := hB2.size
              clear hq2 hB2 hrl2 hbs
              by_cases hj : j < m
              · obtain ⟨⟨cf, cl, ch⟩, hc⟩ : ∃ c, l[j]? = some c := ⟨_, List.getElem?_eq_getElem (by have := HM.out; omega)⟩
                obtain ⟨a0, a1, a2⟩ := HRL2.out.cell hc
                have HCC := hid hc
                clear hc
                dsimp only at a0 a1 a2
                cases q2
                · have hnj : ¬ ix < j := fun g => absurd (HQ2.out g) (by simp)
                  by_cases hij : ix = j
                  · obtain ⟨e, he, h1, h2, h3, h4, h5⟩ := HIX.out
                    rw [hij] at he h2
                    rw [HCC.out] at he
                    injection he with he
                    subst he
                    have g1 : cf ≤ xa := h1
                    have g3 : xp - xa - xe ≤ cl := h3
                    have g4 : cl ≤ ch := h4
                    have g5 : ch ≤ xp - xa + xe := h5
                    have b1 : decide (cf ≤ xa) = true := decide_eq_true g1
                    have b2 : decide (cl ≤ xp - xa + xe) = true := decide_eq_true (by omega)
                    have b3 : decide (xp - xa - xe ≤ ch) = true := decide_eq_true (by omega)
                    have c2 : cl ≤ xp - xa + xe := by omega
                    have c3 : xp - xa - xe ≤ ch := by omega
                    have HIJ := hid hij
                    have HH2 := hid h2
                    clear h1 h2 h3 h4 h5 hij hnj
                    by_cases hlast : j + 1 = m
                    · have hje : ((j : Int) + 1 == (m : Int)) = true := by simp; omega
                      go_wp2_with fail
                      refine gen_world (fun V hV => ?_)
                      have YS := hid (show V.heap[W0.heap.size]? = some (.cells #[.int .i64 xa, .int .i64 xp, .int .i64 xe] 57) by rw [hV]; exact heap_alloc_past _ _ _ _ HBS.out)
                      have YC := hid (show V.heap[wr.heap.size]? = some (.cells #[.int .i64 cf, .int .i64 cl, .int .i64 ch] 99) by rw [hV]; exact heap_alloc_at _ _ _ rfl)
                      have YR := hid (show RowsL V g2 99 l by rw [hV]; exact HRL2.out.grow ((Below.refl _ _).alloc (Nat.le_refl _) _))
                      have YW := hid (show Below w.heap.size w V by rw [hV]; exact HB2.out.alloc hzB2 _)
                      have YZ : V.heap.size = wr.heap.size + 1 := by rw [hV]; simp
                      clear hV a0 a1 a2 HBS HRL2 HB2
                      refine wp_region_quiet_below (by kernel_rfl) (by kernel_rfl) ?_
                      repeat (first | go_big_quiet_step (fail) | quiet_step (fail))
                      refine wpQuiet_nil ?_
                      intro _ hw'
                      obtain ⟨⟨dq, osq⟩, hw2⟩ := hw'
                      subst hw2
                      have hbq := below_regrown V dq osq
                      have ZS := hid (heap_still hbq YS.out)
                      have ZC := hid (heap_still hbq YC.out)
                      have ZR := hid (YR.out.grow hbq)
                      have ZW := hid (YW.out.trans (hbq.mono YW.out.size))
                      have hz9 := hbq.size
                      clear YS YC YR YW hbq
                      generalize Sort.grow (redrawn V dq) osq = W9 at *
                      have s0 : W9.cell? ⟨W0.heap.size, 0, none⟩ = some (.int .i64 xa) := (cell_row (j := 0) ZS.out).trans rfl
                      have s1 : W9.cell? ⟨W0.heap.size, 1, none⟩ = some (.int .i64 xp) := (cell_row (j := 1) ZS.out).trans rfl
                      have s2 : W9.cell? ⟨W0.heap.size, 2, none⟩ = some (.int .i64 xe) := (cell_row (j := 2) ZS.out).trans rfl
                      have t0 : W9.cell? ⟨wr.heap.size, 0, none⟩ = some (.int .i64 cf) := (cell_row (j := 0) ZC.out).trans rfl
                      have t1 : W9.cell? ⟨wr.heap.size, 1, none⟩ = some (.int .i64 cl) := (cell_row (j := 1) ZC.out).trans rfl
                      have t2 : W9.cell? ⟨wr.heap.size, 2, none⟩ = some (.int .i64 ch) := (cell_row (j := 2) ZC.out).trans rfl
                      have hzA : g2 < W9.heap.size := by omega
                      have hzB : W0.heap.size < W9.heap.size := by omega
                      go_wp2_with fail
                      go_roundw
                      case rel => exact ⟨j + 1, true, by omega, by go_num, by first | rfl | simp, fun _ => rfl, ZW.out, ZR.out, ZS.out, hzA, hzB⟩
                      case measure => simp [intOf]; omega
                    · have hda : ∀ d, l[j + 1]? = some d → xa ≤ d.1 := fun d hd => by
                        rcases HH2.out with h | ⟨d', hd', h⟩
                        · have := HM.out; omega
                        · rw [hd] at hd'; injection hd' with hd'; subst hd'; exact h
                      have HDA := hid hda
                      clear hda
                      have hje : ((j : Int) + 1 == (m : Int)) = false := by simp; omega
                      have hj1 : j + 1 < m := by omega
                      obtain ⟨⟨df, dl, dh⟩, hd⟩ : ∃ d, l[j + 1]? = some d := ⟨_, List.getElem?_eq_getElem (by have := HM.out; omega)⟩
                      have HDD := hid hd
                      clear hd
                      go_wp2_with fail
                      refine gen_world (fun V hV => ?_)
                      have YS := hid (show V.heap[W0.heap.size]? = some (.cells #[.int .i64 xa, .int .i64 xp, .int .i64 xe] 57) by rw [hV]; exact heap_alloc_past _ _ _ _ HBS.out)
                      have YC := hid (show V.heap[wr.heap.size]? = some (.cells #[.int .i64 cf, .int .i64 cl, .int .i64 ch] 99) by rw [hV]; exact heap_alloc_at _ _ _ rfl)
                      have YR := hid (show RowsL V g2 99 l by rw [hV]; exact HRL2.out.grow ((Below.refl _ _).alloc (Nat.le_refl _) _))
                      have YW := hid (show Below w.heap.size w V by rw [hV]; exact HB2.out.alloc hzB2 _)
                      have YZ : V.heap.size = wr.heap.size + 1 := by rw [hV]; simp
                      clear hV a0 a1 a2 HBS HRL2 HB2
                      have D0 := fun d os => cell_regrown (w := V) (YR.out.cell HDD.out).1 d os
                      have X0 := fun d os => cell_regrown (w := V) ((cell_row (j := 0) YS.out).trans rfl) d os
                      refine wp_region_quiet_below (by kernel_rfl) (by kernel_rfl) ?_
                      repeat (first | go_big_quiet_step (fail) | quiet_step (fail))
                      refine wpQuiet_nil ?_
                      intro _ hw'
                      obtain ⟨⟨dq, osq⟩, hw2⟩ := hw'
                      subst hw2
                      have hbq := below_regrown V dq osq
                      have ZS := hid (heap_still hbq YS.out)
                      have ZC := hid (heap_still hbq YC.out)
                      have ZR := hid (YR.out.grow hbq)
                      have ZW := hid (YW.out.trans (hbq.mono YW.out.size))
                      have hz9 := hbq.size
                      clear YS YC YR YW hbq
                      generalize Sort.grow (redrawn V dq) osq = W9 at *
                      have s0 : W9.cell? ⟨W0.heap.size, 0, none⟩ = some (.int .i64 xa) := (cell_row (j := 0) ZS.out).trans rfl
                      have s1 : W9.cell? ⟨W0.heap.size, 1, none⟩ = some (.int .i64 xp) := (cell_row (j := 1) ZS.out).trans rfl
                      have s2 : W9.cell? ⟨W0.heap.size, 2, none⟩ = some (.int .i64 xe) := (cell_row (j := 2) ZS.out).trans rfl
                      have t0 : W9.cell? ⟨wr.heap.size, 0, none⟩ = some (.int .i64 cf) := (cell_row (j := 0) ZC.out).trans rfl
                      have t1 : W9.cell? ⟨wr.heap.size, 1, none⟩ = some (.int .i64 cl) := (cell_row (j := 1) ZC.out).trans rfl
                      have t2 : W9.cell? ⟨wr.heap.size, 2, none⟩ = some (.int .i64 ch) := (cell_row (j := 2) ZC.out).trans rfl
                      have hzA : g2 < W9.heap.size := by omega
                      have hzB : W0.heap.size < W9.heap.size := by omega
                      clear D0 X0
                      have b4 : xa ≤ df := HDA.out _ HDD.out
                      have b5 : decide (xa ≤ df) = true := decide_eq_true b4
                      go_wp2_with fail
                      go_roundw
                      case rel => exact ⟨j + 1, true, by omega, by go_num, by first | rfl | simp, fun _ => rfl, ZW.out, ZR.out, ZS.out, hzA, hzB⟩
                      case measure => simp [intOf]; omega
                  · have hjx : j < ix := by omega
                    have hxl : ix < m := by
                      obtain ⟨e, he, _⟩ := HIX.out
                      have := (List.getElem?_eq_some_iff.1 he).1
                      have := HM.out
                      omega
                    have hje : ((j : Int) + 1 == (m : Int)) = false := by simp; omega
                    have hj1 : j + 1 < m := by omega
                    obtain ⟨⟨df, dl, dh⟩, hd⟩ : ∃ d, l[j + 1]? = some d := ⟨_, List.getElem?_eq_getElem (by have := HM.out; omega)⟩
                    have HDD := hid hd
                    clear hd
                    go_wp2_with fail
                    refine gen_world (fun V hV => ?_)
                    have YS := hid (show V.heap[W0.heap.size]? = some (.cells #[.int .i64 xa, .int .i64 xp, .int .i64 xe] 57) by rw [hV]; exact heap_alloc_past _ _ _ _ HBS.out)
                    have YC := hid (show V.heap[wr.heap.size]? = some (.cells #[.int .i64 cf, .int .i64 cl, .int .i64 ch] 99) by rw [hV]; exact heap_alloc_at _ _ _ rfl)
                    have YR := hid (show RowsL V g2 99 l by rw [hV]; exact HRL2.out.grow ((Below.refl _ _).alloc (Nat.le_refl _) _))
                    have YW := hid (show Below w.heap.size w V by rw [hV]; exact HB2.out.alloc hzB2 _)
                    have YZ : V.heap.size = wr.heap.size + 1 := by rw [hV]; simp
                    clear hV a0 a1 a2 HBS HRL2 HB2
                    have D0 := fun d os => cell_regrown (w := V) (YR.out.cell HDD.out).1 d os
                    have X0 := fun d os => cell_regrown (w := V) ((cell_row (j := 0) YS.out).trans rfl) d os
                    refine wp_region_quiet_below (by kernel_rfl) (by kernel_rfl) ?_
                    repeat (first | go_big_quiet_step (fail) | quiet_step (fail))
                    refine wpQuiet_nil ?_
                    intro _ hw'
                    obtain ⟨⟨dq, osq⟩, hw2⟩ := hw'
                    subst hw2
                    have hbq := below_regrown V dq osq
                    have ZS := hid (heap_still hbq YS.out)
                    have ZC := hid (heap_still hbq YC.out)
                    have ZR := hid (YR.out.grow hbq)
                    have ZW := hid (YW.out.trans (hbq.mono YW.out.size))
                    have hz9 := hbq.size
                    clear YS YC YR YW hbq
                    generalize Sort.grow (redrawn V dq) osq = W9 at *
                    have s0 : W9.cell? ⟨W0.heap.size, 0, none⟩ = some (.int .i64 xa) := (cell_row (j := 0) ZS.out).trans rfl
                    have s1 : W9.cell? ⟨W0.heap.size, 1, none⟩ = some (.int .i64 xp) := (cell_row (j := 1) ZS.out).trans rfl
                    have s2 : W9.cell? ⟨W0.heap.size, 2, none⟩ = some (.int .i64 xe) := (cell_row (j := 2) ZS.out).trans rfl
                    have t0 : W9.cell? ⟨wr.heap.size, 0, none⟩ = some (.int .i64 cf) := (cell_row (j := 0) ZC.out).trans rfl
                    have t1 : W9.cell? ⟨wr.heap.size, 1, none⟩ = some (.int .i64 cl) := (cell_row (j := 1) ZC.out).trans rfl
                    have t2 : W9.cell? ⟨wr.heap.size, 2, none⟩ = some (.int .i64 ch) := (cell_row (j := 2) ZC.out).trans rfl
                    have hzA : g2 < W9.heap.size := by omega
                    have hzB : W0.heap.size < W9.heap.size := by omega
                    clear D0 X0
                    go_wp2_with fail
                    all_goals exact ⟨⟨j + 1, _, by omega, by go_num, rfl, fun h => absurd h (by omega), ZW.out, ZR.out, ZS.out, hzA, hzB⟩, by simp [intOf]; omega⟩
                · by_cases hlast : j + 1 = m
                  · have hje : ((j : Int) + 1 == (m : Int)) = true := by simp; omega
                    go_wp2_with fail
                    refine gen_world (fun V hV => ?_)
                    have YS := hid (show V.heap[W0.heap.size]? = some (.cells #[.int .i64 xa, .int .i64 xp, .int .i64 xe] 57) by rw [hV]; exact heap_alloc_past _ _ _ _ HBS.out)
                    have YC := hid (show V.heap[wr.heap.size]? = some (.cells #[.int .i64 cf, .int .i64 cl, .int .i64 ch] 99) by rw [hV]; exact heap_alloc_at _ _ _ rfl)
                    have YR := hid (show RowsL V g2 99 l by rw [hV]; exact HRL2.out.grow ((Below.refl _ _).alloc (Nat.le_refl _) _))
                    have YW := hid (show Below w.heap.size w V by rw [hV]; exact HB2.out.alloc hzB2 _)
                    have YZ : V.heap.size = wr.heap.size + 1 := by rw [hV]; simp
                    clear hV a0 a1 a2 HBS HRL2 HB2
                    refine wp_region_quiet_below (by kernel_rfl) (by kernel_rfl) ?_
                    repeat (first | go_big_quiet_step (fail) | quiet_step (fail))
                    refine wpQuiet_nil ?_
                    intro _ hw'
                    obtain ⟨⟨dq, osq⟩, hw2⟩ := hw'
                    subst hw2
                    have hbq := below_regrown V dq osq
                    have ZS := hid (heap_still hbq YS.out)
                    have ZC := hid (heap_still hbq YC.out)
                    have ZR := hid (YR.out.grow hbq)
                    have ZW := hid (YW.out.trans (hbq.mono YW.out.size))
                    have hz9 := hbq.size
                    clear YS YC YR YW hbq
                    generalize Sort.grow (redrawn V dq) osq = W9 at *
                    have s0 : W9.cell? ⟨W0.heap.size, 0, none⟩ = some (.int .i64 xa) := (cell_row (j := 0) ZS.out).trans rfl
                    have s1 : W9.cell? ⟨W0.heap.size, 1, none⟩ = some (.int .i64 xp) := (cell_row (j := 1) ZS.out).trans rfl
                    have s2 : W9.cell? ⟨W0.heap.size, 2, none⟩ = some (.int .i64 xe) := (cell_row (j := 2) ZS.out).trans rfl
                    have t0 : W9.cell? ⟨wr.heap.size, 0, none⟩ = some (.int .i64 cf) := (cell_row (j := 0) ZC.out).trans rfl
                    have t1 : W9.cell? ⟨wr.heap.size, 1, none⟩ = some (.int .i64 cl) := (cell_row (j := 1) ZC.out).trans rfl
                    have t2 : W9.cell? ⟨wr.heap.size, 2, none⟩ = some (.int .i64 ch) := (cell_row (j := 2) ZC.out).trans rfl
                    have hzA : g2 < W9.heap.size := by omega
                    have hzB : W0.heap.size < W9.heap.size := by omega
                    go_wp2_with fail
                    go_roundw
                    case rel => exact ⟨j + 1, true, by omega, by go_num, by first | rfl | simp, fun _ => rfl, ZW.out, ZR.out, ZS.out, hzA, hzB⟩
                    case measure => simp [intOf]; omega
                  · have hje : ((j : Int) + 1 == (m : Int)) = false := by simp; omega
                    have hj1 : j + 1 < m := by omega
                    obtain ⟨⟨df, dl, dh⟩, hd⟩ : ∃ d, l[j + 1]? = some d := ⟨_, List.getElem?_eq_getElem (by have := HM.out; omega)⟩
                    have HDD := hid hd
                    clear hd
                    go_wp2_with fail
                    refine gen_world (fun V hV => ?_)
                    have YS := hid (show V.heap[W0.heap.size]? = some (.cells #[.int .i64 xa, .int .i64 xp, .int .i64 xe] 57) by rw [hV]; exact heap_alloc_past _ _ _ _ HBS.out)
                    have YC := hid (show V.heap[wr.heap.size]? = some (.cells #[.int .i64 cf, .int .i64 cl, .int .i64 ch] 99) by rw [hV]; exact heap_alloc_at _ _ _ rfl)
                    have YR := hid (show RowsL V g2 99 l by rw [hV]; exact HRL2.out.grow ((Below.refl _ _).alloc (Nat.le_refl _) _))
                    have YW := hid (show Below w.heap.size w V by rw [hV]; exact HB2.out.alloc hzB2 _)
                    have YZ : V.heap.size = wr.heap.size + 1 := by rw [hV]; simp
                    clear hV a0 a1 a2 HBS HRL2 HB2
                    have D0 := fun d os => cell_regrown (w := V) (YR.out.cell HDD.out).1 d os
                    have X0 := fun d os => cell_regrown (w := V) ((cell_row (j := 0) YS.out).trans rfl) d os
                    refine wp_region_quiet_below (by kernel_rfl) (by kernel_rfl) ?_
                    repeat (first | go_big_quiet_step (fail) | quiet_step (fail))
                    refine wpQuiet_nil ?_
                    intro _ hw'
                    obtain ⟨⟨dq, osq⟩, hw2⟩ := hw'
                    subst hw2
                    have hbq := below_regrown V dq osq
                    have ZS := hid (heap_still hbq YS.out)
                    have ZC := hid (heap_still hbq YC.out)
                    have ZR := hid (YR.out.grow hbq)
                    have ZW := hid (YW.out.trans (hbq.mono YW.out.size))
                    have hz9 := hbq.size
                    clear YS YC YR YW hbq
                    generalize Sort.grow (redrawn V dq) osq = W9 at *
                    have s0 : W9.cell? ⟨W0.heap.size, 0, none⟩ = some (.int .i64 xa) := (cell_row (j := 0) ZS.out).trans rfl
                    have s1 : W9.cell? ⟨W0.heap.size, 1, none⟩ = some (.int .i64 xp) := (cell_row (j := 1) ZS.out).trans rfl
                    have s2 : W9.cell? ⟨W0.heap.size, 2, none⟩ = some (.int .i64 xe) := (cell_row (j := 2) ZS.out).trans rfl
                    have t0 : W9.cell? ⟨wr.heap.size, 0, none⟩ = some (.int .i64 cf) := (cell_row (j := 0) ZC.out).trans rfl
                    have t1 : W9.cell? ⟨wr.heap.size, 1, none⟩ = some (.int .i64 cl) := (cell_row (j := 1) ZC.out).trans rfl
                    have t2 : W9.cell? ⟨wr.heap.size, 2, none⟩ = some (.int .i64 ch) := (cell_row (j := 2) ZC.out).trans rfl
                    have hzA : g2 < W9.heap.size := by omega
                    have hzB : W0.heap.size < W9.heap.size := by omega
                    clear D0 X0
                    go_wp2_with fail
                    go_roundw
                    case rel => exact ⟨j + 1, true, by omega, by go_num, by first | rfl | simp, fun _ => rfl, ZW.out, ZR.out, ZS.out, hzA, hzB⟩
                    case measure => simp [intOf]; omega
              · have hjm2 : j = m := by omega
                have hq3 : q2 = true := HQ2.out (by
                  obtain ⟨e, he, _⟩ := HIX.out
                  have := (List.getElem?_eq_some_iff.1 he).1
                  have := HM.out
                  omega)
                subst hq3
                go_wp2_with fail
                go_roundw
                case rel => exact ⟨i + 1, by omega, by go_num, HB2.out, HRL2.out, hg3⟩
                case measure => simp [intOf]; omega
          · have HAW := hid (awake_any wr)
            go_wp2_with fail
            refine HAW.out.mono ?_
            rintro r w6 ⟨rfl, hb6⟩
            go_wp2_with fail
            go_ret
            exact ⟨rfl, HBwr.out.trans (hb6.mono HBwr.out.size)⟩
set_option maxRecDepth 100000 in
theorem offsets_none (a : Option Addr) (c : Nat) (x : Int) (w : World) :
    Calls Try.prog 13 #[.slice a 0 c, .int .i64 x] w fun r w' => r = .returned (.bool true) ∧ Below w.heap.size w w' := by
  have HAW := hid (awake_any w)
  go_enter Try.func13, Try.ntmps13
  go_wp2_with fail
  refine HAW.out.mono ?_
  rintro r w6 ⟨rfl, hb6⟩
  go_wp2_with fail
  go_ret
  exact ⟨rfl, hb6⟩
set_option maxRecDepth 100000 in
theorem offsets_many (a : Option Addr) (n c : Nat) (hn : ¬ n ≤ 40) (x : Int) (w : World) :
    Calls Try.prog 13 #[.slice a n c, .int .i64 x] w fun r w' => r = .returned (.bool true) ∧ Below w.heap.size w w' := by
  have HAW := hid (awake_any w)
  have e0 : ((n : Int) == 0) = false := by simp; omega
  have e1 : decide ((40 : Int) < (n : Int)) = true := decide_eq_true (by omega)
  go_enter Try.func13, Try.ntmps13
  go_wp2_with fail
  refine HAW.out.mono ?_
  rintro r w6 ⟨rfl, hb6⟩
  go_wp2_with fail
  go_ret
  exact ⟨rfl, hb6⟩
theorem flat57 : flatOf Try.prog 10 57 = some [some .i64, some .i64, some .i64] := by kernel_rfl
theorem own : ownKnob Try.prog.godebug = none := by kernel_rfl
theorem laid : laidOutB Try.prog = true := by kernel_rfl

set_option maxRecDepth 100000 in
theorem trackOffsets_lifted (os : Os) (started : os.Started) (H : Type) (enc : TypeId × Value → H) :
    ReturnsInHanded {} Try.checked os 13 .any (Rows.trackOffsetsSpec.pre6 enc Try.prog Try.f13 Rows.trackOffsetsRow.domain false) (Rows.trackOffsetsSpec.post enc Try.prog Try.f13 false true false false) := by
  refine law_lifted (C := Try.checked) (tb := 4) own started (by kernel_rfl) Try.func13 rfl ?_ (show Try.f13.resultTypes = #[4] by kernel_rfl) Try.underlying4 laid ?_
    (ChangeSpec.witness6 (enc := enc) (C := Try.checked) false ⟨#[], #[.slice none 0 0, .int .i64 0], []⟩ 8 (by kernel_rfl) (by kernel_rfl) (by kernel_rfl) (by kernel_rfl)) ?_
  · intro ds hds
    match ds, hds with
    | [d1, d2], _ => exact ⟨rfl, rfl, rfl⟩
  · rw [Try.params13]
    intro t ht
    simp at ht
    rcases ht with rfl | rfl
    all_goals exact ⟨by kernel_rfl, of_decide_eq_true (by kernel_rfl)⟩
  · intro W base args ds p hval hA hlt _
    change DataW.TrodAll enc Try.prog W 0 (fun _ => true) true Try.f13.params.toList args.toList ds p at hA
    change ∀ (j : Nat) t v, Try.f13.params[j]? = some t → args[j]? = some v → Value.okWide Try.prog W .any base t v at hval
    rw [Try.params13] at hA hval
    obtain ⟨v0, vs0, d0, ds0, p0, q0, hargs, rfl, rfl, h0, r0⟩ := trodAll_cons hA
    obtain ⟨v1, vs1, d1, ds1, p1, q1, rfl, rfl, rfl, h1, r1⟩ := trodAll_cons r0
    obtain ⟨rfl, rfl, rfl⟩ := trodAll_nil r1
    obtain rfl : args = #[v0, v1] := by cases args; simp_all
    obtain ⟨x, rfl⟩ := okWide_int Try.underlying3 (hval 1 3 v1 rfl rfl)
    rcases open_rows Try.underlying95 flat57 size57s (by decide) (hval 0 95 v0 rfl rfl) h0 with rfl | ⟨a, c, rfl⟩ | ⟨b, off, n, c, rfl, hn, hc, hm, hr⟩
    · exact offsets_none none 0 x W
    · exact offsets_none (some a) c x W
    · obtain ⟨f, lo, hi, hr⟩ := rows3 hr
      have hbw := cell_lt (hr 0 hn).1
      by_cases h40 : n ≤ 40
      · exact offsets_law b off n c x f lo hi W hn h40 hbw hr
      · exact offsets_many _ n c h40 x W

/-- TrackOffsets, whatever the input. -/
theorem trackOffsets_holds : Rows.TrackOffsetsSaid :=
  OpenClaim.holds_of_wide 13 Try.f13 rfl rfl rfl rfl rfl rfl rfl ⟨rfl, rfl, rfl, rfl, rfl⟩ rfl rfl rfl rfl rfl (by kernel_rfl) Try.func13 (by kernel_rfl)
    (of_decide_eq_true (by kernel_rfl)) (by unfold Func.isWrapper; rw [if_neg (of_decide_eq_false (by kernel_rfl))]; exact ⟨rfl, rfl⟩)
    (fun os started H enc _ => trackOffsets_lifted os started H enc)
#print axioms trackOffsets_holds
end Go.Proofs.Yteoikaedpgianaa
