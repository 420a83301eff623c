/- The library's merge by rotations, whole. -/
import Derived.Test.YteoikaedpgianaaRSymLI
import Derived.Deep.Cut
namespace Go.Proofs.Yteoikaedpgianaa
open Go.RowKit

/-- the cuts that the merge's search finds -/
theorem cut_of {A M E d st en : Nat} {p x y s : List Syn} (hA : p.length = A) (hM : A + x.length = M) (hE : M + y.length = E) (hd : d = (A + E) / 2) (he : en + st = d + M)
    (h1 : (M ≤ d ∧ st = A) ∨ (d < M ∧ en = E) ∨ ∃ u v, (p ++ (x ++ (y ++ s)))[st - 1]? = some u ∧ (p ++ (x ++ (y ++ s)))[en]? = some v ∧ A < st ∧ en < E ∧ keyS u ≤ keyS v)
    (h2 : (M ≤ d ∧ st = M) ∨ (d < M ∧ st = d) ∨ ∃ u v, (p ++ (x ++ (y ++ s)))[st]? = some u ∧ (p ++ (x ++ (y ++ s)))[en - 1]? = some v ∧ st < M ∧ M < en ∧ keyS v < keyS u)
    (h3 : A ≤ st) (h4 : st ≤ M) (h5 : M ≤ en) (h6 : en ≤ E) :
    ∃ x1 x2 y1 y2, x = x1 ++ x2 ∧ y = y1 ++ y2 ∧ A + x1.length = st ∧ M + y1.length = en ∧ (∀ u v, x2.head? = some u → y1.getLast? = some v → keyS v < keyS u) ∧ (∀ u v, x1.getLast? = some u → y2.head? = some v → keyS u ≤ keyS v) := by
  have hx1 : (x.take (st - A)).length = st - A := by rw [List.length_take]; omega
  have hy1 : (y.take (en - M)).length = en - M := by rw [List.length_take]; omega
  refine ⟨x.take (st - A), x.drop (st - A), y.take (en - M), y.drop (en - M), (List.take_append_drop _ _).symm, (List.take_append_drop _ _).symm, by omega, by omega, fun u v hu hv => ?_, fun u v hu hv => ?_⟩
  · have hu := head_drop hu
    obtain ⟨h0, hv⟩ := last_take hv (by omega)
    have hul : st - A < x.length := by rcases List.getElem?_eq_some_iff.1 hu with ⟨h, _⟩; exact h
    rcases h2 with ⟨h, h'⟩ | ⟨h, h'⟩ | ⟨u', v', e1, e2, _, _, h⟩
    · omega
    · omega
    · rw [get_off (j := st - A) hul (by omega), hu] at e1
      rw [← List.append_assoc p, get_off (j := en - M - 1) (by omega) (by simp; omega), hv] at e2
      injection e1 with e1
      injection e2 with e2
      subst e1 e2
      exact h
  · have hv := head_drop hv
    obtain ⟨h0, hu⟩ := last_take hu (by omega)
    have hvl : en - M < y.length := by rcases List.getElem?_eq_some_iff.1 hv with ⟨h, _⟩; exact h
    rcases h1 with ⟨h, h'⟩ | ⟨h, h'⟩ | ⟨u', v', e1, e2, _, _, h⟩
    · omega
    · omega
    · rw [get_off (j := st - A - 1) (by omega) (by omega), hu] at e1
      rw [← List.append_assoc p, get_off (j := en - M) hvl (by simp; omega), hv] at e2
      injection e1 with e1
      injection e2 with e2
      subst e1 e2
      exact h
theorem symB (A E M d : Nat) (hAM : A < M) (hME : M < E) (hd : d = (A + E) / 2) : A < d ∧ d < E ∧ (d < M → A + E ≤ d + M) ∧ (M ≤ d → d + M < E + A + 1) := by omega
set_option maxRecDepth 100000 in
set_option maxHeartbeats 6400000 in
theorem symMerge_any (b c n : Nat) (hl : n ≤ 4611686018427387904) : ∀ (N A M E : Nat) (p x y s : List Syn) (w : World), E - A ≤ N → n = (p ++ (x ++ (y ++ s))).length → p.length = A → A + x.length = M → M + y.length = E → A < M → M < E → Up keyS x → Up keyS y → timed x → timed y → RowsL w b 124 (p ++ (x ++ (y ++ s))) →
    Calls Try.prog 177 #[.slice (some ⟨b, 0, none⟩) n c, .int .i64 A, .int .i64 M, .int .i64 E, .func (.func 124) #[] #[]] w
      fun r w' => r = .returned (.tuple #[]) ∧ (∃ z, Stab keyS (x ++ y) z ∧ RowsL w' b 124 (p ++ (z ++ s))) ∧ Keeps b w.heap.size w w' := by
  intro N
  induction N with
  | zero => intro A M E p x y s w h; omega
  | succ N ih =>
    intro A M E p x y s w hN hn hA hM hE hAM hME hx hy htx hty hr
    by_cases hx1 : x.length = 1
    · obtain ⟨u, rfl⟩ := List.length_eq_one_iff.1 hx1
      exact symLeft_any b c n A M E p u y s w hn hl hA hM hE hy (htx u (by simp)) hty hr
    by_cases hy1 : y.length = 1
    · obtain ⟨v, rfl⟩ := List.length_eq_one_iff.1 hy1
      exact symRight_any b c n A M E p v x s w hn hl hA hM hE hx1 hx (hty v (by simp)) htx hr
    have HR := hid hr
    have HN := hid hn
    have hEn : E ≤ n := by rw [hn]; simp; omega
    have h1 : ((M : Int) - (A : Int) == 1) = false := by simp; omega
    have h2 : ((E : Int) - (M : Int) == 1) = false := by simp; omega
    obtain ⟨d, hd⟩ : ∃ d, d = (A + E) / 2 := ⟨_, rfl⟩
    have hsh := half_shr A E d hd
    have hdA : A < d := by omega
    have hdE : d < E := by omega
    have hdB := hid (symB A E M d hAM hME hd)
    have HX := hid (fun k (h1 : A ≤ k) (h2 : k < M) => show ∃ u, (p ++ (x ++ (y ++ s)))[k]? = some u ∧ okI u from by
      obtain ⟨u, hu⟩ : ∃ u, x[k - A]? = some u := ⟨_, List.getElem?_eq_getElem (by omega)⟩
      exact ⟨u, by rw [get_off (j := k - A) (by omega) (by omega), hu], htx u (List.mem_of_getElem? hu)⟩)
    have HY := hid (fun k (h1 : M ≤ k) (h2 : k < E) => show ∃ u, (p ++ (x ++ (y ++ s)))[k]? = some u ∧ okI u from by
      obtain ⟨u, hu⟩ : ∃ u, y[k - M]? = some u := ⟨_, List.getElem?_eq_getElem (by omega)⟩
      exact ⟨u, by rw [← List.append_assoc p, get_off (j := k - M) (by omega) (by simp; omega), hu], hty u (List.mem_of_getElem? hu)⟩)
    have HA := hid hA
    have HM := hid hM
    have HE := hid hE
    have HD := hid hd
    clear hr hn hM hE hx1 hy1 hd hA
    go_enter Try.func177, Try.ntmps177
    go_upto_if 140 with fail
    go_cut [20, 21] from 141 (fun st r wc => ∃ st0 r0 : Nat, st = .int .i64 (st0 : Int) ∧ r = .int .i64 (r0 : Int) ∧ ((M ≤ d ∧ st0 = A ∧ r0 = M) ∨ (d < M ∧ st0 + E = d + M ∧ r0 = d)) ∧ wc = w)
    case first =>
      by_cases hdM : d < M
      · have ht : decide ((M : Int) > (d : Int)) = true := decide_eq_true (by omega)
        go_wp2_with fail
        go_meet
        case rel => exact ⟨d + M - E, d, by congr 1; have := hdB.out; omega, rfl, Or.inr ⟨hdM, by have := hdB.out; omega, rfl⟩, rfl⟩
      · have ht : decide ((M : Int) > (d : Int)) = false := decide_eq_false (by omega)
        go_wp2_with fail
        go_meet
        case rel => exact ⟨A, M, rfl, rfl, Or.inl ⟨by omega, rfl, rfl⟩, rfl⟩
    case rest =>
      obtain ⟨st0, r0, rfl, rfl, hcase, hwc⟩ := hcut
      have hwc' := hwc.symm
      subst hwc'
      clear hwc
      have hS : A ≤ st0 ∧ st0 ≤ r0 ∧ r0 ≤ M ∧ d + M ≤ E + st0 ∧ r0 ≤ d := by have := hdB.out; omega
      have HCS := hid hcase
      clear hcase
      have HLOOP := hid (fun k (h1 : st0 ≤ k) (h2 : k < r0) => show A ≤ k ∧ k < M ∧ M ≤ d + M - 1 - k ∧ d + M - 1 - k < E from by omega)
      go_wp2_with fail
      go_loopw [20, 21] (fun sv rv W => ∃ st r : Nat, sv = .int .i64 (st : Int) ∧ rv = .int .i64 (r : Int) ∧ st0 ≤ st ∧ st ≤ r ∧ r ≤ r0 ∧
        (st = st0 ∨ st0 < st ∧ ∃ u v, (p ++ (x ++ (y ++ s)))[st - 1]? = some u ∧ (p ++ (x ++ (y ++ s)))[d + M - 1 - (st - 1)]? = some v ∧ keyS u ≤ keyS v) ∧
        (r = r0 ∨ r < r0 ∧ ∃ u v, (p ++ (x ++ (y ++ s)))[r]? = some u ∧ (p ++ (x ++ (y ++ s)))[d + M - 1 - r]? = some v ∧ keyS v < keyS u) ∧
        RowsL W b 124 (p ++ (x ++ (y ++ s))) ∧ Keeps b w.heap.size w W) (fun sv rv _ => (intOf rv).toNat - (intOf sv).toNat)
      case atStart => exact ⟨st0, r0, rfl, rfl, Nat.le_refl _, hS.2.1, Nat.le_refl _, Or.inl rfl, Or.inl rfl, HR.out, Keeps.refl _ _ _⟩
      case round =>
        obtain ⟨st, r, rfl, rfl, hst, hsr, hrr, hI, hJ, hRW, hKP⟩ := hrel
        have HI := hid hI
        have HJ := hid hJ
        have HRW := hid hRW
        have HKP := hid hKP
        clear hI hJ hRW hKP
        by_cases hlt : st < r
        · obtain ⟨h, hh⟩ : ∃ h, h = (st + r) / 2 := ⟨_, rfl⟩
          have hih : st ≤ h := by omega
          have hhj : h < r := by omega
          have hsh2 := half_shr st r h hh
          obtain ⟨b1, b2, b3, b4⟩ := HLOOP.out h (by omega) (by omega)
          obtain ⟨u, hu, hut⟩ := HX.out h b1 b2
          obtain ⟨v, hv, hvt⟩ := HY.out (d + M - 1 - h) b3 b4
          obtain ⟨q, hq⟩ : ∃ q, q = d + M - 1 - h := ⟨_, rfl⟩
          rw [← hq] at hv b3 b4
          have hqz : (d : Int) + (M : Int) - 1 - (h : Int) = (q : Int) := by omega
          have HU := hid hu
          have HV := hid hv
          have HQ1 := hid hq
          clear hu hv hh hq
          obtain ⟨C, hC, hrc⟩ := HRW.out
          have a0 := fun d os => cell_regrown (w := wr) ((cell_row hC).trans (hrc.at0 _ _ HV.out)) d os
          have a1 := fun d os => cell_regrown (w := wr) ((cell_row hC).trans (hrc.at1 _ _ HV.out)) d os
          have b0 := fun d os => cell_regrown (w := wr) ((cell_row hC).trans (hrc.at0 _ _ HU.out)) d os
          have b1 := fun d os => cell_regrown (w := wr) ((cell_row hC).trans (hrc.at1 _ _ HU.out)) d os
          have HC8 := hid (fun W => cmpSync_any v u W (by omega) (by omega))
          have HCM := hid (cmpI_lt (x := v) (y := u) (by omega) (by omega))
          go_wp2_with fail
          refine wp_region_quiet_below (by kernel_rfl) (by kernel_rfl) ?_
          repeat (first | go_big_quiet_step (first | (go_at_call 124; exact Calls.regrown_of (HC8.out _))) | quiet_step (first | (go_at_call 124; exact Calls.regrown_of (HC8.out _))))
          refine wpQuiet_nil ?_
          intro _ hw'
          obtain ⟨⟨dq, osq⟩, hw2⟩ := hw'
          subst hw2
          have ZR := hid (show RowsL (Sort.grow (redrawn wr dq) osq) b 124 (p ++ (x ++ (y ++ s))) from (RowsL.grow ⟨C, hC, hrc⟩ (below_regrown wr dq osq)))
          have ZK := hid (HKP.out.trans ((Keeps.of_below (g := b) (below_regrown wr dq osq)).mono HKP.out.size))
          clear a0 a1 b0 b1 hC hrc
          generalize Sort.grow (redrawn wr dq) osq = W9 at *
          generalize hq : (!decide (cmpI v u < 0)) = q0 at *
          have HQ := hid hq
          clear hq
          cases q0
          · have hvu : v.1 < u.1 := by have := HQ.out; have hcm := HCM.out; simp at this; omega
            go_wp2_with fail
            go_roundw
            case rel => exact ⟨st, h, rfl, rfl, by omega, by omega, by omega, HI.out, Or.inr ⟨by omega, u, v, HU.out, by rw [← HQ1.out]; exact HV.out, hvu⟩, ZR.out, ZK.out⟩
            case measure => simp [intOf]; omega
          · have hvu : u.1 ≤ v.1 := by have := HQ.out; have hcm := HCM.out; simp at this; omega
            go_wp2_with fail
            go_roundw
            case rel => exact ⟨h + 1, r, by go_num, rfl, by omega, by omega, by omega, Or.inr ⟨by omega, u, v, by rw [show h + 1 - 1 = h by omega]; exact HU.out, by rw [show h + 1 - 1 = h by omega, ← HQ1.out]; exact HV.out, hvu⟩, HJ.out, ZR.out, ZK.out⟩
            case measure => simp [intOf]; omega
        · obtain rfl : st = r := by omega
          obtain ⟨en, hen⟩ : ∃ en, en + st = d + M := ⟨d + M - st, by omega⟩
          have hcut := cut_of (A := A) (M := M) (E := E) (d := d) (st := st) (en := en) (p := p) (x := x) (y := y) (s := s) HA.out HM.out HE.out HD.out hen (by
            rcases HI.out with h | ⟨h, u, v, e1, e2, h3⟩
            · have := HCS.out; omega
            · refine Or.inr (Or.inr ⟨u, v, e1, by rw [← e2]; congr 1; omega, by omega, by omega, h3⟩)) (by
            rcases HJ.out with h | ⟨h, u, v, e1, e2, h3⟩
            · have := HCS.out; omega
            · refine Or.inr (Or.inr ⟨u, v, e1, by rw [← e2]; congr 1; omega, by omega, by omega, h3⟩)) (by omega) (by omega) (by omega) (by omega)
          obtain ⟨x1, x2, y1, y2, hxx, hyy, hl1, hl2, hc1, hc2⟩ := hcut
          have hl3 : st + x2.length = M := by have h := HM.out; rw [hxx, List.length_append] at h; omega
          have hl4 : en + y2.length = E := by have h := HE.out; rw [hyy, List.length_append] at h; omega
          have HU1 := hid (show Up keyS x1 ∧ Up keyS x2 by rw [hxx] at hx; exact ⟨(up_append.1 hx).1, (up_append.1 hx).2.1⟩)
          have HU2 := hid (show Up keyS y1 ∧ Up keyS y2 by rw [hyy] at hy; exact ⟨(up_append.1 hy).1, (up_append.1 hy).2.1⟩)
          have HT1 := hid (show timed x1 ∧ timed x2 by rw [hxx] at htx; exact ⟨fun a h => htx a (by simp [h]), fun a h => htx a (by simp [h])⟩)
          have HT2 := hid (show timed y1 ∧ timed y2 by rw [hyy] at hty; exact ⟨fun a h => hty a (by simp [h]), fun a h => hty a (by simp [h])⟩)
          have HMG := hid (fun z1 z2 (h1 : Stab keyS (x1 ++ y1) z1) (h2 : Stab keyS (x2 ++ y2) z2) => show Stab keyS (x ++ y) (z1 ++ z2) by
            rw [hxx, hyy]
            exact merge_near (by rwa [← hxx]) (by rwa [← hyy]) h1 h2 hc1 hc2)
          have HRW3 := hid (show RowsL wr b 124 (p ++ (x1 ++ (x2 ++ (y1 ++ (y2 ++ s))))) by have h := HRW.out; rw [hxx, hyy] at h; simpa using h)
          have hnn := hid (show n = p.length + x1.length + x2.length + y1.length + y2.length + s.length by rw [HN.out, hxx, hyy]; simp; omega)
          have hE2 : d = st + y1.length := by omega
          have hE3 : en = d + x2.length := by omega
          have HE2 := hid hE2
          have HE3 := hid hE3
          have HL1 := hid hl1
          have HL2 := hid hl2
          have HL3 := hid hl3
          have HL4 := hid hl4
          have hb1 : A ≤ st ∧ st ≤ M ∧ M ≤ en ∧ en ≤ E ∧ st ≤ d ∧ d ≤ en := by omega
          have HROT := hid (fun (W : World) (h1 : 0 < x2.length) (h2 : 0 < y1.length) (h3 : RowsL W b 124 (p ++ (x1 ++ (x2 ++ (y1 ++ (y2 ++ s)))))) => show Calls Try.prog 184 #[.slice (some ⟨b, 0, none⟩) n c, .int .i64 (st : Int), .int .i64 (M : Int), .int .i64 (en : Int), .func (.func 124) #[] #[]] W (fun r w' => r = .returned (.tuple #[]) ∧ RowsL w' b 124 (p ++ (x1 ++ (y1 ++ (x2 ++ (y2 ++ s))))) ∧ Keeps b W.heap.size W w') from by
            have hln : (p ++ x1 ++ (x2 ++ (y1 ++ (y2 ++ s)))).length = n := by rw [hnn.out]; simp; omega
            have hpl : (p ++ x1).length = st := by have := HA.out; simp; omega
            have h := rotate_any b c M (p ++ x1) x2 y1 (y2 ++ s) (.func (.func 124) #[] #[]) W (by rw [hln]; exact hl) (by omega) h1 h2 (en : Int) (by omega) (by simpa using h3)
            rw [hln, hpl] at h
            exact h.mono (fun r w' h => ⟨h.1, by simpa using h.2.1, h.2.2⟩))
          have HC1 := hid (fun (W : World) (g1 : A < st) (g2 : st < d) (h3 : RowsL W b 124 (p ++ (x1 ++ (y1 ++ (x2 ++ (y2 ++ s)))))) => ih A st d p x1 y1 (x2 ++ (y2 ++ s)) W (by omega) (by rw [hnn.out]; simp; omega) HA.out HL1.out (by omega) g1 g2 HU1.out.1 HU2.out.1 HT1.out.1 HT2.out.1 h3)
          have HC2 := hid (fun (W : World) (z1 : List Syn) (hz : z1.length = x1.length + y1.length) (g1 : d < en) (g2 : en < E) (h3 : RowsL W b 124 (p ++ (z1 ++ (x2 ++ (y2 ++ s))))) => ih d en E (p ++ z1) x2 y2 s W (by omega) (by rw [hnn.out]; simp; omega) (by have := HA.out; simp; omega) (by omega) (by omega) g1 g2 HU1.out.2 HU2.out.2 HT1.out.2 HT2.out.2 (by simpa using h3))
          clear hxx hyy hc1 hc2 hl1 hl2 hl3 hl4 hE2 hE3 ih hen
          have hez : (d : Int) + (M : Int) - (st : Int) = (en : Int) := by have := HL1.out; have := HL2.out; have := HL3.out; have := HL4.out; have := HE2.out; have := HE3.out; omega
          go_upto_region 39 with fail
          go_cut [185] from 178 (fun sv wx => ∃ q : Bool, sv = .bool q ∧ (q = true ↔ st < M ∧ M < en) ∧ wx = wr)
          case first =>
            rcases Nat.lt_or_ge st M with g1 | g1
            · have e1 : decide ((st : Int) < (M : Int)) = true := decide_eq_true (by omega)
              rcases Nat.lt_or_ge M en with g2 | g2
              · have e2 : decide ((M : Int) < (en : Int)) = true := decide_eq_true (by omega)
                go_wp2_with fail
                go_meet
                case rel => exact ⟨_, rfl, by simp <;> omega, rfl⟩
              · have e2 : decide ((M : Int) < (en : Int)) = false := decide_eq_false (by omega)
                go_wp2_with fail
                go_meet
                case rel => exact ⟨_, rfl, by simp <;> omega, rfl⟩
            · have e1 : decide ((st : Int) < (M : Int)) = false := decide_eq_false (by omega)
              go_wp2_with fail
              go_meet
              case rel => exact ⟨_, rfl, by simp <;> omega, rfl⟩
          case rest =>
            obtain ⟨q1, rfl, hq1, rfl⟩ := hcut
            have HQ1 := hid hq1
            clear hq1
            go_upto_if 185 with fail
            go_cut [] from 178 (fun wx => RowsL wx b 124 (p ++ (x1 ++ (y1 ++ (x2 ++ (y2 ++ s))))) ∧ Keeps b w.heap.size w wx)
            case first =>
              cases q1
              · go_wp2_with fail
                go_meet
                case rel =>
                  refine ⟨?_, HKP.out⟩
                  have h := HRW3.out
                  have h0 : ¬ (st < M ∧ M < en) := fun g => Bool.noConfusion (HQ1.out.2 g)
                  have h1 : x2 = [] ∨ y1 = [] := by
                    rcases Nat.lt_or_ge st M with g | g
                    · exact Or.inr (List.eq_nil_of_length_eq_zero (by have := HL2.out; omega))
                    · exact Or.inl (List.eq_nil_of_length_eq_zero (by have := HL3.out; omega))
                  rcases h1 with h1 | h1
                  · rw [h1] at h ⊢; simpa using h
                  · rw [h1] at h ⊢; simpa using h
              · obtain ⟨g1, g2⟩ := HQ1.out.1 rfl
                have hx2 : 0 < x2.length := by have := HL3.out; omega
                have hy1 : 0 < y1.length := by have := HL2.out; omega
                go_wp2_with (go_at_call 184; refine (HROT.out _ hx2 hy1 HRW3.out).mono ?_; rintro r w2 ⟨rfl, hr2, hk2⟩)
                go_meet
                case rel => exact ⟨hr2, HKP.out.trans (hk2.mono HKP.out.size)⟩
            case rest =>
              obtain ⟨hr2, hk2⟩ := hcut
              have HR2 := hid hr2
              have HK2 := hid hk2
              clear hr2 hk2
              go_upto_region 41 with fail
              go_cut [199] from 178 (fun sv wx => ∃ q : Bool, sv = .bool q ∧ (q = true ↔ A < st ∧ st < d) ∧ RowsL wx b 124 (p ++ (x1 ++ (y1 ++ (x2 ++ (y2 ++ s))))) ∧ Keeps b w.heap.size w wx)
              case first =>
                rcases Nat.lt_or_ge A st with g1 | g1
                · have e1 : decide ((A : Int) < (st : Int)) = true := decide_eq_true (by omega)
                  rcases Nat.lt_or_ge st d with g2 | g2
                  · have e2 : decide ((st : Int) < (d : Int)) = true := decide_eq_true (by omega)
                    go_wp2_with fail
                    go_meet
                    case rel => exact ⟨_, rfl, by simp <;> omega, HR2.out, HK2.out⟩
                  · have e2 : decide ((st : Int) < (d : Int)) = false := decide_eq_false (by omega)
                    go_wp2_with fail
                    go_meet
                    case rel => exact ⟨_, rfl, by simp <;> omega, HR2.out, HK2.out⟩
                · have e1 : decide ((A : Int) < (st : Int)) = false := decide_eq_false (by omega)
                  go_wp2_with fail
                  go_meet
                  case rel => exact ⟨_, rfl, by simp <;> omega, HR2.out, HK2.out⟩
              case rest =>
                obtain ⟨q2, rfl, hq2, hr2, hk2⟩ := hcut
                have HQ2 := hid hq2
                have HR2 := hid hr2
                have HK2 := hid hk2
                clear hq2 hr2 hk2
                go_upto_if 199 with fail
                go_cut [] from 178 (fun wx => ∃ z1, Stab keyS (x1 ++ y1) z1 ∧ RowsL wx b 124 (p ++ (z1 ++ (x2 ++ (y2 ++ s)))) ∧ Keeps b w.heap.size w wx)
                case first =>
                  cases q2
                  · go_wp2_with fail
                    go_meet
                    case rel =>
                      have h := HR2.out
                      have h0 : ¬ (A < st ∧ st < d) := fun g => Bool.noConfusion (HQ2.out.2 g)
                      have h1 : x1 = [] ∨ y1 = [] := by
                        rcases Nat.lt_or_ge A st with g | g
                        · exact Or.inr (List.eq_nil_of_length_eq_zero (by have := HE2.out; omega))
                        · exact Or.inl (List.eq_nil_of_length_eq_zero (by have := HL1.out; omega))
                      refine ⟨x1 ++ y1, stab_self ?_, by simpa using h, HK2.out⟩
                      rcases h1 with h1 | h1
                      · rw [h1]; exact HU2.out.1
                      · rw [h1, List.append_nil]; exact HU1.out.1
                  · obtain ⟨g1, g2⟩ := HQ2.out.1 rfl
                    go_wp2_with (go_at_call 177; refine (HC1.out _ g1 g2 HR2.out).mono ?_; rintro r w2 ⟨rfl, ⟨z1, hz1, hr2⟩, hk2⟩)
                    go_meet
                    case rel => exact ⟨z1, hz1, hr2, HK2.out.trans (hk2.mono HK2.out.size)⟩
                case rest =>
                  obtain ⟨z1, hz1, hr3, hk3⟩ := hcut
                  have HZ1 := hid hz1
                  have hzl : z1.length = x1.length + y1.length := by rw [Same.length hz1.2, List.length_append]
                  have HZL := hid hzl
                  have HR3 := hid hr3
                  have HK3 := hid hk3
                  clear hz1 hr3 hk3 hzl
                  go_upto_region 43 with fail
                  go_cut [213] from 178 (fun sv wx => ∃ q : Bool, sv = .bool q ∧ (q = true ↔ d < en ∧ en < E) ∧ RowsL wx b 124 (p ++ (z1 ++ (x2 ++ (y2 ++ s)))) ∧ Keeps b w.heap.size w wx)
                  case first =>
                    rcases Nat.lt_or_ge d en with g1 | g1
                    · have e1 : decide ((d : Int) < (en : Int)) = true := decide_eq_true (by omega)
                      rcases Nat.lt_or_ge en E with g2 | g2
                      · have e2 : decide ((en : Int) < (E : Int)) = true := decide_eq_true (by omega)
                        go_wp2_with fail
                        go_meet
                        case rel => exact ⟨_, rfl, by simp <;> omega, HR3.out, HK3.out⟩
                      · have e2 : decide ((en : Int) < (E : Int)) = false := decide_eq_false (by omega)
                        go_wp2_with fail
                        go_meet
                        case rel => exact ⟨_, rfl, by simp <;> omega, HR3.out, HK3.out⟩
                    · have e1 : decide ((d : Int) < (en : Int)) = false := decide_eq_false (by omega)
                      go_wp2_with fail
                      go_meet
                      case rel => exact ⟨_, rfl, by simp <;> omega, HR3.out, HK3.out⟩
                  case rest =>
                    obtain ⟨q3, rfl, hq3, hr3, hk3⟩ := hcut
                    have HQ3 := hid hq3
                    have HR3 := hid hr3
                    have HK3 := hid hk3
                    clear hq3 hr3 hk3
                    cases q3
                    · go_wp2_with fail
                      go_end0
                      have h := HR3.out
                      have h0 : ¬ (d < en ∧ en < E) := fun g => Bool.noConfusion (HQ3.out.2 g)
                      have h1 : x2 = [] ∨ y2 = [] := by
                        rcases Nat.lt_or_ge d en with g | g
                        · exact Or.inr (List.eq_nil_of_length_eq_zero (by have := HL4.out; omega))
                        · exact Or.inl (List.eq_nil_of_length_eq_zero (by have := HE3.out; omega))
                      refine ⟨rfl, ⟨z1 ++ (x2 ++ y2), HMG.out _ _ HZ1.out (stab_self ?_), by simpa using h⟩, HK3.out⟩
                      rcases h1 with h1 | h1
                      · rw [h1]; exact HU2.out.2
                      · rw [h1, List.append_nil]; exact HU1.out.2
                    · obtain ⟨g1, g2⟩ := HQ3.out.1 rfl
                      go_wp2_with (go_at_call 177; refine (HC2.out _ z1 HZL.out g1 g2 HR3.out).mono ?_; rintro r w2 ⟨rfl, ⟨z2, hz2, hr2⟩, hk2⟩)
                      go_end0
                      exact ⟨rfl, ⟨z1 ++ z2, HMG.out _ _ HZ1.out hz2, by simpa using hr2⟩, HK3.out.trans (hk2.mono HK3.out.size)⟩
end Go.Proofs.Yteoikaedpgianaa
