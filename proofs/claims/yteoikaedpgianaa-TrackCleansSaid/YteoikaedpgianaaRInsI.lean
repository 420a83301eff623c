/- The library's insertion sort of issues by their scanner's time. -/
import Derived.Test.YteoikaedpgianaaRSwapRI
import Derived.Test.YteoikaedpgianaaRStableM
import Derived.Test.YteoikaedpgianaaRBeam
import Derived.Lib.QuietBelow
namespace Go.Proofs.Yteoikaedpgianaa
open Go.RowKit

/-- an issue: its key, its kind, its time -/
abbrev okI (x : Syn) : Prop := x.1 = 4 * x.2.2 + x.2.1 ∧ 1 ≤ x.2.1 ∧ x.2.1 ≤ 3 ∧ -1000000000000000000 ≤ x.2.2 ∧ x.2.2 ≤ 1000000000000000000
def cmpI (x y : Syn) : Int := if x.2.2 = y.2.2 then x.2.1 - y.2.1 else x.2.2 - y.2.2
theorem cmpI_lt {x y : Syn} (hx : okI x) (hy : okI y) : cmpI x y < 0 ↔ x.1 < y.1 := by
  unfold cmpI
  split <;> omega
/-- the comparison of two issues -/
theorem cmpSync_any (x y : Syn) (w : World) (hx : okI x) (hy : okI y) :
    Calls Try.prog 124 #[.agg #[.int .i64 x.2.1, .int .i64 x.2.2], .agg #[.int .i64 y.2.1, .int .i64 y.2.2]] w fun r w' => r = .returned (.int .i64 (cmpI x y)) ∧ Below w.heap.size w w' := by
  obtain ⟨xk, x0, x1⟩ := x
  obtain ⟨yk, y0, y1⟩ := y
  simp only [okI] at hx hy
  by_cases h : x1 = y1
  · have HE := hid (show cmpI (xk, x0, x1) (yk, y0, y1) = x0 - y0 from if_pos h)
    have e : (x1 != y1) = false := by simpa using h
    clear h
    go_enter Try.func124, Try.ntmps124
    go_wp2_with fail
    go_ret
    exact ⟨by rw [HE.out]; rfl, by (repeat' (first | (with_reducible exact Below.refl _ _) | (with_reducible assumption) | (with_reducible refine Below.alloc ?_ ?_ _) | (with_reducible refine Below.drew ?_) | (with_reducible refine below_drewN ?_ _) | (with_reducible refine Below.setCell ?_ ?_ _) | (with_reducible refine below_setRow ?_ ?_ _) | go_size))⟩
  · have HE := hid (show cmpI (xk, x0, x1) (yk, y0, y1) = x1 - y1 from if_neg h)
    have e : (x1 != y1) = true := by simpa using h
    clear h
    go_enter Try.func124, Try.ntmps124
    go_wp2_with fail
    go_ret
    exact ⟨by rw [HE.out]; rfl, by (repeat' (first | (with_reducible exact Below.refl _ _) | (with_reducible assumption) | (with_reducible refine Below.alloc ?_ ?_ _) | (with_reducible refine Below.drew ?_) | (with_reducible refine below_drewN ?_ _) | (with_reducible refine Below.setCell ?_ ?_ _) | (with_reducible refine below_setRow ?_ ?_ _) | go_size))⟩
theorem at_mid (p q t : List Syn) (v : Syn) (j : Nat) (h : j = p.length + q.length) : (p ++ (q ++ v :: t))[j]? = some v := by
  subst h
  rw [← List.append_assoc, ← List.length_append]
  simp
theorem two_set (Q t : List Syn) (u v : Syn) : ((Q ++ u :: v :: t).set (Q.length + 1) u).set Q.length v = Q ++ v :: u :: t := by
  rw [List.set_append_right _ _ (by omega), show Q.length + 1 - Q.length = 1 by omega, List.set_append_right _ _ (Nat.le_refl _), Nat.sub_self]
  rfl
def keyS (x : Syn) : Int := x.1
theorem ins_end {x Z1 Z2 R : List Syn} {m : Nat} {v : Syn} (hZ : Stab keyS (x.take m) (Z1 ++ Z2)) (hv : x.drop m = v :: R) (h2 : ∀ a ∈ Z2, keyS v < keyS a) (h1 : ∀ a ∈ Z1, keyS a ≤ keyS v) :
    Stab keyS (x.take (m + 1)) (Z1 ++ v :: Z2) ∧ x.drop (m + 1) = R := by
  have hm : m < x.length := by
    rcases Nat.lt_or_ge m x.length with h | h
    · exact h
    · rw [List.drop_eq_nil_of_le h] at hv; cases hv
  have e := List.drop_eq_getElem_cons hm
  rw [hv] at e
  injection e with e1 e2
  refine ⟨?_, e2.symm⟩
  rw [List.take_succ_eq_append_getElem hm, ← e1]
  have g := stab_right (key := keyS) (y := v) hZ.1 h1 h2
  exact ⟨g.1, (hZ.2.append (Same.refl [v])).trans g.2⟩
def timed (l : List Syn) : Prop := ∀ x ∈ l, okI x
set_option maxRecDepth 100000 in
set_option maxHeartbeats 1600000 in
theorem insSort_any (b c A E : Nat) (p x s : List Syn) (w : World) (n : Nat) (hn : n = (p ++ (x ++ s)).length) (hl : n ≤ 4611686018427387904) (hA : p.length = A) (hE : A + x.length = E) (hx : timed x) (hr : RowsL w b 124 (p ++ (x ++ s))) :
    Calls Try.prog 176 #[.slice (some ⟨b, 0, none⟩) n c, .int .i64 A, .int .i64 E, .func (.func 124) #[] #[]] w
      fun r w' => r = .returned (.tuple #[]) ∧ (∃ z, Stab keyS x z ∧ RowsL w' b 124 (p ++ (z ++ s))) ∧ Keeps b w.heap.size w w' := by
  have HR := hid hr
  have HN := hid hn
  have hEn : E ≤ n := by rw [hn]; simp; omega
  clear hr hn
  go_enter Try.func176, Try.ntmps176
  go_wp2_with fail
  go_loopw [8] (fun i W => ∃ (k : Nat) (Z : List Syn), (k ≤ E ∨ k = A + 1) ∧ A + 1 ≤ k ∧ i = .int .i64 (k : Int) ∧ Stab keyS (x.take (k - A)) Z ∧ Z.length = (x.take (k - A)).length ∧ RowsL W b 124 (p ++ (Z ++ (x.drop (k - A) ++ s))) ∧ Keeps b w.heap.size w W) (fun i _ => E - (intOf i).toNat)
  case atStart =>
    refine ⟨A + 1, x.take 1, Or.inr rfl, Nat.le_refl _, by go_num, ?_, by rw [show A + 1 - A = 1 by omega], ?_, Keeps.refl _ _ _⟩
    · rw [show A + 1 - A = 1 by omega]
      refine ⟨?_, Same.refl _⟩
      match x with
      | [] => exact List.Pairwise.nil
      | a :: _ => exact List.pairwise_singleton _ _
    · rw [show A + 1 - A = 1 by omega, ← List.append_assoc (x.take 1), List.take_append_drop]
      exact HR.out
  case round =>
    obtain ⟨k, Z, hk, hAk, rfl, hZ, hZn, hRW, hKP⟩ := hrel
    have HZ := hid hZ
    have HRW := hid hRW
    have HKP := hid hKP
    clear hZ hRW hKP
    by_cases hkE : k < E
    · have hxk : k - A < x.length := by omega
      obtain ⟨v, R, hv⟩ : ∃ v R, x.drop (k - A) = v :: R := ⟨x[k - A], x.drop (k - A + 1), List.drop_eq_getElem_cons hxk⟩
      have hZl : Z.length = k - A := by rw [hZn, List.length_take]; omega
      rw [hv] at HRW
      go_wp2_with fail
      go_loopw [9] (fun jv W => ∃ (j : Nat) (Z1 Z2 : List Syn), A ≤ j ∧ j ≤ k ∧ jv = .int .i64 (j : Int) ∧ Z = Z1 ++ Z2 ∧ Z1.length = j - A ∧ (∀ a ∈ Z2, keyS v < keyS a) ∧ RowsL W b 124 (p ++ (Z1 ++ v :: (Z2 ++ (R ++ s)))) ∧ Keeps b w.heap.size w W) (fun jv _ => (intOf jv).toNat)
      case atStart => exact ⟨k, Z, [], by omega, by omega, rfl, by simp, hZl, by simp, by simpa using HRW.out, HKP.out⟩
      case round =>
        obtain ⟨j, Z1, Z2, hAj, hjk, rfl, hZZ, hZ1, hZ2, hRW2, hKP2⟩ := hrel
        have HRW2 := hid hRW2
        have HKP2 := hid hKP2
        have HZ2 := hid hZ2
        clear hRW2 hKP2 hZ2
        by_cases hjA : A < j
        · have hg : decide ((A : Int) < (j : Int)) = true := decide_eq_true (by omega)
          rcases List.eq_nil_or_concat Z1 with rfl | ⟨Z1', u, rfl⟩
          · simp at hZ1; omega
          have hvx : v ∈ x := List.mem_of_mem_drop (i := k - A) (by rw [hv]; simp)
          have hux : u ∈ x := List.mem_of_mem_take (i := k - A) ((HZ.out.2.mem u).1 (by rw [hZZ]; simp))
          obtain ⟨C, hC, hrc⟩ := HRW2.out
          rw [List.concat_eq_append] at hZ1 hrc hZZ
          have hZ1l : Z1'.length + 1 = j - A := by simpa using hZ1
          have e1 : (p ++ ((Z1' ++ [u]) ++ v :: (Z2 ++ (R ++ s))))[j]? = some v := at_mid _ _ _ _ _ (by simp; omega)
          have e0 : (p ++ ((Z1' ++ [u]) ++ v :: (Z2 ++ (R ++ s))))[j - 1]? = some u := by rw [List.append_assoc]; exact at_mid _ _ _ _ _ (by omega)
          have a0 := fun d os => cell_regrown (w := wr) ((cell_row hC).trans (hrc.at0 _ _ e1)) d os
          have a1 := fun d os => cell_regrown (w := wr) ((cell_row hC).trans (hrc.at1 _ _ e1)) d os
          have b0 := fun d os => cell_regrown (w := wr) ((cell_row hC).trans (hrc.at0 _ _ e0)) d os
          have b1 := fun d os => cell_regrown (w := wr) ((cell_row hC).trans (hrc.at1 _ _ e0)) d os
          have HC8 := hid (fun W => cmpSync_any v u W (hx v hvx) (hx u hux))
          have hcm := cmpI_lt (hx v hvx) (hx u hux)
          go_wp2_with fail
          refine wp_region_quiet_below (by kernel_rfl) (by kernel_rfl) ?_
          repeat (first | go_big_quiet_step (first | (go_at_call 124; exact Calls.regrown_of (HC8.out _))) | quiet_step (first | (go_at_call 124; exact Calls.regrown_of (HC8.out _))))
          refine wpQuiet_nil ?_
          intro _ hw'
          obtain ⟨⟨dq, osq⟩, hw2⟩ := hw'
          subst hw2
          have ZR := hid (show RowsL (Sort.grow (redrawn wr dq) osq) b 124 (p ++ ((Z1' ++ [u]) ++ v :: (Z2 ++ (R ++ s)))) from (RowsL.grow ⟨C, hC, hrc⟩ (below_regrown wr dq osq)))
          have ZK := hid (HKP2.out.trans ((Keeps.of_below (g := b) (below_regrown wr dq osq)).mono HKP2.out.size))
          clear a0 a1 b0 b1 hC hrc
          generalize Sort.grow (redrawn wr dq) osq = W9 at *
          have hln : (p ++ ((Z1' ++ [u]) ++ v :: (Z2 ++ (R ++ s)))).length = n := by
            rw [HN.out]
            have h1 := congrArg List.length hv
            have h2 := congrArg List.length hZZ
            simp at h1 h2 ⊢
            omega
          by_cases hvu : v.1 < u.1
          · have hd : decide (cmpI v u < 0) = true := decide_eq_true (by omega)
            obtain ⟨C9, hC9, hr9⟩ := ZR.out
            have hs9 := hr9.size
            rw [hln] at hs9
            have HR9 := hid hr9
            have E1 := hid e1
            have E0 := hid e0
            go_wp2_with fail
            refine gen_world (fun V hV => ?_)
            have YC := hid (show V.heap[b]? = some (.cells C9 124) by rw [hV]; exact hC9)
            have YK := hid (show Keeps b w.heap.size w V by rw [hV]; exact ZK.out)
            clear hV hC9 hr9 e0 e1
            refine gen_act (fun A0 hA => ?_)
            refine wp_region_by (by kernel_rfl) (by kernel_rfl) [some 37, some 38, some 39, some 40, some 41, some 42, some 43, some 44, some 45, some 46, some 47, some 48, some 49, some 50, some 51, none, some 52, none] rfl (by decide) (TwoT V.drew (V.drew.setRow b (ptL C9 (j * 2) (row2 u))) ((V.drew.setRow b (ptL C9 (j * 2) (row2 u))).setRow b (ptL (ptL C9 (j * 2) (row2 u)) ((j - 1) * 2) (row2 v))) 15 17 [0, 1, 5, 6, 7, 8, 9, 13, 14] [.slice (some ⟨b, 0, none⟩) n c, .int .i64 (j : Int), .slice (some ⟨b, 0, none⟩) n c, .int .i64 (j : Int), .int .i64 ((j : Int) - 1), .slice (some ⟨b, 0, none⟩) n c, .int .i64 (j : Int), .int .i64 ((j : Int) - 1), .pointer (some ⟨b, (j - 1) * 2, none⟩), .agg #[.int .i64 u.2.1, .int .i64 u.2.2], .slice (some ⟨b, 0, none⟩) n c, .int .i64 (j : Int), .pointer (some ⟨b, j * 2, none⟩), .agg #[.int .i64 v.2.1, .int .i64 v.2.2], .pointer (some ⟨b, j * 2, none⟩), undef, .pointer (some ⟨b, (j - 1) * 2, none⟩), undef]) (selfF A0 _) (putF_self A0 _) TwoT.start ?hs1_6_W1 ?hend_6_W1
            case hs1_6_W1 =>
              refine ⟨?_, ?_, ?_, ?_, ?_, ?_, ?_, ?_, ?_, ?_, ?_, ?_, ?_, ?_, ?_, ?_, ?_, ?_, trivial⟩
              · intro K L us W hK0 hL hd hR
                have hK := hid (fun v A' h1 h2 => hK0 v A' W h1 (hR.pure 0 (by decide) (by decide) h2)); clear hK0
                (try simp [Region.binds] at hd)
                clear hd hR
                simp only [putF]
                rw [hA]
                go_frame
                go_wp2_with fail
                exact hK.out _ _ (by rw [hA]; simp only [putF]; kernel_rfl) rfl
              · intro K L us W hK0 hL hd hR
                have hK := hid (fun v A' h1 h2 => hK0 v A' W h1 (hR.pure 1 (by decide) (by decide) h2)); clear hK0
                (try simp [Region.binds] at hd)
                clear hd hR
                simp only [putF]
                rw [hA]
                go_frame
                go_wp2_with fail
                exact hK.out _ _ (by rw [hA]; simp only [putF]; kernel_rfl) rfl
              · intro K L us W hK0 hL hd hR
                have hK := hid (fun v A' h1 h2 => hK0 v A' W h1 (hR.pure 2 (by decide) (by decide) h2)); clear hK0
                (try simp [Region.binds] at hd)
                clear hd hR
                simp only [putF]
                rw [hA]
                go_frame
                go_wp2_with fail
                exact hK.out _ _ (by rw [hA]; simp only [putF]; kernel_rfl) rfl
              · intro K L us W hK0 hL hd hR
                have hK := hid (fun v A' h1 h2 => hK0 v A' W h1 (hR.pure 3 (by decide) (by decide) h2)); clear hK0
                (try simp [Region.binds] at hd)
                clear hd hR
                simp only [putF]
                rw [hA]
                go_frame
                go_wp2_with fail
                exact hK.out _ _ (by rw [hA]; simp only [putF]; kernel_rfl) rfl
              · intro K L us W hK0 hL hd hR
                have hK := hid (fun v A' h1 h2 => hK0 v A' W h1 (hR.pure 4 (by decide) (by decide) h2)); clear hK0
                (try simp [Region.binds] at hd)
                have e3 : us 3 = .int .i64 (j : Int) := hR.vals 3 (by simp [hd]) (by decide) (by decide)
                clear hd hR
                simp only [putF]
                rw [hA, e3]
                go_frame
                go_wp2_with fail
                exact hK.out _ _ (by rw [hA]; simp only [putF]; rw [e3]; kernel_rfl) rfl
              · intro K L us W hK0 hL hd hR
                have hK := hid (fun v A' h1 h2 => hK0 v A' W h1 (hR.pure 5 (by decide) (by decide) h2)); clear hK0
                (try simp [Region.binds] at hd)
                clear hd hR
                simp only [putF]
                rw [hA]
                go_frame
                go_wp2_with fail
                exact hK.out _ _ (by rw [hA]; simp only [putF]; kernel_rfl) rfl
              · intro K L us W hK0 hL hd hR
                have hK := hid (fun v A' h1 h2 => hK0 v A' W h1 (hR.pure 6 (by decide) (by decide) h2)); clear hK0
                (try simp [Region.binds] at hd)
                clear hd hR
                simp only [putF]
                rw [hA]
                go_frame
                go_wp2_with fail
                exact hK.out _ _ (by rw [hA]; simp only [putF]; kernel_rfl) rfl
              · intro K L us W hK0 hL hd hR
                have hK := hid (fun v A' h1 h2 => hK0 v A' W h1 (hR.pure 7 (by decide) (by decide) h2)); clear hK0
                (try simp [Region.binds] at hd)
                have e6 : us 6 = .int .i64 (j : Int) := hR.vals 6 (by simp [hd]) (by decide) (by decide)
                clear hd hR
                simp only [putF]
                rw [hA, e6]
                go_frame
                go_wp2_with fail
                exact hK.out _ _ (by rw [hA]; simp only [putF]; rw [e6]; kernel_rfl) rfl
              · intro K L us W hK0 hL hd hR
                have hK := hid (fun v A' h1 h2 => hK0 v A' W h1 (hR.pure 8 (by decide) (by decide) h2)); clear hK0
                (try simp [Region.binds] at hd)
                have e5 : us 5 = .slice (some ⟨b, 0, none⟩) n c := hR.vals 5 (by simp [hd]) (by decide) (by decide)
                have e7 : us 7 = .int .i64 ((j : Int) - 1) := hR.vals 7 (by simp [hd]) (by decide) (by decide)
                clear hd hR
                simp only [putF]
                rw [hA, e5, e7]
                go_frame
                go_wp2_with fail
                exact hK.out _ _ (by rw [hA]; simp only [putF]; rw [e5, e7]; kernel_rfl) rfl
              · intro K L us W hK0 hL hd hR
                have hK := hid (fun v A' h1 h2 => hK0 v A' W h1 (hR.pure 9 (by decide) (by decide) h2)); clear hK0
                (try simp [Region.binds] at hd)
                have e8 : us 8 = .pointer (some ⟨b, (j - 1) * 2, none⟩) := hR.vals 8 (by simp [hd]) (by decide) (by decide)
                have hW := hR.at0 (k := 9) (by decide) hL
                clear hd hR
                subst hW
                have c0 : V.drew.cell? ⟨b, (j - 1) * 2, none⟩ = some (.int .i64 u.2.1) := (cell_row YC.out).trans (HR9.out.at0 _ _ E0.out)
                have c1 : V.drew.cell? ⟨b, (j - 1) * 2 + 1, none⟩ = some (.int .i64 u.2.2) := (cell_row YC.out).trans (HR9.out.at1 _ _ E0.out)
                simp only [putF]
                rw [hA, e8]
                go_frame
                go_wp2_with fail
                exact hK.out _ _ (by rw [hA]; simp only [putF]; rw [e8]; kernel_rfl) rfl
              · intro K L us W hK0 hL hd hR
                have hK := hid (fun v A' h1 h2 => hK0 v A' W h1 (hR.pure 10 (by decide) (by decide) h2)); clear hK0
                (try simp [Region.binds] at hd)
                clear hd hR
                simp only [putF]
                rw [hA]
                go_frame
                go_wp2_with fail
                exact hK.out _ _ (by rw [hA]; simp only [putF]; kernel_rfl) rfl
              · intro K L us W hK0 hL hd hR
                have hK := hid (fun v A' h1 h2 => hK0 v A' W h1 (hR.pure 11 (by decide) (by decide) h2)); clear hK0
                (try simp [Region.binds] at hd)
                clear hd hR
                simp only [putF]
                rw [hA]
                go_frame
                go_wp2_with fail
                exact hK.out _ _ (by rw [hA]; simp only [putF]; kernel_rfl) rfl
              · intro K L us W hK0 hL hd hR
                have hK := hid (fun v A' h1 h2 => hK0 v A' W h1 (hR.pure 12 (by decide) (by decide) h2)); clear hK0
                (try simp [Region.binds] at hd)
                have e10 : us 10 = .slice (some ⟨b, 0, none⟩) n c := hR.vals 10 (by simp [hd]) (by decide) (by decide)
                have e11 : us 11 = .int .i64 (j : Int) := hR.vals 11 (by simp [hd]) (by decide) (by decide)
                clear hd hR
                simp only [putF]
                rw [hA, e10, e11]
                go_frame
                go_wp2_with fail
                exact hK.out _ _ (by rw [hA]; simp only [putF]; rw [e10, e11]; kernel_rfl) rfl
              · intro K L us W hK0 hL hd hR
                have hK := hid (fun v A' h1 h2 => hK0 v A' W h1 (hR.pure 13 (by decide) (by decide) h2)); clear hK0
                (try simp [Region.binds] at hd)
                have e12 : us 12 = .pointer (some ⟨b, j * 2, none⟩) := hR.vals 12 (by simp [hd]) (by decide) (by decide)
                have hW := hR.at0 (k := 13) (by decide) hL
                clear hd hR
                subst hW
                have c0 : V.drew.cell? ⟨b, j * 2, none⟩ = some (.int .i64 v.2.1) := (cell_row YC.out).trans (HR9.out.at0 _ _ E1.out)
                have c1 : V.drew.cell? ⟨b, j * 2 + 1, none⟩ = some (.int .i64 v.2.2) := (cell_row YC.out).trans (HR9.out.at1 _ _ E1.out)
                simp only [putF]
                rw [hA, e12]
                go_frame
                go_wp2_with fail
                exact hK.out _ _ (by rw [hA]; simp only [putF]; rw [e12]; kernel_rfl) rfl
              · intro K L us W hK0 hL hd hR
                have hK := hid (fun v A' h1 h2 => hK0 v A' W h1 (hR.pure 14 (by decide) (by decide) h2)); clear hK0
                (try simp [Region.binds] at hd)
                have e0 : us 0 = .slice (some ⟨b, 0, none⟩) n c := hR.vals 0 (by simp [hd]) (by decide) (by decide)
                have e1 : us 1 = .int .i64 (j : Int) := hR.vals 1 (by simp [hd]) (by decide) (by decide)
                clear hd hR
                simp only [putF]
                rw [hA, e0, e1]
                go_frame
                go_wp2_with fail
                exact hK.out _ _ (by rw [hA]; simp only [putF]; rw [e0, e1]; kernel_rfl) rfl
              · intro K L us W hK0 hL hd hR
                simp [Region.binds] at hd
                have e14 : us 14 = .pointer (some ⟨b, j * 2, none⟩) := hR.vals 14 (by simp [hd]) (by decide) (by decide)
                have e9 : us 9 = .agg #[.int .i64 u.2.1, .int .i64 u.2.2] := hR.vals 9 (by simp [hd]) (by decide) (by decide)
                have hp : ∀ j ∈ [0, 1, 5, 6, 7, 8, 9, 13, 14], L j = true := by
                  intro j hj
                  simp only [List.mem_cons, List.not_mem_nil, or_false] at hj
                  rcases hj with rfl | rfl | rfl | rfl | rfl | rfl | rfl | rfl | rfl
                  all_goals (simp [hd])
                have hW := (hR.fst (v := undef) hL hp (by decide)).1
                have hK := hid (fun A' h1 => hK0 undef A' _ h1 (hR.fst hL hp (by decide)).2); clear hK0 hp
                clear hd hR
                subst hW
                simp only [putF]
                rw [hA, e14, e9]
                go_frame
                go_wp2_with (refine pt_store rfl 124 (.tmp 51) (.tmp 46) rfl b (j * 2) _ rfl rfl (show V.drew.heap[b]? = _ from YC.out) size124s rfl (by show j * 2 + 2 ≤ C9.size; omega) rfl ?_)
                exact hK.out _ (by rw [hA]; simp only [putF]; rw [e14, e9]; kernel_rfl)
              · intro K L us W hK0 hL hd hR
                have hK := hid (fun v A' h1 h2 => hK0 v A' W h1 (hR.pure 16 (by decide) (by decide) h2)); clear hK0
                (try simp [Region.binds] at hd)
                have e2 : us 2 = .slice (some ⟨b, 0, none⟩) n c := hR.vals 2 (by simp [hd]) (by decide) (by decide)
                have e4 : us 4 = .int .i64 ((j : Int) - 1) := hR.vals 4 (by simp [hd]) (by decide) (by decide)
                clear hd hR
                simp only [putF]
                rw [hA, e2, e4]
                go_frame
                go_wp2_with fail
                exact hK.out _ _ (by rw [hA]; simp only [putF]; rw [e2, e4]; kernel_rfl) rfl
              · intro K L us W hK0 hL hd hR
                simp [Region.binds] at hd
                have e16 : us 16 = .pointer (some ⟨b, (j - 1) * 2, none⟩) := hR.vals 16 (by simp [hd]) (by decide) (by decide)
                have e13 : us 13 = .agg #[.int .i64 v.2.1, .int .i64 v.2.2] := hR.vals 13 (by simp [hd]) (by decide) (by decide)
                have h5 : L 15 = true := by simp [hd]
                have hW := (hR.snd (v := undef) h5 hL).1
                have hK := hid (fun A' h1 => hK0 undef A' _ h1 (hR.snd h5 hL).2); clear hK0
                clear hd hR
                subst hW
                simp only [putF]
                rw [hA, e16, e13]
                go_frame
                go_wp2_with (refine pt_store rfl 124 (.tmp 52) (.tmp 50) rfl b ((j - 1) * 2) _ rfl rfl (setRow_heap _ _ _ _ _ _ (show V.drew.heap[b]? = _ from YC.out)) size124s rfl (by show (j - 1) * 2 + 2 ≤ (ptL C9 (j * 2) _).size; rw [ptL_size]; omega) rfl ?_)
                exact hK.out _ (by rw [hA]; simp only [putF]; rw [e16, e13]; kernel_rfl)
            intro L us W1 hL hR
            have hW : W1 = (V.drew.setRow b (ptL C9 (j * 2) (row2 u))).setRow b (ptL (ptL C9 (j * 2) (row2 u)) ((j - 1) * 2) (row2 v)) := by have := hR.wld; rw [hL 17 (by decide)] at this; exact this
            clear hR hL
            simp only [putF]
            rw [hA]
            clear hA
            go_frame
            subst hW
            have ZS : RowsL ((V.drew.setRow b (ptL C9 (j * 2) (row2 u))).setRow b (ptL (ptL C9 (j * 2) (row2 u)) ((j - 1) * 2) (row2 v))) b 124 (p ++ (Z1' ++ v :: ((u :: Z2) ++ (R ++ s)))) := by
              refine ⟨_, setRow_heap _ _ _ _ _ _ (setRow_heap _ _ _ _ _ _ (show V.drew.heap[b]? = _ from YC.out)), ?_⟩
              have g := (HR9.out.set (i := j) (by omega) u).set (i := j - 1) (by rw [List.length_set]; omega) v
              have q := two_set (p ++ Z1') (Z2 ++ (R ++ s)) u v
              rw [show (p ++ Z1').length = j - 1 by simp; omega, show j - 1 + 1 = j by omega] at q
              rw [show p ++ ((Z1' ++ [u]) ++ v :: (Z2 ++ (R ++ s))) = (p ++ Z1') ++ u :: v :: (Z2 ++ (R ++ s)) by simp, q] at g
              simpa using g
            have ZT := ((YK.out.drew).setRow (ptL C9 (j * 2) (row2 u))).setRow (ptL (ptL C9 (j * 2) (row2 u)) ((j - 1) * 2) (row2 v))
            go_wp2_with fail
            go_roundw
            case rel => exact ⟨j - 1, Z1', u :: Z2, by omega, by omega, by congr 1; omega, by rw [hZZ]; simp, by omega, (fun a ha => by
              rcases List.mem_cons.1 ha with rfl | h
              · exact hvu
              · exact HZ2.out a h), ZS, ZT⟩
            case measure => simp [intOf]; omega
          · have hd : decide (cmpI v u < 0) = false := decide_eq_false (by omega)
            go_wp2_with fail
            obtain ⟨g1, g2⟩ := ins_end (Z1 := Z1' ++ [u]) (by rw [← hZZ]; exact HZ.out) hv HZ2.out (fun a ha => by
              have hup := (up_append.1 (show Up keyS (Z1' ++ ([u] ++ Z2)) by rw [← List.append_assoc, ← hZZ]; exact HZ.out.1)).2.2
              rcases List.mem_append.1 ha with h | h
              · have := hup a h u (by simp)
                show a.1 ≤ v.1
                have h3 : a.1 ≤ u.1 := this
                omega
              · rw [List.mem_singleton.1 h]
                show u.1 ≤ v.1
                omega)
            refine ⟨⟨k + 1, (Z1' ++ [u]) ++ v :: Z2, Or.inl (by omega), by omega, by go_num, ?_, ?_, ?_, ZK.out⟩, by simp [intOf]; omega⟩
            · rw [show k + 1 - A = k - A + 1 by omega]; exact g1
            · have := congrArg List.length hZZ
              simp at this ⊢
              omega
            · rw [show k + 1 - A = k - A + 1 by omega, g2]
              simpa using ZR.out
        · have hg : decide ((A : Int) < (j : Int)) = false := decide_eq_false (by omega)
          go_wp2_with fail
          refine wp_region_quiet_below (by kernel_rfl) (by kernel_rfl) ?_
          repeat (first | go_big_quiet_step (fail) | quiet_step (fail))
          refine wpQuiet_nil ?_
          intro _ hw'
          obtain ⟨⟨dq, osq⟩, hw2⟩ := hw'
          subst hw2
          have ZR := hid (HRW2.out.grow (below_regrown wr dq osq))
          have ZK := hid (HKP2.out.trans ((Keeps.of_below (g := b) (below_regrown wr dq osq)).mono HKP2.out.size))
          generalize Sort.grow (redrawn wr dq) osq = W9 at *
          go_wp2_with fail
          obtain rfl : Z1 = [] := List.eq_nil_of_length_eq_zero (by omega)
          obtain ⟨g1, g2⟩ := ins_end (Z1 := []) (by rw [← hZZ]; exact HZ.out) hv HZ2.out (by simp)
          refine ⟨⟨k + 1, v :: Z2, Or.inl (by omega), by omega, by go_num, ?_, ?_, ?_, ZK.out⟩, by simp [intOf]; omega⟩
          · rw [show k + 1 - A = k - A + 1 by omega]; exact g1
          · have := congrArg List.length hZZ
            simp at this ⊢
            omega
          · rw [show k + 1 - A = k - A + 1 by omega, g2]
            simpa using ZR.out
    · go_wp2_with fail
      go_end0
      refine ⟨rfl, ⟨Z, ?_, ?_⟩, HKP.out⟩
      · have := HZ.out
        rwa [List.take_of_length_le (by omega)] at this
      · have := HRW.out
        rwa [List.drop_eq_nil_of_le (by omega), List.nil_append] at this
end Go.Proofs.Yteoikaedpgianaa
