/- The library's merge by rotations: one element on the left; one element on the right. -/
import Derived.Test.YteoikaedpgianaaRInsI
import Derived.Test.YteoikaedpgianaaRStableM
import Derived.Laws.Shifts
namespace Go.Proofs.Yteoikaedpgianaa
open Go.RowKit

theorem last_take {α : Type} {y : List α} {k : Nat} {v : α} (h : (y.take k).getLast? = some v) (hk : k ≤ y.length) : 0 < k ∧ y[k - 1]? = some v := by
  rw [List.getLast?_eq_getElem?, List.length_take, Nat.min_eq_left hk] at h
  rcases Nat.eq_zero_or_pos k with rfl | h0
  · simp at h
  · refine ⟨h0, ?_⟩
    rwa [List.getElem?_take, if_pos (by omega)] at h
theorem head_drop {α : Type} {y : List α} {k : Nat} {v : α} (h : (y.drop k).head? = some v) : y[k]? = some v := by
  rwa [List.head?_drop] at h
theorem get_off {α : Type} {p q t : List α} {i j : Nat} (h : j < q.length) (hi : i = p.length + j) : (p ++ (q ++ t))[i]? = q[j]? := by
  subst hi
  rw [List.getElem?_append_right (by omega), show p.length + j - p.length = j by omega, List.getElem?_append_left h]
theorem half_shr (i j h : Nat) (hh : h = (i + j) / 2) : binOp .shr 41 (.int .u64 ((i : Int) + (j : Int))) (.int .u64 1) = pure (.int .u64 (h : Int)) := by
  have hhz : ((i : Int) + (j : Int)) / 2 = (h : Int) := by omega
  rw [← hhz, binOp_shr, shift_shr_any _ _ _ _ (by decide)]
  rfl
theorem two_set1 (Q t : List Syn) (u v : Syn) : ((Q ++ u :: v :: t).set Q.length v).set (Q.length + 1) u = Q ++ v :: u :: t := by
  rw [List.set_append_right _ _ (Nat.le_refl _), Nat.sub_self, List.set_append_right _ _ (by omega), show Q.length + 1 - Q.length = 1 by omega]
  rfl
theorem place_of {m e : Nat} {y : List Syn} {u : Syn} {i : Nat} (hy : Up keyS y) (hm : m ≤ i) (he : m + y.length = e) (hie : i ≤ e) (h1 : i = m ∨ ∃ v, y[i - 1 - m]? = some v ∧ keyS v < keyS u) (h2 : i = e ∨ ∃ v, y[i - m]? = some v ∧ keyS u ≤ keyS v) :
    Stab keyS ([u] ++ y) (y.take (i - m) ++ u :: y.drop (i - m)) := by
  have := left_near (key := keyS) (x := u) (y1 := y.take (i - m)) (y2 := y.drop (i - m)) (by rwa [List.take_append_drop]) (fun v hv => by
    obtain ⟨h0, h3⟩ := last_take hv (by omega)
    rcases h1 with h1 | ⟨v', h1, h4⟩
    · omega
    · rw [show i - 1 - m = i - m - 1 by omega, h3] at h1
      injection h1 with h1
      subst h1
      exact h4) (fun v hv => by
    have h3 := head_drop hv
    rcases h2 with h2 | ⟨v', h2, h4⟩
    · rw [List.getElem?_eq_none (by omega)] at h3; cases h3
    · rw [h3] at h2
      injection h2 with h2
      subst h2
      exact h4)
  rwa [List.take_append_drop] at this
theorem place_right {m e : Nat} {x : List Syn} {v : Syn} {i : Nat} (hx : Up keyS x) (hm : m ≤ i) (he : m + x.length = e) (hie : i ≤ e) (h1 : i = m ∨ ∃ u, x[i - 1 - m]? = some u ∧ keyS u ≤ keyS v) (h2 : i = e ∨ ∃ u, x[i - m]? = some u ∧ keyS v < keyS u) :
    Stab keyS (x ++ [v]) (x.take (i - m) ++ v :: x.drop (i - m)) := by
  have := right_near (key := keyS) (y := v) (x1 := x.take (i - m)) (x2 := x.drop (i - m)) (by rwa [List.take_append_drop]) (fun u hv => by
    obtain ⟨h0, h3⟩ := last_take hv (by omega)
    rcases h1 with h1 | ⟨v', h1, h4⟩
    · omega
    · rw [show i - 1 - m = i - m - 1 by omega, h3] at h1
      injection h1 with h1
      subst h1
      exact h4) (fun u hv => by
    have h3 := head_drop hv
    rcases h2 with h2 | ⟨v', h2, h4⟩
    · rw [List.getElem?_eq_none (by omega)] at h3; cases h3
    · rw [h3] at h2
      injection h2 with h2
      subst h2
      exact h4)
  rwa [List.take_append_drop] at this
set_option maxRecDepth 100000 in
set_option maxHeartbeats 1600000 in
theorem symLeft_any (b c n A M E : Nat) (p : List Syn) (u : Syn) (y s : List Syn) (w : World) (hn : n = (p ++ (u :: (y ++ s))).length) (hl : n ≤ 4611686018427387904) (hA : p.length = A) (hM : A + 1 = M) (hE : M + y.length = E) (hy : Up keyS y) (hu : okI u) (ht : timed y) (hr : RowsL w b 124 (p ++ (u :: (y ++ s)))) :
    Calls Try.prog 177 #[.slice (some ⟨b, 0, none⟩) n c, .int .i64 A, .int .i64 M, .int .i64 E, .func (.func 124) #[] #[]] w
      fun r w' => r = .returned (.tuple #[]) ∧ (∃ z, Stab keyS ([u] ++ y) z ∧ RowsL w' b 124 (p ++ (z ++ s))) ∧ Keeps b w.heap.size w w' := by
  have HR := hid hr
  have HN := hid hn
  have hEn : E ≤ n := by rw [hn]; simp; omega
  have HL := hid (fun k v (h : y[k]? = some v) => show (p ++ (u :: (y ++ s)))[M + k]? = some v from by
    have hk : k < y.length := by rcases List.getElem?_eq_some_iff.1 h with ⟨h, _⟩; exact h
    have := get_off (p := p ++ [u]) (q := y) (t := s) (i := M + k) hk (by simp; omega)
    simp at this
    rw [this, h])
  have HU := hid (show (p ++ (u :: (y ++ s)))[A]? = some u from by rw [← hA]; simp)
  have h1 : ((M : Int) - (A : Int) == 1) = true := by simp; omega
  have HMA := hid hM
  have HME := hid hE
  have hAM : A < M := by omega
  have hME : M ≤ E := by omega
  clear hr hn hM hE
  go_enter Try.func177, Try.ntmps177
  go_wp2_with fail
  go_loopw [10, 11] (fun iv jv W => ∃ (i j : Nat), iv = .int .i64 (i : Int) ∧ jv = .int .i64 (j : Int) ∧ M ≤ i ∧ i ≤ j ∧ j ≤ E ∧ (i = M ∨ ∃ v, y[i - 1 - M]? = some v ∧ keyS v < keyS u) ∧ (j = E ∨ ∃ v, y[j - M]? = some v ∧ keyS u ≤ keyS v) ∧ RowsL W b 124 (p ++ (u :: (y ++ s))) ∧ Keeps b w.heap.size w W) (fun iv jv _ => (intOf jv).toNat - (intOf iv).toNat)
  case atStart => exact ⟨M, E, rfl, rfl, by omega, by omega, by omega, Or.inl rfl, Or.inl rfl, HR.out, Keeps.refl _ _ _⟩
  case round =>
    obtain ⟨i, j, rfl, rfl, hi, hij, hj, hI, hJ, hRW, hKP⟩ := hrel
    have HI := hid hI
    have HJ := hid hJ
    have HRW := hid hRW
    have HKP := hid hKP
    clear hI hJ hRW hKP
    by_cases hlt : i < j
    · obtain ⟨h, hh⟩ : ∃ h, h = (i + j) / 2 := ⟨_, rfl⟩
      have hih : i ≤ h := by omega
      have hhj : h < j := by omega
      have hsh := half_shr i j h hh
      obtain ⟨v, hv⟩ : ∃ v, y[h - M]? = some v := ⟨_, List.getElem?_eq_getElem (by have := HME.out; omega)⟩
      have e1 := HL.out _ _ hv
      rw [show M + (h - M) = h by omega] at e1
      have hvt := ht v (List.mem_of_getElem? hv)
      have HV := hid hv
      clear hv hh
      obtain ⟨C, hC, hrc⟩ := HRW.out
      have a0 := fun d os => cell_regrown (w := wr) ((cell_row hC).trans (hrc.at0 _ _ e1)) d os
      have a1 := fun d os => cell_regrown (w := wr) ((cell_row hC).trans (hrc.at1 _ _ e1)) d os
      have b0 := fun d os => cell_regrown (w := wr) ((cell_row hC).trans (hrc.at0 _ _ HU.out)) d os
      have b1 := fun d os => cell_regrown (w := wr) ((cell_row hC).trans (hrc.at1 _ _ HU.out)) d os
      have HC8 := hid (fun W => cmpSync_any v u W (by omega) (by omega))
      have HCM := hid (cmpI_lt (x := v) (y := u) (by omega) (by omega))
      go_wp2_with fail
      refine wp_region_quiet_below (by kernel_rfl) (by kernel_rfl) ?_
      repeat (first | go_big_quiet_step (first | (go_at_call 124; exact Calls.regrown_of (HC8.out _))) | quiet_step (first | (go_at_call 124; exact Calls.regrown_of (HC8.out _))))
      refine wpQuiet_nil ?_
      intro _ hw'
      obtain ⟨⟨dq, osq⟩, hw2⟩ := hw'
      subst hw2
      have ZR := hid (show RowsL (Sort.grow (redrawn wr dq) osq) b 124 (p ++ (u :: (y ++ s))) from (RowsL.grow ⟨C, hC, hrc⟩ (below_regrown wr dq osq)))
      have ZK := hid (HKP.out.trans ((Keeps.of_below (g := b) (below_regrown wr dq osq)).mono HKP.out.size))
      clear a0 a1 b0 b1 hC hrc
      generalize Sort.grow (redrawn wr dq) osq = W9 at *
      by_cases hvu : v.1 < u.1
      · have hp : cmpI v u < 0 := by have hcm := HCM.out; omega
        have hd : decide (cmpI v u < 0) = true := decide_eq_true (by have hcm := HCM.out; omega)
        go_wp2_with fail
        go_roundw
        case rel => exact ⟨h + 1, j, by go_num, rfl, by omega, by omega, by omega, Or.inr ⟨v, by rw [show h + 1 - 1 - M = h - M by omega]; exact HV.out, hvu⟩, HJ.out, ZR.out, ZK.out⟩
        case measure => simp [intOf]; omega
      · have hp : ¬ cmpI v u < 0 := by have hcm := HCM.out; omega
        have hd : decide (cmpI v u < 0) = false := decide_eq_false (by have hcm := HCM.out; omega)
        go_wp2_with fail
        go_roundw
        case rel => exact ⟨i, h, rfl, rfl, by omega, by omega, by omega, HI.out, Or.inr ⟨v, HV.out, (by show u.1 ≤ v.1; omega)⟩, ZR.out, ZK.out⟩
        case measure => simp [intOf]; omega
    · obtain rfl : i = j := by omega
      obtain ⟨y1, y2, hy1, hy2⟩ : ∃ y1 y2, y1 = y.take (i - M) ∧ y2 = y.drop (i - M) := ⟨_, _, rfl, rfl⟩
      have HST := hid (place_of (u := u) hy hi HME.out hj HI.out HJ.out)
      have HYY := hid (show y1 ++ y2 = y by rw [hy1, hy2, List.take_append_drop])
      have hyl : y1.length = i - M := by rw [hy1, List.length_take]; have := HME.out; omega
      rw [← hy1, ← hy2] at HST
      rw [← HYY.out] at HRW
      have hnn := hid (show n = p.length + 1 + y1.length + y2.length + s.length by rw [HN.out, ← HYY.out]; simp; omega)
      clear hy1 hy2
      go_wp2_with fail
      go_loopw [13] (fun kv W => ∃ (k : Nat) (Z1 Z2 : List Syn), A ≤ k ∧ k < i ∧ kv = .int .i64 (k : Int) ∧ y1 = Z1 ++ Z2 ∧ Z1.length = k - A ∧ RowsL W b 124 (p ++ (Z1 ++ u :: (Z2 ++ (y2 ++ s)))) ∧ Keeps b w.heap.size w W) (fun kv _ => i - (intOf kv).toNat)
      case atStart => exact ⟨A, [], y1, by omega, by omega, rfl, rfl, by simp, by simpa using HRW.out, HKP.out⟩
      case round =>
        obtain ⟨k, Z1, Z2, hAk, hki, rfl, hZZ, hZl, hRW2, hKP2⟩ := hrel
        by_cases hk : k + 1 < i
        · match Z2, hZZ with
          | [], hZZ => exfalso; rw [hZZ] at hyl; simp at hyl; have := HMA.out; omega
          | v :: Z2, hZZ =>
          obtain ⟨C9, hC9, hr9⟩ := hRW2
          have hs9 := hr9.size
          have hln : (p ++ (Z1 ++ u :: ((v :: Z2) ++ (y2 ++ s)))).length = n := by
            rw [hnn.out, hZZ]
            simp
            omega
          rw [hln] at hs9
          have hin : i ≤ n := by omega
          have hln := hid hln
          have e0 : (p ++ (Z1 ++ u :: ((v :: Z2) ++ (y2 ++ s))))[k]? = some u := at_mid _ _ _ _ _ (by omega)
          have e1 : (p ++ (Z1 ++ u :: ((v :: Z2) ++ (y2 ++ s))))[k + 1]? = some v := by
            have := at_mid p (Z1 ++ [u]) (Z2 ++ (y2 ++ s)) v (k + 1) (by simp; omega)
            simpa using this
          have HR9 := hid hr9
          have E1 := hid e1
          have E0 := hid e0
          have HZZ := hid hZZ
          have HC9 := hid hC9
          have HKP2 := hid hKP2
          clear hZZ hr9 e0 e1 hC9 hKP2
          have hd : decide ((k : Int) < (i : Int) - 1) = true := decide_eq_true (by omega)
          go_wp2_with fail
          refine gen_world (fun V hV => ?_)
          have YC := hid (show V.heap[b]? = some (.cells C9 124) by rw [hV]; exact HC9.out)
          have YK := hid (show Keeps b w.heap.size w V by rw [hV]; exact HKP2.out)
          clear hV
          refine gen_act (fun A0 hA => ?_)
          refine wp_region_by (by kernel_rfl) (by kernel_rfl) [some 61, some 62, some 63, some 64, some 65, some 66, some 67, some 68, some 69, some 70, some 71, some 72, some 73, some 74, some 75, none, some 76, none] rfl (by decide) (TwoT V.drew (V.drew.setRow b (ptL C9 (k * 2) (row2 v))) ((V.drew.setRow b (ptL C9 (k * 2) (row2 v))).setRow b (ptL (ptL C9 (k * 2) (row2 v)) ((k + 1) * 2) (row2 u))) 15 17 [0, 1, 5, 6, 7, 8, 9, 13, 14] [.slice (some ⟨b, 0, none⟩) n c, .int .i64 (k : Int), .slice (some ⟨b, 0, none⟩) n c, .int .i64 (k : Int), .int .i64 ((k : Int) + 1), .slice (some ⟨b, 0, none⟩) n c, .int .i64 (k : Int), .int .i64 ((k : Int) + 1), .pointer (some ⟨b, (k + 1) * 2, none⟩), .agg #[.int .i64 v.2.1, .int .i64 v.2.2], .slice (some ⟨b, 0, none⟩) n c, .int .i64 (k : Int), .pointer (some ⟨b, k * 2, none⟩), .agg #[.int .i64 u.2.1, .int .i64 u.2.2], .pointer (some ⟨b, k * 2, none⟩), undef, .pointer (some ⟨b, (k + 1) * 2, none⟩), undef]) (selfF A0 _) (putF_self A0 _) TwoT.start ?hs1_11_W1 ?hend_11_W1
          case hs1_11_W1 =>
            refine ⟨?_, ?_, ?_, ?_, ?_, ?_, ?_, ?_, ?_, ?_, ?_, ?_, ?_, ?_, ?_, ?_, ?_, ?_, trivial⟩
            · intro K L us W hK0 hL hd hR
              have hK := hid (fun v A' h1 h2 => hK0 v A' W h1 (hR.pure 0 (by decide) (by decide) h2)); clear hK0
              (try simp [Region.binds] at hd)
              clear hd hR
              simp only [putF]
              rw [hA]
              go_frame
              go_wp2_with fail
              exact hK.out _ _ (by rw [hA]; simp only [putF]; kernel_rfl) rfl
            · intro K L us W hK0 hL hd hR
              have hK := hid (fun v A' h1 h2 => hK0 v A' W h1 (hR.pure 1 (by decide) (by decide) h2)); clear hK0
              (try simp [Region.binds] at hd)
              clear hd hR
              simp only [putF]
              rw [hA]
              go_frame
              go_wp2_with fail
              exact hK.out _ _ (by rw [hA]; simp only [putF]; kernel_rfl) rfl
            · intro K L us W hK0 hL hd hR
              have hK := hid (fun v A' h1 h2 => hK0 v A' W h1 (hR.pure 2 (by decide) (by decide) h2)); clear hK0
              (try simp [Region.binds] at hd)
              clear hd hR
              simp only [putF]
              rw [hA]
              go_frame
              go_wp2_with fail
              exact hK.out _ _ (by rw [hA]; simp only [putF]; kernel_rfl) rfl
            · intro K L us W hK0 hL hd hR
              have hK := hid (fun v A' h1 h2 => hK0 v A' W h1 (hR.pure 3 (by decide) (by decide) h2)); clear hK0
              (try simp [Region.binds] at hd)
              clear hd hR
              simp only [putF]
              rw [hA]
              go_frame
              go_wp2_with fail
              exact hK.out _ _ (by rw [hA]; simp only [putF]; kernel_rfl) rfl
            · intro K L us W hK0 hL hd hR
              have hK := hid (fun v A' h1 h2 => hK0 v A' W h1 (hR.pure 4 (by decide) (by decide) h2)); clear hK0
              (try simp [Region.binds] at hd)
              have e3 : us 3 = .int .i64 (k : Int) := hR.vals 3 (by simp [hd]) (by decide) (by decide)
              clear hd hR
              simp only [putF]
              rw [hA, e3]
              go_frame
              go_wp2_with fail
              exact hK.out _ _ (by rw [hA]; simp only [putF]; rw [e3]; kernel_rfl) rfl
            · intro K L us W hK0 hL hd hR
              have hK := hid (fun v A' h1 h2 => hK0 v A' W h1 (hR.pure 5 (by decide) (by decide) h2)); clear hK0
              (try simp [Region.binds] at hd)
              clear hd hR
              simp only [putF]
              rw [hA]
              go_frame
              go_wp2_with fail
              exact hK.out _ _ (by rw [hA]; simp only [putF]; kernel_rfl) rfl
            · intro K L us W hK0 hL hd hR
              have hK := hid (fun v A' h1 h2 => hK0 v A' W h1 (hR.pure 6 (by decide) (by decide) h2)); clear hK0
              (try simp [Region.binds] at hd)
              clear hd hR
              simp only [putF]
              rw [hA]
              go_frame
              go_wp2_with fail
              exact hK.out _ _ (by rw [hA]; simp only [putF]; kernel_rfl) rfl
            · intro K L us W hK0 hL hd hR
              have hK := hid (fun v A' h1 h2 => hK0 v A' W h1 (hR.pure 7 (by decide) (by decide) h2)); clear hK0
              (try simp [Region.binds] at hd)
              have e6 : us 6 = .int .i64 (k : Int) := hR.vals 6 (by simp [hd]) (by decide) (by decide)
              clear hd hR
              simp only [putF]
              rw [hA, e6]
              go_frame
              go_wp2_with fail
              exact hK.out _ _ (by rw [hA]; simp only [putF]; rw [e6]; kernel_rfl) rfl
            · intro K L us W hK0 hL hd hR
              have hK := hid (fun v A' h1 h2 => hK0 v A' W h1 (hR.pure 8 (by decide) (by decide) h2)); clear hK0
              (try simp [Region.binds] at hd)
              have e5 : us 5 = .slice (some ⟨b, 0, none⟩) n c := hR.vals 5 (by simp [hd]) (by decide) (by decide)
              have e7 : us 7 = .int .i64 ((k : Int) + 1) := hR.vals 7 (by simp [hd]) (by decide) (by decide)
              clear hd hR
              simp only [putF]
              rw [hA, e5, e7]
              go_frame
              go_wp2_with fail
              exact hK.out _ _ (by rw [hA]; simp only [putF]; rw [e5, e7]; kernel_rfl) rfl
            · intro K L us W hK0 hL hd hR
              have hK := hid (fun v A' h1 h2 => hK0 v A' W h1 (hR.pure 9 (by decide) (by decide) h2)); clear hK0
              (try simp [Region.binds] at hd)
              have e8 : us 8 = .pointer (some ⟨b, (k + 1) * 2, none⟩) := hR.vals 8 (by simp [hd]) (by decide) (by decide)
              have hW := hR.at0 (k := 9) (by decide) hL
              clear hd hR
              subst hW
              have c0 : V.drew.cell? ⟨b, (k + 1) * 2, none⟩ = some (.int .i64 v.2.1) := (cell_row YC.out).trans (HR9.out.at0 _ _ E1.out)
              have c1 : V.drew.cell? ⟨b, (k + 1) * 2 + 1, none⟩ = some (.int .i64 v.2.2) := (cell_row YC.out).trans (HR9.out.at1 _ _ E1.out)
              simp only [putF]
              rw [hA, e8]
              go_frame
              go_wp2_with fail
              exact hK.out _ _ (by rw [hA]; simp only [putF]; rw [e8]; kernel_rfl) rfl
            · intro K L us W hK0 hL hd hR
              have hK := hid (fun v A' h1 h2 => hK0 v A' W h1 (hR.pure 10 (by decide) (by decide) h2)); clear hK0
              (try simp [Region.binds] at hd)
              clear hd hR
              simp only [putF]
              rw [hA]
              go_frame
              go_wp2_with fail
              exact hK.out _ _ (by rw [hA]; simp only [putF]; kernel_rfl) rfl
            · intro K L us W hK0 hL hd hR
              have hK := hid (fun v A' h1 h2 => hK0 v A' W h1 (hR.pure 11 (by decide) (by decide) h2)); clear hK0
              (try simp [Region.binds] at hd)
              clear hd hR
              simp only [putF]
              rw [hA]
              go_frame
              go_wp2_with fail
              exact hK.out _ _ (by rw [hA]; simp only [putF]; kernel_rfl) rfl
            · intro K L us W hK0 hL hd hR
              have hK := hid (fun v A' h1 h2 => hK0 v A' W h1 (hR.pure 12 (by decide) (by decide) h2)); clear hK0
              (try simp [Region.binds] at hd)
              have e10 : us 10 = .slice (some ⟨b, 0, none⟩) n c := hR.vals 10 (by simp [hd]) (by decide) (by decide)
              have e11 : us 11 = .int .i64 (k : Int) := hR.vals 11 (by simp [hd]) (by decide) (by decide)
              clear hd hR
              simp only [putF]
              rw [hA, e10, e11]
              go_frame
              go_wp2_with fail
              exact hK.out _ _ (by rw [hA]; simp only [putF]; rw [e10, e11]; kernel_rfl) rfl
            · intro K L us W hK0 hL hd hR
              have hK := hid (fun v A' h1 h2 => hK0 v A' W h1 (hR.pure 13 (by decide) (by decide) h2)); clear hK0
              (try simp [Region.binds] at hd)
              have e12 : us 12 = .pointer (some ⟨b, k * 2, none⟩) := hR.vals 12 (by simp [hd]) (by decide) (by decide)
              have hW := hR.at0 (k := 13) (by decide) hL
              clear hd hR
              subst hW
              have c0 : V.drew.cell? ⟨b, k * 2, none⟩ = some (.int .i64 u.2.1) := (cell_row YC.out).trans (HR9.out.at0 _ _ E0.out)
              have c1 : V.drew.cell? ⟨b, k * 2 + 1, none⟩ = some (.int .i64 u.2.2) := (cell_row YC.out).trans (HR9.out.at1 _ _ E0.out)
              simp only [putF]
              rw [hA, e12]
              go_frame
              go_wp2_with fail
              exact hK.out _ _ (by rw [hA]; simp only [putF]; rw [e12]; kernel_rfl) rfl
            · intro K L us W hK0 hL hd hR
              have hK := hid (fun v A' h1 h2 => hK0 v A' W h1 (hR.pure 14 (by decide) (by decide) h2)); clear hK0
              (try simp [Region.binds] at hd)
              have e0 : us 0 = .slice (some ⟨b, 0, none⟩) n c := hR.vals 0 (by simp [hd]) (by decide) (by decide)
              have e1 : us 1 = .int .i64 (k : Int) := hR.vals 1 (by simp [hd]) (by decide) (by decide)
              clear hd hR
              simp only [putF]
              rw [hA, e0, e1]
              go_frame
              go_wp2_with fail
              exact hK.out _ _ (by rw [hA]; simp only [putF]; rw [e0, e1]; kernel_rfl) rfl
            · intro K L us W hK0 hL hd hR
              simp [Region.binds] at hd
              have e14 : us 14 = .pointer (some ⟨b, k * 2, none⟩) := hR.vals 14 (by simp [hd]) (by decide) (by decide)
              have e9 : us 9 = .agg #[.int .i64 v.2.1, .int .i64 v.2.2] := hR.vals 9 (by simp [hd]) (by decide) (by decide)
              have hp : ∀ j ∈ [0, 1, 5, 6, 7, 8, 9, 13, 14], L j = true := by
                intro j hj
                simp only [List.mem_cons, List.not_mem_nil, or_false] at hj
                rcases hj with rfl | rfl | rfl | rfl | rfl | rfl | rfl | rfl | rfl
                all_goals (simp [hd])
              have hW := (hR.fst (v := undef) hL hp (by decide)).1
              have hK := hid (fun A' h1 => hK0 undef A' _ h1 (hR.fst hL hp (by decide)).2); clear hK0 hp
              clear hd hR
              subst hW
              simp only [putF]
              rw [hA, e14, e9]
              go_frame
              go_wp2_with (refine pt_store rfl 124 (.tmp 75) (.tmp 70) rfl b (k * 2) _ rfl rfl (show V.drew.heap[b]? = _ from YC.out) size124s rfl (by show k * 2 + 2 ≤ C9.size; omega) rfl ?_)
              exact hK.out _ (by rw [hA]; simp only [putF]; rw [e14, e9]; kernel_rfl)
            · intro K L us W hK0 hL hd hR
              have hK := hid (fun v A' h1 h2 => hK0 v A' W h1 (hR.pure 16 (by decide) (by decide) h2)); clear hK0
              (try simp [Region.binds] at hd)
              have e2 : us 2 = .slice (some ⟨b, 0, none⟩) n c := hR.vals 2 (by simp [hd]) (by decide) (by decide)
              have e4 : us 4 = .int .i64 ((k : Int) + 1) := hR.vals 4 (by simp [hd]) (by decide) (by decide)
              clear hd hR
              simp only [putF]
              rw [hA, e2, e4]
              go_frame
              go_wp2_with fail
              exact hK.out _ _ (by rw [hA]; simp only [putF]; rw [e2, e4]; kernel_rfl) rfl
            · intro K L us W hK0 hL hd hR
              simp [Region.binds] at hd
              have e16 : us 16 = .pointer (some ⟨b, (k + 1) * 2, none⟩) := hR.vals 16 (by simp [hd]) (by decide) (by decide)
              have e13 : us 13 = .agg #[.int .i64 u.2.1, .int .i64 u.2.2] := hR.vals 13 (by simp [hd]) (by decide) (by decide)
              have h5 : L 15 = true := by simp [hd]
              have hW := (hR.snd (v := undef) h5 hL).1
              have hK := hid (fun A' h1 => hK0 undef A' _ h1 (hR.snd h5 hL).2); clear hK0
              clear hd hR
              subst hW
              simp only [putF]
              rw [hA, e16, e13]
              go_frame
              go_wp2_with (refine pt_store rfl 124 (.tmp 76) (.tmp 74) rfl b ((k + 1) * 2) _ rfl rfl (setRow_heap _ _ _ _ _ _ (show V.drew.heap[b]? = _ from YC.out)) size124s rfl (by show (k + 1) * 2 + 2 ≤ (ptL C9 (k * 2) _).size; rw [ptL_size]; omega) rfl ?_)
              exact hK.out _ (by rw [hA]; simp only [putF]; rw [e16, e13]; kernel_rfl)
          intro L us W1 hL hR
          have hW : W1 = (V.drew.setRow b (ptL C9 (k * 2) (row2 v))).setRow b (ptL (ptL C9 (k * 2) (row2 v)) ((k + 1) * 2) (row2 u)) := by have := hR.wld; rw [hL 17 (by decide)] at this; exact this
          clear hR hL
          simp only [putF]
          rw [hA]
          clear hA
          go_frame
          subst hW
          have ZS : RowsL ((V.drew.setRow b (ptL C9 (k * 2) (row2 v))).setRow b (ptL (ptL C9 (k * 2) (row2 v)) ((k + 1) * 2) (row2 u))) b 124 (p ++ ((Z1 ++ [v]) ++ u :: (Z2 ++ (y2 ++ s)))) := by
            refine ⟨_, setRow_heap _ _ _ _ _ _ (setRow_heap _ _ _ _ _ _ (show V.drew.heap[b]? = _ from YC.out)), ?_⟩
            have g := (HR9.out.set (i := k) (by omega) v).set (i := k + 1) (by rw [List.length_set]; omega) u
            have q := two_set1 (p ++ Z1) (Z2 ++ (y2 ++ s)) u v
            rw [show (p ++ Z1).length = k by simp; omega] at q
            rw [show p ++ (Z1 ++ u :: ((v :: Z2) ++ (y2 ++ s))) = (p ++ Z1) ++ u :: v :: (Z2 ++ (y2 ++ s)) by simp, q] at g
            simpa using g
          have ZT := ((YK.out.drew).setRow (ptL C9 (k * 2) (row2 v))).setRow (ptL (ptL C9 (k * 2) (row2 v)) ((k + 1) * 2) (row2 u))
          go_wp2_with fail
          go_roundw
          case rel => exact ⟨k + 1, Z1 ++ [v], Z2, by omega, by omega, by go_num, by rw [HZZ.out]; simp, by simp; omega, ZS, ZT⟩
          case measure => simp [intOf]; omega
        · have hd : decide ((k : Int) < (i : Int) - 1) = false := decide_eq_false (by omega)
          have hZ2 : Z2 = [] := by
            have := congrArg List.length hZZ
            simp at this
            exact List.eq_nil_of_length_eq_zero (by omega)
          subst hZ2
          have HRW2 := hid hRW2
          have HZZ := hid hZZ
          clear hRW2 hZZ
          go_wp2_with fail
          (try simp only [Exit.inBlock, Exit.then]); refine bodyPost_ret (results_none rfl _ _ _) rfl ?_
          refine ⟨rfl, ⟨_, HST.out, ?_⟩, hKP2⟩
          have e := HZZ.out
          rw [List.append_nil] at e
          rw [e]
          simpa using HRW2.out
set_option maxRecDepth 100000 in
set_option maxHeartbeats 1600000 in
theorem symRight_any (b c n A M E : Nat) (p : List Syn) (v : Syn) (x s : List Syn) (w : World) (hn : n = (p ++ (x ++ (v :: s))).length) (hl : n ≤ 4611686018427387904) (hA : p.length = A) (hM : A + x.length = M) (hE : M + 1 = E) (hx1 : x.length ≠ 1) (hx : Up keyS x) (hv : okI v) (ht : timed x) (hr : RowsL w b 124 (p ++ (x ++ (v :: s)))) :
    Calls Try.prog 177 #[.slice (some ⟨b, 0, none⟩) n c, .int .i64 A, .int .i64 M, .int .i64 E, .func (.func 124) #[] #[]] w
      fun r w' => r = .returned (.tuple #[]) ∧ (∃ z, Stab keyS (x ++ [v]) z ∧ RowsL w' b 124 (p ++ (z ++ s))) ∧ Keeps b w.heap.size w w' := by
  have HR := hid hr
  have HN := hid hn
  have hEn : E ≤ n := by rw [hn]; simp; omega
  have HL := hid (fun k u (h : x[k]? = some u) => show (p ++ (x ++ (v :: s)))[A + k]? = some u from by
    have hk : k < x.length := by rcases List.getElem?_eq_some_iff.1 h with ⟨h, _⟩; exact h
    rw [get_off hk (by omega), h])
  have HV := hid (show (p ++ (x ++ (v :: s)))[M]? = some v from at_mid _ _ _ _ _ (by omega))
  have h1 : ((M : Int) - (A : Int) == 1) = false := by simp; omega
  have h2 : ((E : Int) - (M : Int) == 1) = true := by simp; omega
  have HAM := hid hM
  have HME := hid hE
  have hAM : A ≤ M := by omega
  have hME : M < E := by omega
  clear hr hn hM hE hx1
  go_enter Try.func177, Try.ntmps177
  go_wp2_with fail
  go_loopw [14, 15] (fun iv jv W => ∃ (i j : Nat), iv = .int .i64 (i : Int) ∧ jv = .int .i64 (j : Int) ∧ A ≤ i ∧ i ≤ j ∧ j ≤ M ∧ (i = A ∨ ∃ u, x[i - 1 - A]? = some u ∧ keyS u ≤ keyS v) ∧ (j = M ∨ ∃ u, x[j - A]? = some u ∧ keyS v < keyS u) ∧ RowsL W b 124 (p ++ (x ++ (v :: s))) ∧ Keeps b w.heap.size w W) (fun iv jv _ => (intOf jv).toNat - (intOf iv).toNat)
  case atStart => exact ⟨A, M, rfl, rfl, by omega, by omega, by omega, Or.inl rfl, Or.inl rfl, HR.out, Keeps.refl _ _ _⟩
  case round =>
    obtain ⟨i, j, rfl, rfl, hi, hij, hj, hI, hJ, hRW, hKP⟩ := hrel
    have HI := hid hI
    have HJ := hid hJ
    have HRW := hid hRW
    have HKP := hid hKP
    clear hI hJ hRW hKP
    by_cases hlt : i < j
    · obtain ⟨h, hh⟩ : ∃ h, h = (i + j) / 2 := ⟨_, rfl⟩
      have hih : i ≤ h := by omega
      have hhj : h < j := by omega
      have hsh := half_shr i j h hh
      obtain ⟨u, hu⟩ : ∃ u, x[h - A]? = some u := ⟨_, List.getElem?_eq_getElem (by have := HAM.out; omega)⟩
      have e1 := HL.out _ _ hu
      rw [show A + (h - A) = h by omega] at e1
      have hut := ht u (List.mem_of_getElem? hu)
      have HU := hid hu
      clear hu hh
      obtain ⟨C, hC, hrc⟩ := HRW.out
      have a0 := fun d os => cell_regrown (w := wr) ((cell_row hC).trans (hrc.at0 _ _ HV.out)) d os
      have a1 := fun d os => cell_regrown (w := wr) ((cell_row hC).trans (hrc.at1 _ _ HV.out)) d os
      have b0 := fun d os => cell_regrown (w := wr) ((cell_row hC).trans (hrc.at0 _ _ e1)) d os
      have b1 := fun d os => cell_regrown (w := wr) ((cell_row hC).trans (hrc.at1 _ _ e1)) d os
      have HC8 := hid (fun W => cmpSync_any v u W (by omega) (by omega))
      have HCM := hid (cmpI_lt (x := v) (y := u) (by omega) (by omega))
      go_wp2_with fail
      refine wp_region_quiet_below (by kernel_rfl) (by kernel_rfl) ?_
      repeat (first | go_big_quiet_step (first | (go_at_call 124; exact Calls.regrown_of (HC8.out _))) | quiet_step (first | (go_at_call 124; exact Calls.regrown_of (HC8.out _))))
      refine wpQuiet_nil ?_
      intro _ hw'
      obtain ⟨⟨dq, osq⟩, hw2⟩ := hw'
      subst hw2
      have ZR := hid (show RowsL (Sort.grow (redrawn wr dq) osq) b 124 (p ++ (x ++ (v :: s))) from (RowsL.grow ⟨C, hC, hrc⟩ (below_regrown wr dq osq)))
      have ZK := hid (HKP.out.trans ((Keeps.of_below (g := b) (below_regrown wr dq osq)).mono HKP.out.size))
      clear a0 a1 b0 b1 hC hrc
      generalize Sort.grow (redrawn wr dq) osq = W9 at *
      generalize hq : (!decide (cmpI v u < 0)) = q at *
      have HQ := hid hq
      clear hq
      cases q
      · have hvu : v.1 < u.1 := by have := HQ.out; have hcm := HCM.out; simp at this; omega
        go_wp2_with fail
        go_roundw
        case rel => exact ⟨i, h, rfl, rfl, by omega, by omega, by omega, HI.out, Or.inr ⟨u, HU.out, hvu⟩, ZR.out, ZK.out⟩
        case measure => simp [intOf]; omega
      · have hvu : u.1 ≤ v.1 := by have := HQ.out; have hcm := HCM.out; simp at this; omega
        go_wp2_with fail
        go_roundw
        case rel => exact ⟨h + 1, j, by go_num, rfl, by omega, by omega, by omega, Or.inr ⟨u, by rw [show h + 1 - 1 - A = h - A by omega]; exact HU.out, hvu⟩, HJ.out, ZR.out, ZK.out⟩
        case measure => simp [intOf]; omega
    · obtain rfl : i = j := by omega
      obtain ⟨x1, x2, hx1, hx2⟩ : ∃ x1 x2, x1 = x.take (i - A) ∧ x2 = x.drop (i - A) := ⟨_, _, rfl, rfl⟩
      have HST := hid (place_right (v := v) hx hi HAM.out hj HI.out HJ.out)
      have HXX := hid (show x1 ++ x2 = x by rw [hx1, hx2, List.take_append_drop])
      have hxl : x1.length = i - A := by rw [hx1, List.length_take]; have := HAM.out; omega
      have hxl2 : x2.length = M - i := by rw [hx2, List.length_drop]; have := HAM.out; omega
      rw [← hx1, ← hx2] at HST
      rw [← HXX.out] at HRW
      have hnn := hid (show n = p.length + x1.length + x2.length + 1 + s.length by rw [HN.out, ← HXX.out]; simp; omega)
      clear hx1 hx2
      go_wp2_with fail
      go_loopw [17] (fun kv W => ∃ (k : Nat) (Z1 Z2 : List Syn), i ≤ k ∧ k ≤ M ∧ kv = .int .i64 (k : Int) ∧ x2 = Z1 ++ Z2 ∧ Z1.length = k - i ∧ RowsL W b 124 (p ++ (x1 ++ (Z1 ++ v :: (Z2 ++ s)))) ∧ Keeps b w.heap.size w W) (fun kv _ => (intOf kv).toNat)
      case atStart => exact ⟨M, x2, [], by omega, by omega, rfl, by simp, hxl2, by simpa using HRW.out, HKP.out⟩
      case round =>
        obtain ⟨k, Z1, Z2, hik, hkM, rfl, hZZ, hZl, hRW2, hKP2⟩ := hrel
        by_cases hk : i < k
        · rcases List.eq_nil_or_concat Z1 with rfl | ⟨Z1', u, rfl⟩
          · exfalso; simp at hZl; omega
          rw [List.concat_eq_append] at hZZ hZl hRW2
          have hZl' : Z1'.length + 1 = k - i := by simpa using hZl
          obtain ⟨C9, hC9, hr9⟩ := hRW2
          have hs9 := hr9.size
          have hln : (p ++ (x1 ++ ((Z1' ++ [u]) ++ v :: (Z2 ++ s)))).length = n := by
            rw [hnn.out, hZZ]
            simp
            omega
          rw [hln] at hs9
          have hin : k < n := by omega
          have hln := hid hln
          have e0 : (p ++ (x1 ++ ((Z1' ++ [u]) ++ v :: (Z2 ++ s))))[k]? = some v := by
            have := at_mid p (x1 ++ (Z1' ++ [u])) (Z2 ++ s) v k (by simp; omega)
            simpa using this
          have e1 : (p ++ (x1 ++ ((Z1' ++ [u]) ++ v :: (Z2 ++ s))))[k - 1]? = some u := by
            have := at_mid p (x1 ++ Z1') (v :: (Z2 ++ s)) u (k - 1) (by simp; omega)
            simpa using this
          have HR9 := hid hr9
          have E1 := hid e1
          have E0 := hid e0
          have HZZ := hid hZZ
          have HC9 := hid hC9
          have HKP2 := hid hKP2
          clear hZZ hZl hr9 e0 e1 hC9 hKP2
          have hd : decide ((i : Int) < (k : Int)) = true := decide_eq_true (by omega)
          go_wp2_with fail
          refine gen_world (fun V hV => ?_)
          have YC := hid (show V.heap[b]? = some (.cells C9 124) by rw [hV]; exact HC9.out)
          have YK := hid (show Keeps b w.heap.size w V by rw [hV]; exact HKP2.out)
          clear hV
          refine gen_act (fun A0 hA => ?_)
          refine wp_region_by (by kernel_rfl) (by kernel_rfl) [some 113, some 114, some 115, some 116, some 117, some 118, some 119, some 120, some 121, some 122, some 123, some 124, some 125, some 126, some 127, none, some 128, none] rfl (by decide) (TwoT V.drew (V.drew.setRow b (ptL C9 (k * 2) (row2 u))) ((V.drew.setRow b (ptL C9 (k * 2) (row2 u))).setRow b (ptL (ptL C9 (k * 2) (row2 u)) ((k - 1) * 2) (row2 v))) 15 17 [0, 1, 5, 6, 7, 8, 9, 13, 14] [.slice (some ⟨b, 0, none⟩) n c, .int .i64 (k : Int), .slice (some ⟨b, 0, none⟩) n c, .int .i64 (k : Int), .int .i64 ((k : Int) - 1), .slice (some ⟨b, 0, none⟩) n c, .int .i64 (k : Int), .int .i64 ((k : Int) - 1), .pointer (some ⟨b, (k - 1) * 2, none⟩), .agg #[.int .i64 u.2.1, .int .i64 u.2.2], .slice (some ⟨b, 0, none⟩) n c, .int .i64 (k : Int), .pointer (some ⟨b, k * 2, none⟩), .agg #[.int .i64 v.2.1, .int .i64 v.2.2], .pointer (some ⟨b, k * 2, none⟩), undef, .pointer (some ⟨b, (k - 1) * 2, none⟩), undef]) (selfF A0 _) (putF_self A0 _) TwoT.start ?hs1_23_W1 ?hend_23_W1
          case hs1_23_W1 =>
            refine ⟨?_, ?_, ?_, ?_, ?_, ?_, ?_, ?_, ?_, ?_, ?_, ?_, ?_, ?_, ?_, ?_, ?_, ?_, trivial⟩
            · intro K L us W hK0 hL hd hR
              have hK := hid (fun v A' h1 h2 => hK0 v A' W h1 (hR.pure 0 (by decide) (by decide) h2)); clear hK0
              (try simp [Region.binds] at hd)
              clear hd hR
              simp only [putF]
              rw [hA]
              go_frame
              go_wp2_with fail
              exact hK.out _ _ (by rw [hA]; simp only [putF]; kernel_rfl) rfl
            · intro K L us W hK0 hL hd hR
              have hK := hid (fun v A' h1 h2 => hK0 v A' W h1 (hR.pure 1 (by decide) (by decide) h2)); clear hK0
              (try simp [Region.binds] at hd)
              clear hd hR
              simp only [putF]
              rw [hA]
              go_frame
              go_wp2_with fail
              exact hK.out _ _ (by rw [hA]; simp only [putF]; kernel_rfl) rfl
            · intro K L us W hK0 hL hd hR
              have hK := hid (fun v A' h1 h2 => hK0 v A' W h1 (hR.pure 2 (by decide) (by decide) h2)); clear hK0
              (try simp [Region.binds] at hd)
              clear hd hR
              simp only [putF]
              rw [hA]
              go_frame
              go_wp2_with fail
              exact hK.out _ _ (by rw [hA]; simp only [putF]; kernel_rfl) rfl
            · intro K L us W hK0 hL hd hR
              have hK := hid (fun v A' h1 h2 => hK0 v A' W h1 (hR.pure 3 (by decide) (by decide) h2)); clear hK0
              (try simp [Region.binds] at hd)
              clear hd hR
              simp only [putF]
              rw [hA]
              go_frame
              go_wp2_with fail
              exact hK.out _ _ (by rw [hA]; simp only [putF]; kernel_rfl) rfl
            · intro K L us W hK0 hL hd hR
              have hK := hid (fun v A' h1 h2 => hK0 v A' W h1 (hR.pure 4 (by decide) (by decide) h2)); clear hK0
              (try simp [Region.binds] at hd)
              have e3 : us 3 = .int .i64 (k : Int) := hR.vals 3 (by simp [hd]) (by decide) (by decide)
              clear hd hR
              simp only [putF]
              rw [hA, e3]
              go_frame
              go_wp2_with fail
              exact hK.out _ _ (by rw [hA]; simp only [putF]; rw [e3]; kernel_rfl) rfl
            · intro K L us W hK0 hL hd hR
              have hK := hid (fun v A' h1 h2 => hK0 v A' W h1 (hR.pure 5 (by decide) (by decide) h2)); clear hK0
              (try simp [Region.binds] at hd)
              clear hd hR
              simp only [putF]
              rw [hA]
              go_frame
              go_wp2_with fail
              exact hK.out _ _ (by rw [hA]; simp only [putF]; kernel_rfl) rfl
            · intro K L us W hK0 hL hd hR
              have hK := hid (fun v A' h1 h2 => hK0 v A' W h1 (hR.pure 6 (by decide) (by decide) h2)); clear hK0
              (try simp [Region.binds] at hd)
              clear hd hR
              simp only [putF]
              rw [hA]
              go_frame
              go_wp2_with fail
              exact hK.out _ _ (by rw [hA]; simp only [putF]; kernel_rfl) rfl
            · intro K L us W hK0 hL hd hR
              have hK := hid (fun v A' h1 h2 => hK0 v A' W h1 (hR.pure 7 (by decide) (by decide) h2)); clear hK0
              (try simp [Region.binds] at hd)
              have e6 : us 6 = .int .i64 (k : Int) := hR.vals 6 (by simp [hd]) (by decide) (by decide)
              clear hd hR
              simp only [putF]
              rw [hA, e6]
              go_frame
              go_wp2_with fail
              exact hK.out _ _ (by rw [hA]; simp only [putF]; rw [e6]; kernel_rfl) rfl
            · intro K L us W hK0 hL hd hR
              have hK := hid (fun v A' h1 h2 => hK0 v A' W h1 (hR.pure 8 (by decide) (by decide) h2)); clear hK0
              (try simp [Region.binds] at hd)
              have e5 : us 5 = .slice (some ⟨b, 0, none⟩) n c := hR.vals 5 (by simp [hd]) (by decide) (by decide)
              have e7 : us 7 = .int .i64 ((k : Int) - 1) := hR.vals 7 (by simp [hd]) (by decide) (by decide)
              clear hd hR
              simp only [putF]
              rw [hA, e5, e7]
              go_frame
              go_wp2_with fail
              exact hK.out _ _ (by rw [hA]; simp only [putF]; rw [e5, e7]; kernel_rfl) rfl
            · intro K L us W hK0 hL hd hR
              have hK := hid (fun v A' h1 h2 => hK0 v A' W h1 (hR.pure 9 (by decide) (by decide) h2)); clear hK0
              (try simp [Region.binds] at hd)
              have e8 : us 8 = .pointer (some ⟨b, (k - 1) * 2, none⟩) := hR.vals 8 (by simp [hd]) (by decide) (by decide)
              have hW := hR.at0 (k := 9) (by decide) hL
              clear hd hR
              subst hW
              have c0 : V.drew.cell? ⟨b, (k - 1) * 2, none⟩ = some (.int .i64 u.2.1) := (cell_row YC.out).trans (HR9.out.at0 _ _ E1.out)
              have c1 : V.drew.cell? ⟨b, (k - 1) * 2 + 1, none⟩ = some (.int .i64 u.2.2) := (cell_row YC.out).trans (HR9.out.at1 _ _ E1.out)
              simp only [putF]
              rw [hA, e8]
              go_frame
              go_wp2_with fail
              exact hK.out _ _ (by rw [hA]; simp only [putF]; rw [e8]; kernel_rfl) rfl
            · intro K L us W hK0 hL hd hR
              have hK := hid (fun v A' h1 h2 => hK0 v A' W h1 (hR.pure 10 (by decide) (by decide) h2)); clear hK0
              (try simp [Region.binds] at hd)
              clear hd hR
              simp only [putF]
              rw [hA]
              go_frame
              go_wp2_with fail
              exact hK.out _ _ (by rw [hA]; simp only [putF]; kernel_rfl) rfl
            · intro K L us W hK0 hL hd hR
              have hK := hid (fun v A' h1 h2 => hK0 v A' W h1 (hR.pure 11 (by decide) (by decide) h2)); clear hK0
              (try simp [Region.binds] at hd)
              clear hd hR
              simp only [putF]
              rw [hA]
              go_frame
              go_wp2_with fail
              exact hK.out _ _ (by rw [hA]; simp only [putF]; kernel_rfl) rfl
            · intro K L us W hK0 hL hd hR
              have hK := hid (fun v A' h1 h2 => hK0 v A' W h1 (hR.pure 12 (by decide) (by decide) h2)); clear hK0
              (try simp [Region.binds] at hd)
              have e10 : us 10 = .slice (some ⟨b, 0, none⟩) n c := hR.vals 10 (by simp [hd]) (by decide) (by decide)
              have e11 : us 11 = .int .i64 (k : Int) := hR.vals 11 (by simp [hd]) (by decide) (by decide)
              clear hd hR
              simp only [putF]
              rw [hA, e10, e11]
              go_frame
              go_wp2_with fail
              exact hK.out _ _ (by rw [hA]; simp only [putF]; rw [e10, e11]; kernel_rfl) rfl
            · intro K L us W hK0 hL hd hR
              have hK := hid (fun v A' h1 h2 => hK0 v A' W h1 (hR.pure 13 (by decide) (by decide) h2)); clear hK0
              (try simp [Region.binds] at hd)
              have e12 : us 12 = .pointer (some ⟨b, k * 2, none⟩) := hR.vals 12 (by simp [hd]) (by decide) (by decide)
              have hW := hR.at0 (k := 13) (by decide) hL
              clear hd hR
              subst hW
              have c0 : V.drew.cell? ⟨b, k * 2, none⟩ = some (.int .i64 v.2.1) := (cell_row YC.out).trans (HR9.out.at0 _ _ E0.out)
              have c1 : V.drew.cell? ⟨b, k * 2 + 1, none⟩ = some (.int .i64 v.2.2) := (cell_row YC.out).trans (HR9.out.at1 _ _ E0.out)
              simp only [putF]
              rw [hA, e12]
              go_frame
              go_wp2_with fail
              exact hK.out _ _ (by rw [hA]; simp only [putF]; rw [e12]; kernel_rfl) rfl
            · intro K L us W hK0 hL hd hR
              have hK := hid (fun v A' h1 h2 => hK0 v A' W h1 (hR.pure 14 (by decide) (by decide) h2)); clear hK0
              (try simp [Region.binds] at hd)
              have e0 : us 0 = .slice (some ⟨b, 0, none⟩) n c := hR.vals 0 (by simp [hd]) (by decide) (by decide)
              have e1 : us 1 = .int .i64 (k : Int) := hR.vals 1 (by simp [hd]) (by decide) (by decide)
              clear hd hR
              simp only [putF]
              rw [hA, e0, e1]
              go_frame
              go_wp2_with fail
              exact hK.out _ _ (by rw [hA]; simp only [putF]; rw [e0, e1]; kernel_rfl) rfl
            · intro K L us W hK0 hL hd hR
              simp [Region.binds] at hd
              have e14 : us 14 = .pointer (some ⟨b, k * 2, none⟩) := hR.vals 14 (by simp [hd]) (by decide) (by decide)
              have e9 : us 9 = .agg #[.int .i64 u.2.1, .int .i64 u.2.2] := hR.vals 9 (by simp [hd]) (by decide) (by decide)
              have hp : ∀ j ∈ [0, 1, 5, 6, 7, 8, 9, 13, 14], L j = true := by
                intro j hj
                simp only [List.mem_cons, List.not_mem_nil, or_false] at hj
                rcases hj with rfl | rfl | rfl | rfl | rfl | rfl | rfl | rfl | rfl
                all_goals (simp [hd])
              have hW := (hR.fst (v := undef) hL hp (by decide)).1
              have hK := hid (fun A' h1 => hK0 undef A' _ h1 (hR.fst hL hp (by decide)).2); clear hK0 hp
              clear hd hR
              subst hW
              simp only [putF]
              rw [hA, e14, e9]
              go_frame
              go_wp2_with (refine pt_store rfl 124 (.tmp 127) (.tmp 122) rfl b (k * 2) _ rfl rfl (show V.drew.heap[b]? = _ from YC.out) size124s rfl (by show k * 2 + 2 ≤ C9.size; omega) rfl ?_)
              exact hK.out _ (by rw [hA]; simp only [putF]; rw [e14, e9]; kernel_rfl)
            · intro K L us W hK0 hL hd hR
              have hK := hid (fun v A' h1 h2 => hK0 v A' W h1 (hR.pure 16 (by decide) (by decide) h2)); clear hK0
              (try simp [Region.binds] at hd)
              have e2 : us 2 = .slice (some ⟨b, 0, none⟩) n c := hR.vals 2 (by simp [hd]) (by decide) (by decide)
              have e4 : us 4 = .int .i64 ((k : Int) - 1) := hR.vals 4 (by simp [hd]) (by decide) (by decide)
              clear hd hR
              simp only [putF]
              rw [hA, e2, e4]
              go_frame
              go_wp2_with fail
              exact hK.out _ _ (by rw [hA]; simp only [putF]; rw [e2, e4]; kernel_rfl) rfl
            · intro K L us W hK0 hL hd hR
              simp [Region.binds] at hd
              have e16 : us 16 = .pointer (some ⟨b, (k - 1) * 2, none⟩) := hR.vals 16 (by simp [hd]) (by decide) (by decide)
              have e13 : us 13 = .agg #[.int .i64 v.2.1, .int .i64 v.2.2] := hR.vals 13 (by simp [hd]) (by decide) (by decide)
              have h5 : L 15 = true := by simp [hd]
              have hW := (hR.snd (v := undef) h5 hL).1
              have hK := hid (fun A' h1 => hK0 undef A' _ h1 (hR.snd h5 hL).2); clear hK0
              clear hd hR
              subst hW
              simp only [putF]
              rw [hA, e16, e13]
              go_frame
              go_wp2_with (refine pt_store rfl 124 (.tmp 128) (.tmp 126) rfl b ((k - 1) * 2) _ rfl rfl (setRow_heap _ _ _ _ _ _ (show V.drew.heap[b]? = _ from YC.out)) size124s rfl (by show (k - 1) * 2 + 2 ≤ (ptL C9 (k * 2) _).size; rw [ptL_size]; omega) rfl ?_)
              exact hK.out _ (by rw [hA]; simp only [putF]; rw [e16, e13]; kernel_rfl)
          intro L us W1 hL hR
          have hW : W1 = (V.drew.setRow b (ptL C9 (k * 2) (row2 u))).setRow b (ptL (ptL C9 (k * 2) (row2 u)) ((k - 1) * 2) (row2 v)) := by have := hR.wld; rw [hL 17 (by decide)] at this; exact this
          clear hR hL
          simp only [putF]
          rw [hA]
          clear hA
          go_frame
          subst hW
          have ZS : RowsL ((V.drew.setRow b (ptL C9 (k * 2) (row2 u))).setRow b (ptL (ptL C9 (k * 2) (row2 u)) ((k - 1) * 2) (row2 v))) b 124 (p ++ (x1 ++ (Z1' ++ v :: ((u :: Z2) ++ s)))) := by
            refine ⟨_, setRow_heap _ _ _ _ _ _ (setRow_heap _ _ _ _ _ _ (show V.drew.heap[b]? = _ from YC.out)), ?_⟩
            have g := (HR9.out.set (i := k) (by have := hln.out; omega) u).set (i := k - 1) (by rw [List.length_set]; have := hln.out; omega) v
            have q := two_set (p ++ (x1 ++ Z1')) (Z2 ++ s) u v
            rw [show (p ++ (x1 ++ Z1')).length = k - 1 by simp; omega, show k - 1 + 1 = k by omega] at q
            rw [show p ++ (x1 ++ ((Z1' ++ [u]) ++ v :: (Z2 ++ s))) = (p ++ (x1 ++ Z1')) ++ u :: v :: (Z2 ++ s) by simp, q] at g
            simpa using g
          have ZT := ((YK.out.drew).setRow (ptL C9 (k * 2) (row2 u))).setRow (ptL (ptL C9 (k * 2) (row2 u)) ((k - 1) * 2) (row2 v))
          go_wp2_with fail
          go_roundw
          case rel => exact ⟨k - 1, Z1', u :: Z2, by omega, by omega, by congr 1; omega, by rw [HZZ.out]; simp, by omega, ZS, ZT⟩
          case measure => simp [intOf]; omega
        · have hd : decide ((i : Int) < (k : Int)) = false := decide_eq_false (by omega)
          have hZ1 : Z1 = [] := List.eq_nil_of_length_eq_zero (by omega)
          subst hZ1
          have HRW2 := hid hRW2
          have HZZ := hid hZZ
          clear hRW2 hZZ
          go_wp2_with fail
          (try simp only [Exit.inBlock, Exit.then]); refine bodyPost_ret (results_none rfl _ _ _) rfl ?_
          refine ⟨rfl, ⟨_, HST.out, ?_⟩, hKP2⟩
          have e := HZZ.out
          rw [List.nil_append] at e
          rw [e]
          simpa using HRW2.out
end Go.Proofs.Yteoikaedpgianaa
