/- The points that the program's reader reads. (Printed by wip/gen_decx.py.) -/
import Derived.Test.YteanlcefdoigcaaDecM
namespace Go.Proofs.Yteanlcefdoigcaa
open Go.RowKit

theorem wide9d (p0 p1 p2 p3 p4 p5 p6 p7 p8 : Int) : Wide 9 [[Value.int .i64 p0, .int .i64 p1, .int .i64 p2, .int .i64 p3, .int .i64 p4, .int .i64 p5, .int .i64 p6, .int .i64 p7, .int .i64 p8]] := Wide.one rfl (Pt.row_one ⟨p0, p1, p2, p3, p4, p5, p6, p7, p8⟩)
theorem RdAt.kept {w w' : World} {rb ty b : Nat} {s : St} {row : Option Nat} (h : RdAt w rb ty b s) (hg : w.grownBy w' row) (h1 : some rb ≠ row) (h2 : some b ≠ row) : RdAt w' rb ty b s :=
  h.same (hg.block rb h.rb_lt h1) (hg.block b h.b_lt h2) hg.size
theorem Only.kept {rb B : Nat} {w W W' : World} {row : Option Nat} (h : Only rb B w W) (hg : W.grownBy W' row) (hB : B ≤ W.heap.size) (hr : ∀ k, row = some k → B ≤ k) : Only rb B w W' :=
  h.trans (Only.of_below (B := B) ((Below.refl B W).grown hg hB hr)) (Nat.le_refl _)
set_option maxRecDepth 100000 in
set_option maxHeartbeats 12800000 in
theorem points_any (rb b : Nat) (s : St) (w : World) (h : RdAt w rb 118 b s) :
    Calls Try.prog 85 #[.pointer (some ⟨rb, 0, none⟩)] w fun r w' => (∃ v, r = .returned v ∧ OwnP w' w.heap.size v (pointsX s).1 ∧ (pointsX s).1.length ≤ 1024) ∧ RdAt w' rb 118 b (pointsX s).2 ∧ Only rb w.heap.size w w' := by
  have hrb := h.rb_lt
  have hbl := h.b_lt
  have hne := h.apart
  obtain ⟨i0, hi, hz0, hz1, hz2⟩ := info_parts info36
  have HI := hid hi
  have HZ0 := hid hz0
  have HZ1 := hid hz1
  have HZ2 := hid hz2
  have HR := hid (number_any rb b s w h)
  have HPX := hid (show pointsX s = ptsX (nextS false s).1.toNat 0 (if 1024 < (nextS false s).1 then (nextS false s).2.mark else (nextS false s).2) from rfl)
  rw [HPX.out]
  have hv := nextU_range s
  clear h hi hz0 hz1 hz2 HPX
  rcases hns : nextS false s with ⟨n, s1⟩
  rw [hns] at HR hv
  simp only at hv HR ⊢
  obtain ⟨N, rfl⟩ : ∃ N : Nat, n = N := ⟨n.toNat, by omega⟩
  rw [Int.toNat_natCast]
  clear hns
  by_cases hN : 1024 < (N : Int)
  · have d0 : decide ((1024 : Int) < (N : Int)) = true := decide_eq_true hN
    have HD := hid (show (if (1024 : Int) < (N : Int) then s1.mark else s1) = s1.mark from if_pos hN)
    rw [HD.out, ptsX_bad _ _ _ rfl]
    have HN := hid hN
    clear hN
    go_enter Try.func85, Try.ntmps85
    go_wp2_with fail
    refine HR.out.mono ?_
    rintro r w1 ⟨rfl, hrd, hol⟩
    have R1 := hid hrd
    have O1 := hid hol
    have f1 := hrd.flag.1
    have f2 := hrd.flag.2
    have hz1 := hol.size
    clear hrd hol
    go_wp2_with fail
    have RM := hid R1.out.mark
    have OM := hid (only_setCell (j := 1) O1.out (.bool true))
    have g1 := RM.out.flag.1
    generalize w1.setCell ⟨rb, 1, none⟩ (.bool true) = W at *
    have d1 : decide ((0 : Int) < (N : Int)) = true := decide_eq_true (by have := HN.out; omega)
    refine wp_loop_rounds 1 ?_
    rw [rounds_succ]
    go_wp2_with fail
    all_goals (go_ret; exact ⟨⟨_, rfl, OwnR.nil _ _ _ _, by simp⟩, RM.out, OM.out⟩)
  · have d0 : decide ((1024 : Int) < (N : Int)) = false := decide_eq_false hN
    have HD := hid (show (if (1024 : Int) < (N : Int) then s1.mark else s1) = s1 from if_neg hN)
    rw [HD.out]
    have hNN : N ≤ 1024 := by omega
    clear hN
    go_enter Try.func85, Try.ntmps85
    go_wp2_with fail
    refine HR.out.mono ?_
    rintro r w1 ⟨rfl, hrd, hol⟩
    have R1 := hid hrd
    have O1 := hid hol
    have hz1 := hol.size
    clear hrd hol
    go_wp2_with fail
    go_loopw [4, 5, 6] (fun ov' lv iv W => ∃ (i : Nat) (A : List Pt) (l : Int) (s2 : St) (oa : Option Addr) (on oc : Nat), ov' = .slice oa on oc ∧ i ≤ N ∧ A.length = i ∧ iv = .int .i64 (i : Int) ∧ lv = .int .i64 l ∧ OwnP W w.heap.size (.slice oa on oc) A ∧ RdAt W rb 118 b s2 ∧ Only rb w.heap.size w W ∧ (s2.bad = false → 0 ≤ l ∧ l ≤ 1152921504606846976) ∧ ptsX N 0 s1 = (A ++ (ptsX (N - i) l s2).1, (ptsX (N - i) l s2).2)) (fun _ _ iv _ => N - (intOf iv).toNat)
    case atStart => exact ⟨0, [], 0, s1, none, 0, 0, rfl, by omega, rfl, rfl, rfl, OwnR.nil _ _ _ _, R1.out, O1.out, fun _ => ⟨Int.le_refl _, by decide⟩, rfl⟩
    case round =>
      obtain ⟨i, A, l, s2, oa, on, oc, rfl, hi, hA, rfl, rfl, hown, hrd, hol, hl, he⟩ := hrel
      have HA := hid hA
      have HO := hid hown
      have R2 := hid hrd
      have O2 := hid hol
      have HL := hid hl
      have HE := hid he
      have hz2 := hol.size
      have fb := hrd.flag.1
      clear hA hown hrd hol hl he
      by_cases hlt : i < N
      · have d1 : decide ((i : Int) < (N : Int)) = true := decide_eq_true (by omega)
        cases hbad : s2.bad
        · rw [hbad] at fb
          have hl := HL.out hbad
          have HBD := hid hbad
          clear hbad HL
          rcases e0 : nextS false s2 with ⟨v0, t1⟩
          rcases e1 : nextS true t1 with ⟨v1, t2⟩
          rcases e2 : nextS true t2 with ⟨v2, t3⟩
          rcases e3 : nextS true t3 with ⟨v3, t4⟩
          rcases e4 : nextS false t4 with ⟨v4, t5⟩
          rcases e5 : nextS false t5 with ⟨v5, t6⟩
          rcases e6 : nextS false t6 with ⟨v6, t7⟩
          rcases e7 : nextS false t7 with ⟨v7, t8⟩
          rcases e8 : nextS false t8 with ⟨v8, t9⟩
          have HPT := hid (show ptX l s2 = (⟨l + v0, v1, v2, v3, v3 + v4, v5, v6, v7, v8⟩, if 1152921504606846976 < l + v0 then t9.mark else t9) by
            unfold ptX
            simp only [e0, e1, e2, e3, e4, e5, e6, e7, e8])
          have q0 := nextU_range s2
          have q3 := nextI_range t3
          have q4 := nextU_range t4
          rw [e0] at q0
          rw [e3] at q3
          rw [e4] at q4
          simp only at q0 q3 q4
          have E0 := hid e0
          have E1 := hid e1
          have E2 := hid e2
          have E3 := hid e3
          have E4 := hid e4
          have E5 := hid e5
          have E6 := hid e6
          have E7 := hid e7
          have E8 := hid e8
          clear e0 e1 e2 e3 e4 e5 e6 e7 e8
          go_wp2_with fail
          refine (number_at _ E0.out R2.out).mono ?_
          rintro r w2 ⟨rfl, hrd, hol⟩
          have R3 := hid hrd
          have O3 := hid hol
          have hz3 := hol.size
          clear hrd hol fb
          go_wp2_with fail
          obtain ⟨pb, hpb⟩ : ∃ pb, pb = w2.heap.size := ⟨_, rfl⟩
          rw [← hpb]
          have F3 := hid (heap_alloc_at w2 (.cells #[.int .i64 (l + v0), .int .i64 0, .int .i64 0, .int .i64 0, .int .i64 0, .int .i64 0, .int .i64 0, .int .i64 0, .int .i64 0] 36) pb hpb)
          have R4 := hid (R3.out.alloc (.cells #[.int .i64 (l + v0), .int .i64 0, .int .i64 0, .int .i64 0, .int .i64 0, .int .i64 0, .int .i64 0, .int .i64 0, .int .i64 0] 36))
          have O4 := hid (O3.out.alloc O3.out.size (.cells #[.int .i64 (l + v0), .int .i64 0, .int .i64 0, .int .i64 0, .int .i64 0, .int .i64 0, .int .i64 0, .int .i64 0, .int .i64 0] 36))
          have hz4 : (w2.alloc (.cells #[.int .i64 (l + v0), .int .i64 0, .int .i64 0, .int .i64 0, .int .i64 0, .int .i64 0, .int .i64 0, .int .i64 0, .int .i64 0] 36)).heap.size = pb + 1 := by simp [hpb]
          have hpw : wr.heap.size ≤ pb := by omega
          clear hpb R3 O3
          generalize w2.alloc (.cells #[.int .i64 (l + v0), .int .i64 0, .int .i64 0, .int .i64 0, .int .i64 0, .int .i64 0, .int .i64 0, .int .i64 0, .int .i64 0] 36) = W3 at *
          refine (signed_at _ E1.out R4.out).mono ?_
          rintro r w5 ⟨rfl, hrd, hol⟩
          have R5 := hid hrd
          have F5 := hid (show w5.heap[pb]? = some (.cells #[.int .i64 (l + v0), .int .i64 0, .int .i64 0, .int .i64 0, .int .i64 0, .int .i64 0, .int .i64 0, .int .i64 0, .int .i64 0] 36) from hol.heap (by omega) F3.out)
          have O5 := hid (O4.out.trans hol (by first | omega | (simp; omega)))
          have hz5 : pb < w5.heap.size := (Array.getElem?_eq_some_iff.1 F5.out).1
          have c5 : w5.cell? ⟨pb, 1, none⟩ = some (.int .i64 0) := (cell_row (j := 1) F5.out).trans rfl
          have f5 : w5.frozen? ⟨pb, 1, none⟩ = false := by have hh := F5.out; simp [World.frozen?, hh]
          clear hrd hol
          go_wp2_with fail
          refine (signed_at _ E2.out (R5.out.set (by omega) (by omega) _)).mono ?_
          rintro r w6 ⟨rfl, hrd, hol⟩
          have R6 := hid hrd
          have F6 := hid (show w6.heap[pb]? = some (.cells #[.int .i64 (l + v0), .int .i64 v1, .int .i64 0, .int .i64 0, .int .i64 0, .int .i64 0, .int .i64 0, .int .i64 0, .int .i64 0] 36) from hol.heap (by omega) (heap_setCell F5.out _))
          have O6 := hid ((O5.out.set (by omega) _).trans hol (by first | omega | (simp; omega)))
          have hz6 : pb < w6.heap.size := (Array.getElem?_eq_some_iff.1 F6.out).1
          have c6 : w6.cell? ⟨pb, 2, none⟩ = some (.int .i64 0) := (cell_row (j := 2) F6.out).trans rfl
          have f6 : w6.frozen? ⟨pb, 2, none⟩ = false := by have hh := F6.out; simp [World.frozen?, hh]
          clear hrd hol
          go_wp2_with fail
          refine (signed_at _ E3.out (R6.out.set (by omega) (by omega) _)).mono ?_
          rintro r w7 ⟨rfl, hrd, hol⟩
          have R7 := hid hrd
          have F7 := hid (show w7.heap[pb]? = some (.cells #[.int .i64 (l + v0), .int .i64 v1, .int .i64 v2, .int .i64 0, .int .i64 0, .int .i64 0, .int .i64 0, .int .i64 0, .int .i64 0] 36) from hol.heap (by omega) (heap_setCell F6.out _))
          have O7 := hid ((O6.out.set (by omega) _).trans hol (by first | omega | (simp; omega)))
          have hz7 : pb < w7.heap.size := (Array.getElem?_eq_some_iff.1 F7.out).1
          have c7 : w7.cell? ⟨pb, 3, none⟩ = some (.int .i64 0) := (cell_row (j := 3) F7.out).trans rfl
          have f7 : w7.frozen? ⟨pb, 3, none⟩ = false := by have hh := F7.out; simp [World.frozen?, hh]
          clear hrd hol
          go_wp2_with fail
          have R20 := hid (show RdAt (w7.setCell ⟨pb, 3, none⟩ (.int .i64 v3)) rb 118 b t4 from (R7.out.set (by omega) (by omega) _))
          have F20 := hid (show (w7.setCell ⟨pb, 3, none⟩ (.int .i64 v3)).heap[pb]? = some (.cells #[.int .i64 (l + v0), .int .i64 v1, .int .i64 v2, .int .i64 v3, .int .i64 0, .int .i64 0, .int .i64 0, .int .i64 0, .int .i64 0] 36) from (heap_setCell F7.out _))
          have O20 := hid (show Only rb wr.heap.size wr (w7.setCell ⟨pb, 3, none⟩ (.int .i64 v3)) from (O7.out.set (by omega) _))
          clear c5 f5 c6 f6 c7 f7
          refine gen_world (fun W20 hW20 => ?_)
          rw [← hW20] at R20 F20 O20
          clear hW20
          refine gen_act (fun A0 hA => ?_)
          refine wp_region_by (by kernel_rfl) (by kernel_rfl) [some 42, some 43, some 44, some 45, some 46, some 47, some 48, some 49, none] rfl (by decide) (AddR wr rb b pb wr.heap.size t4 t5 [.pointer (some ⟨pb, 3, none⟩), .pointer (some ⟨pb, 3, none⟩), .int .i64 v3, .pointer (some ⟨rb, 0, none⟩), .int .i64 v4, .int .i64 (v3 + v4), .pointer (some ⟨pb, 3, none⟩), .pointer (some ⟨pb, 4, none⟩)] #[.int .i64 (l + v0), .int .i64 v1, .int .i64 v2, .int .i64 v3, .int .i64 0, .int .i64 0, .int .i64 0, .int .i64 0, .int .i64 0] #[.int .i64 (l + v0), .int .i64 v1, .int .i64 v2, .int .i64 v3, .int .i64 (v3 + v4), .int .i64 0, .int .i64 0, .int .i64 0, .int .i64 0]) (selfF A0 _) (putF_self A0 _)
            ⟨O20.out.trans (Only.of_below ((Below.refl W20.heap.size W20).drew)) (by have := O20.out.size; omega), fun _ _ h => (Bool.false_ne_true h).elim, R20.out.grow ((Below.refl _ _).drew), heap_still ((Below.refl _ _).drew) F20.out⟩ ?hsA ?hendA
          case hsA =>
            refine ⟨?_, ?_, ?_, ?_, ?_, ?_, ?_, ?_, ?_, trivial⟩
            · intro K L us W hK0 hL hd hR
              clear hd
              have hK := hid (fun v A' h1 h2 => hK0 v A' W h1 (hR.pure (by decide) (by decide) h2)); clear hK0
              simp only [putF]
              rw [hA]
              go_frame
              go_wp2_with fail
              exact hK.out _ _ (by rw [hA]; simp only [putF]; kernel_rfl) rfl
            · intro K L us W hK0 hL hd hR
              simp [Region.binds] at hd
              have e0 : us 0 = .pointer (some ⟨pb, 3, none⟩) := hR.vals 0 (by decide) (by simp [hd])
              clear hd
              have hK := hid (fun v A' h1 h2 => hK0 v A' W h1 (hR.pure (by decide) (by decide) h2)); clear hK0
              simp only [putF]
              rw [hA, e0]
              go_frame
              go_wp2_with fail
              exact hK.out _ _ (by rw [hA]; simp only [putF]; rw [e0]; kernel_rfl) rfl
            · intro K L us W hK0 hL hd hR
              simp [Region.binds] at hd
              have e1 : us 1 = .pointer (some ⟨pb, 3, none⟩) := hR.vals 1 (by decide) (by simp [hd])
              clear hd
              have c0 : W.cell? ⟨pb, 3, none⟩ = some (.int .i64 v3) := (cell_row (j := 3) hR.row).trans (by split <;> rfl)
              have hK := hid (fun v A' h1 h2 => hK0 v A' W h1 (hR.pure (by decide) (by decide) h2)); clear hK0
              simp only [putF]
              rw [hA, e1]
              go_frame
              go_wp2_with fail
              exact hK.out _ _ (by rw [hA]; simp only [putF]; rw [e1]; kernel_rfl) rfl
            · intro K L us W hK0 hL hd hR
              clear hd
              have hK := hid (fun v A' h1 h2 => hK0 v A' W h1 (hR.pure (by decide) (by decide) h2)); clear hK0
              simp only [putF]
              rw [hA]
              go_frame
              go_wp2_with fail
              exact hK.out _ _ (by rw [hA]; simp only [putF]; kernel_rfl) rfl
            · intro K L us W hK0 hL hd hR
              simp [Region.binds] at hd
              have e3 : us 3 = .pointer (some ⟨rb, 0, none⟩) := hR.vals 3 (by decide) (by simp [hd])
              clear hd
              have HRD := hid (show RdAt W rb 118 b t4 by simpa [hL] using hR.rd)
              have hzW := hR.only.size
              have hK := hid (fun A' W' h1 h2 h3 => hK0 (.int .i64 v4) A' W' h1 (hR.call (by omega) hzW rfl h2 h3)); clear hK0
              simp only [putF]
              rw [hA, e3]
              go_frame
              go_wp2_with fail
              refine (number_at W E4.out HRD.out).mono ?_
              rintro r W' ⟨rfl, hrd, hol⟩
              have HRD2 := hid hrd
              have HOL2 := hid hol
              clear hrd hol
              go_wp2_with fail
              exact hK.out _ _ (by rw [hA]; simp only [putF]; rw [e3]; kernel_rfl) HRD2.out HOL2.out
            · intro K L us W hK0 hL hd hR
              simp [Region.binds] at hd
              have e2 : us 2 = .int .i64 v3 := hR.vals 2 (by decide) (by simp [hd])
              have e4 : us 4 = .int .i64 v4 := hR.vals 4 (by decide) (by simp [hd])
              clear hd
              have hK := hid (fun v A' h1 h2 => hK0 v A' W h1 (hR.pure (by decide) (by decide) h2)); clear hK0
              simp only [putF]
              rw [hA, e2, e4]
              go_frame
              go_wp2_with fail
              exact hK.out _ _ (by rw [hA]; simp only [putF]; rw [e2]; rw [e4]; kernel_rfl) rfl
            · intro K L us W hK0 hL hd hR
              clear hd
              have hK := hid (fun v A' h1 h2 => hK0 v A' W h1 (hR.pure (by decide) (by decide) h2)); clear hK0
              simp only [putF]
              rw [hA]
              go_frame
              go_wp2_with fail
              exact hK.out _ _ (by rw [hA]; simp only [putF]; kernel_rfl) rfl
            · intro K L us W hK0 hL hd hR
              simp [Region.binds] at hd
              have e6 : us 6 = .pointer (some ⟨pb, 3, none⟩) := hR.vals 6 (by decide) (by simp [hd])
              clear hd
              have hK := hid (fun v A' h1 h2 => hK0 v A' W h1 (hR.pure (by decide) (by decide) h2)); clear hK0
              simp only [putF]
              rw [hA, e6]
              go_frame
              go_wp2_with fail
              exact hK.out _ _ (by rw [hA]; simp only [putF]; rw [e6]; kernel_rfl) rfl
            · intro K L us W hK0 hL hd hR
              simp [Region.binds] at hd
              have e5 : us 5 = .int .i64 (v3 + v4) := hR.vals 5 (by decide) (by simp [hd])
              have e7 : us 7 = .pointer (some ⟨pb, 4, none⟩) := hR.vals 7 (by decide) (by simp [hd])
              clear hd
              have hrw := hR.row
              rw [hL, if_neg Bool.false_ne_true] at hrw
              have c0 : W.cell? ⟨pb, 4, none⟩ = some (.int .i64 0) := (cell_row (j := 4) hrw).trans rfl
              have f0 : W.frozen? ⟨pb, 4, none⟩ = false := by simp [World.frozen?, hrw]
              have hK := hid (fun v A' h1 => hK0 v A' (W.setCell ⟨pb, 4, none⟩ (.int .i64 (v3 + v4))) h1 (hR.store (by omega) (by omega) hpw hL rfl)); clear hK0 hrw
              simp only [putF]
              rw [hA, e5, e7]
              go_frame
              go_wp2_with fail
              exact hK.out undef _ (by rw [hA]; simp only [putF]; rw [e5]; rw [e7]; kernel_rfl)
          case hendA =>
          intro L us W21 hL hR
          have u0 : us 0 = .pointer (some ⟨pb, 3, none⟩) := hR.vals 0 (by decide) (hL 0 (by decide))
          have u1 : us 1 = .pointer (some ⟨pb, 3, none⟩) := hR.vals 1 (by decide) (hL 1 (by decide))
          have u2 : us 2 = .int .i64 v3 := hR.vals 2 (by decide) (hL 2 (by decide))
          have u3 : us 3 = .pointer (some ⟨rb, 0, none⟩) := hR.vals 3 (by decide) (hL 3 (by decide))
          have u4 : us 4 = .int .i64 v4 := hR.vals 4 (by decide) (hL 4 (by decide))
          have u5 : us 5 = .int .i64 (v3 + v4) := hR.vals 5 (by decide) (hL 5 (by decide))
          have u6 : us 6 = .pointer (some ⟨pb, 3, none⟩) := hR.vals 6 (by decide) (hL 6 (by decide))
          have u7 : us 7 = .pointer (some ⟨pb, 4, none⟩) := hR.vals 7 (by decide) (hL 7 (by decide))
          have R21 := hid (show RdAt W21 rb 118 b t5 by have h := hR.rd; rw [hL 4 (by decide), if_pos rfl] at h; exact h)
          have F21 := hid (show W21.heap[pb]? = some (.cells #[.int .i64 (l + v0), .int .i64 v1, .int .i64 v2, .int .i64 v3, .int .i64 (v3 + v4), .int .i64 0, .int .i64 0, .int .i64 0, .int .i64 0] 36) by have h := hR.row; rw [hL 8 (by decide), if_pos rfl] at h; exact h)
          have O21 := hid hR.only
          clear hL hR
          simp only [putF]
          rw [hA, u0, u1, u2, u3, u4, u5, u6, u7]
          clear u0 u1 u2 u3 u4 u5 u6 u7
          have hz21 : pb < W21.heap.size := (Array.getElem?_eq_some_iff.1 F21.out).1
          go_frame
          go_wp2_with fail
          refine (number_at _ E5.out R21.out).mono ?_
          rintro r w22 ⟨rfl, hrd, hol⟩
          have R22 := hid hrd
          have F22 := hid (show w22.heap[pb]? = some (.cells #[.int .i64 (l + v0), .int .i64 v1, .int .i64 v2, .int .i64 v3, .int .i64 (v3 + v4), .int .i64 0, .int .i64 0, .int .i64 0, .int .i64 0] 36) from hol.heap (by omega) F21.out)
          have O22 := hid (O21.out.trans hol (by first | omega | (simp; omega)))
          have hz22 : pb < w22.heap.size := (Array.getElem?_eq_some_iff.1 F22.out).1
          have c22 : w22.cell? ⟨pb, 5, none⟩ = some (.int .i64 0) := (cell_row (j := 5) F22.out).trans rfl
          have f22 : w22.frozen? ⟨pb, 5, none⟩ = false := by have hh := F22.out; simp [World.frozen?, hh]
          clear hrd hol
          go_wp2_with fail
          refine (number_at _ E6.out (R22.out.set (by omega) (by omega) _)).mono ?_
          rintro r w23 ⟨rfl, hrd, hol⟩
          have R23 := hid hrd
          have F23 := hid (show w23.heap[pb]? = some (.cells #[.int .i64 (l + v0), .int .i64 v1, .int .i64 v2, .int .i64 v3, .int .i64 (v3 + v4), .int .i64 v5, .int .i64 0, .int .i64 0, .int .i64 0] 36) from hol.heap (by omega) (heap_setCell F22.out _))
          have O23 := hid ((O22.out.set (by omega) _).trans hol (by first | omega | (simp; omega)))
          have hz23 : pb < w23.heap.size := (Array.getElem?_eq_some_iff.1 F23.out).1
          have c23 : w23.cell? ⟨pb, 6, none⟩ = some (.int .i64 0) := (cell_row (j := 6) F23.out).trans rfl
          have f23 : w23.frozen? ⟨pb, 6, none⟩ = false := by have hh := F23.out; simp [World.frozen?, hh]
          clear hrd hol
          go_wp2_with fail
          refine (number_at _ E7.out (R23.out.set (by omega) (by omega) _)).mono ?_
          rintro r w24 ⟨rfl, hrd, hol⟩
          have R24 := hid hrd
          have F24 := hid (show w24.heap[pb]? = some (.cells #[.int .i64 (l + v0), .int .i64 v1, .int .i64 v2, .int .i64 v3, .int .i64 (v3 + v4), .int .i64 v5, .int .i64 v6, .int .i64 0, .int .i64 0] 36) from hol.heap (by omega) (heap_setCell F23.out _))
          have O24 := hid ((O23.out.set (by omega) _).trans hol (by first | omega | (simp; omega)))
          have hz24 : pb < w24.heap.size := (Array.getElem?_eq_some_iff.1 F24.out).1
          have c24 : w24.cell? ⟨pb, 7, none⟩ = some (.int .i64 0) := (cell_row (j := 7) F24.out).trans rfl
          have f24 : w24.frozen? ⟨pb, 7, none⟩ = false := by have hh := F24.out; simp [World.frozen?, hh]
          clear hrd hol
          go_wp2_with fail
          refine (number_at _ E8.out (R24.out.set (by omega) (by omega) _)).mono ?_
          rintro r w25 ⟨rfl, hrd, hol⟩
          have R25 := hid hrd
          have F25 := hid (show w25.heap[pb]? = some (.cells #[.int .i64 (l + v0), .int .i64 v1, .int .i64 v2, .int .i64 v3, .int .i64 (v3 + v4), .int .i64 v5, .int .i64 v6, .int .i64 v7, .int .i64 0] 36) from hol.heap (by omega) (heap_setCell F24.out _))
          have O25 := hid ((O24.out.set (by omega) _).trans hol (by first | omega | (simp; omega)))
          have hz25 : pb < w25.heap.size := (Array.getElem?_eq_some_iff.1 F25.out).1
          have c25 : w25.cell? ⟨pb, 8, none⟩ = some (.int .i64 0) := (cell_row (j := 8) F25.out).trans rfl
          have f25 : w25.frozen? ⟨pb, 8, none⟩ = false := by have hh := F25.out; simp [World.frozen?, hh]
          clear hrd hol
          have RX := hid (show RdAt (w25.setCell ⟨pb, 8, none⟩ (.int .i64 v8)) rb 118 b t9 from (R25.out.set (by omega) (by omega) _))
          have FX := hid (show (w25.setCell ⟨pb, 8, none⟩ (.int .i64 v8)).heap[pb]? = some (.cells #[.int .i64 (l + v0), .int .i64 v1, .int .i64 v2, .int .i64 v3, .int .i64 (v3 + v4), .int .i64 v5, .int .i64 v6, .int .i64 v7, .int .i64 v8] 36) from (heap_setCell F25.out _))
          have OX := hid (show Only rb wr.heap.size wr (w25.setCell ⟨pb, 8, none⟩ (.int .i64 v8)) from (O25.out.set (by omega) _))
          by_cases hbig : 1152921504606846976 < l + v0
          · have HPN := hid (show ptX l s2 = (⟨l + v0, v1, v2, v3, v3 + v4, v5, v6, v7, v8⟩, t9.mark) by rw [HPT.out, if_pos hbig])
            have dg : decide ((1152921504606846976 : Int) < l + v0) = true := decide_eq_true hbig
            have y0 : (w25.setCell ⟨pb, 8, none⟩ (.int .i64 v8)).cell? ⟨pb, 0, none⟩ = some (.int .i64 (l + v0)) := (cell_row (j := 0) FX.out).trans rfl
            have yb := RX.out.flag.1
            have yf := RX.out.flag.2
            have RY := hid RX.out.mark
            have FY := hid (heap_set_other (j := 1) (g := rb) FX.out (by omega) (.bool true))
            have OY := hid (only_setCell (j := 1) OX.out (.bool true))
            have d0 : ((w25.setCell ⟨pb, 8, none⟩ (.int .i64 v8)).setCell ⟨rb, 1, none⟩ (.bool true)).cell? ⟨pb, 0, none⟩ = some (.int .i64 (l + v0)) := (cell_row (j := 0) FY.out).trans rfl
            have d1 : ((w25.setCell ⟨pb, 8, none⟩ (.int .i64 v8)).setCell ⟨rb, 1, none⟩ (.bool true)).cell? ⟨pb, 1, none⟩ = some (.int .i64 v1) := (cell_row (j := 1) FY.out).trans rfl
            have d2 : ((w25.setCell ⟨pb, 8, none⟩ (.int .i64 v8)).setCell ⟨rb, 1, none⟩ (.bool true)).cell? ⟨pb, 2, none⟩ = some (.int .i64 v2) := (cell_row (j := 2) FY.out).trans rfl
            have d3 : ((w25.setCell ⟨pb, 8, none⟩ (.int .i64 v8)).setCell ⟨rb, 1, none⟩ (.bool true)).cell? ⟨pb, 3, none⟩ = some (.int .i64 v3) := (cell_row (j := 3) FY.out).trans rfl
            have d4 : ((w25.setCell ⟨pb, 8, none⟩ (.int .i64 v8)).setCell ⟨rb, 1, none⟩ (.bool true)).cell? ⟨pb, 4, none⟩ = some (.int .i64 (v3 + v4)) := (cell_row (j := 4) FY.out).trans rfl
            have d5 : ((w25.setCell ⟨pb, 8, none⟩ (.int .i64 v8)).setCell ⟨rb, 1, none⟩ (.bool true)).cell? ⟨pb, 5, none⟩ = some (.int .i64 v5) := (cell_row (j := 5) FY.out).trans rfl
            have d6 : ((w25.setCell ⟨pb, 8, none⟩ (.int .i64 v8)).setCell ⟨rb, 1, none⟩ (.bool true)).cell? ⟨pb, 6, none⟩ = some (.int .i64 v6) := (cell_row (j := 6) FY.out).trans rfl
            have d7 : ((w25.setCell ⟨pb, 8, none⟩ (.int .i64 v8)).setCell ⟨rb, 1, none⟩ (.bool true)).cell? ⟨pb, 7, none⟩ = some (.int .i64 v7) := (cell_row (j := 7) FY.out).trans rfl
            have d8 : ((w25.setCell ⟨pb, 8, none⟩ (.int .i64 v8)).setCell ⟨rb, 1, none⟩ (.bool true)).cell? ⟨pb, 8, none⟩ = some (.int .i64 v8) := (cell_row (j := 8) FY.out).trans rfl
            have HRK := hid (RowsAt.one (heap_alloc_at ((w25.setCell ⟨pb, 8, none⟩ (.int .i64 v8)).setCell ⟨rb, 1, none⟩ (.bool true)) _ _ (by simp)) : RowsAt (((w25.setCell ⟨pb, 8, none⟩ (.int .i64 v8)).setCell ⟨rb, 1, none⟩ (.bool true)).alloc (.cells #[.int .i64 (l + v0), .int .i64 v1, .int .i64 v2, .int .i64 v3, .int .i64 (v3 + v4), .int .i64 v5, .int .i64 v6, .int .i64 v7, .int .i64 v8] 36)) w25.heap.size 0 9 [[.int .i64 (l + v0), .int .i64 v1, .int .i64 v2, .int .i64 v3, .int .i64 (v3 + v4), .int .i64 v5, .int .i64 v6, .int .i64 v7, .int .i64 v8]])
            have HOA := hid (OwnR.grow (W' := ((w25.setCell ⟨pb, 8, none⟩ (.int .i64 v8)).setCell ⟨rb, 1, none⟩ (.bool true)).alloc (.cells #[.int .i64 (l + v0), .int .i64 v1, .int .i64 v2, .int .i64 v3, .int .i64 (v3 + v4), .int .i64 v5, .int .i64 v6, .int .i64 v7, .int .i64 v8] 36)) (HO.out.only OY.out (Nat.le_refl _) hrb) ((Below.refl _ _).alloc (Nat.le_refl _) _) : OwnR _ w.heap.size 36 9 (.slice oa on oc) (A.map Pt.row))
            have RA := hid (RY.out.alloc (.cells #[.int .i64 (l + v0), .int .i64 v1, .int .i64 v2, .int .i64 v3, .int .i64 (v3 + v4), .int .i64 v5, .int .i64 v6, .int .i64 v7, .int .i64 v8] 36))
            have OA := hid ((O2.out.trans OY.out O2.out.size).alloc (by have := O2.out.size; simp; omega) (.cells #[.int .i64 (l + v0), .int .i64 v1, .int .i64 v2, .int .i64 v3, .int .i64 (v3 + v4), .int .i64 v5, .int .i64 v6, .int .i64 v7, .int .i64 v8] 36))
            have HL1 := hid (show (A.map Pt.row).length + 1 ≤ maxLen by rw [List.length_map, HA.out]; unfold maxLen; omega)
            have HL2 := hid (show ((A.map Pt.row).length + 1) * 72 ≤ 140737488355328 by rw [List.length_map, HA.out]; omega)
            have HBS := hid (show w.heap.size ≤ (((w25.setCell ⟨pb, 8, none⟩ (.int .i64 v8)).setCell ⟨rb, 1, none⟩ (.bool true)).alloc (.cells #[.int .i64 (l + v0), .int .i64 v1, .int .i64 v2, .int .i64 v3, .int .i64 (v3 + v4), .int .i64 v5, .int .i64 v6, .int .i64 v7, .int .i64 v8] 36)).heap.size by have := O2.out.size; simp; omega)
            go_wp2_with (first
              | (at_builtin
                 go_loud (refine wpList_append_rows rfl (.tmp 70) (.tmp 72) 22 rfl w.heap.size 36 i0 _ 9 72 Try.underlying22 HI.out HZ0.out HZ1.out HZ2.out rfl (by decide) _ (A.map Pt.row) [[.int .i64 (l + v0), .int .i64 v1, .int .i64 v2, .int .i64 v3, .int .i64 (v3 + v4), .int .i64 v5, .int .i64 v6, .int .i64 v7, .int .i64 v8]] rfl HOA.out w25.heap.size 0 1 1 rfl rfl HRK.out (wide9d _ _ _ _ _ _ _ _ _) HL1.out HL2.out HBS.out ?_)
                 intro v10 W6 hown6 hg6 z6
                 clear z6
                 have HO6 := hid (show OwnP W6 w.heap.size v10 (A ++ [⟨l + v0, v1, v2, v3, v3 + v4, v5, v6, v7, v8⟩]) by unfold OwnP; rw [List.map_append]; exact hown6)
                 have R6 := hid (RA.out.kept hg6 (fun e => by have := OwnR.ownBlock HOA.out rb e.symm; omega) (fun e => by have := OwnR.ownBlock HOA.out b e.symm; omega))
                 have O6 := hid (OA.out.kept hg6 (by have := O2.out.size; simp; omega) (fun k e => OwnR.ownBlock HOA.out k e))
                 clear hown6 hg6))
            obtain ⟨oa6, oc6, hv6⟩ := HO6.out.slice
            refine ⟨⟨i + 1, A ++ [⟨l + v0, v1, v2, v3, v3 + v4, v5, v6, v7, v8⟩], l + v0, t9.mark, oa6, _, oc6, hv6, by omega, by simp [HA.out], by go_num, rfl, hv6 ▸ HO6.out, R6.out, O6.out, fun hb => ?_, ?_⟩, by simp [intOf]; omega⟩
            · exact absurd hb (by simp [St.mark])
            · rw [HE.out, show N - i = (N - (i + 1)) + 1 by omega, ptsX_next HBD.out HPN.out]
              simp
          · have HPN := hid (show ptX l s2 = (⟨l + v0, v1, v2, v3, v3 + v4, v5, v6, v7, v8⟩, t9) by rw [HPT.out, if_neg hbig])
            have dg : decide ((1152921504606846976 : Int) < l + v0) = false := decide_eq_false hbig
            have RY := hid RX.out
            have FY := hid FX.out
            have OY := hid OX.out
            have d0 : (w25.setCell ⟨pb, 8, none⟩ (.int .i64 v8)).cell? ⟨pb, 0, none⟩ = some (.int .i64 (l + v0)) := (cell_row (j := 0) FY.out).trans rfl
            have d1 : (w25.setCell ⟨pb, 8, none⟩ (.int .i64 v8)).cell? ⟨pb, 1, none⟩ = some (.int .i64 v1) := (cell_row (j := 1) FY.out).trans rfl
            have d2 : (w25.setCell ⟨pb, 8, none⟩ (.int .i64 v8)).cell? ⟨pb, 2, none⟩ = some (.int .i64 v2) := (cell_row (j := 2) FY.out).trans rfl
            have d3 : (w25.setCell ⟨pb, 8, none⟩ (.int .i64 v8)).cell? ⟨pb, 3, none⟩ = some (.int .i64 v3) := (cell_row (j := 3) FY.out).trans rfl
            have d4 : (w25.setCell ⟨pb, 8, none⟩ (.int .i64 v8)).cell? ⟨pb, 4, none⟩ = some (.int .i64 (v3 + v4)) := (cell_row (j := 4) FY.out).trans rfl
            have d5 : (w25.setCell ⟨pb, 8, none⟩ (.int .i64 v8)).cell? ⟨pb, 5, none⟩ = some (.int .i64 v5) := (cell_row (j := 5) FY.out).trans rfl
            have d6 : (w25.setCell ⟨pb, 8, none⟩ (.int .i64 v8)).cell? ⟨pb, 6, none⟩ = some (.int .i64 v6) := (cell_row (j := 6) FY.out).trans rfl
            have d7 : (w25.setCell ⟨pb, 8, none⟩ (.int .i64 v8)).cell? ⟨pb, 7, none⟩ = some (.int .i64 v7) := (cell_row (j := 7) FY.out).trans rfl
            have d8 : (w25.setCell ⟨pb, 8, none⟩ (.int .i64 v8)).cell? ⟨pb, 8, none⟩ = some (.int .i64 v8) := (cell_row (j := 8) FY.out).trans rfl
            have HRK := hid (RowsAt.one (heap_alloc_at (w25.setCell ⟨pb, 8, none⟩ (.int .i64 v8)) _ _ (by simp)) : RowsAt ((w25.setCell ⟨pb, 8, none⟩ (.int .i64 v8)).alloc (.cells #[.int .i64 (l + v0), .int .i64 v1, .int .i64 v2, .int .i64 v3, .int .i64 (v3 + v4), .int .i64 v5, .int .i64 v6, .int .i64 v7, .int .i64 v8] 36)) w25.heap.size 0 9 [[.int .i64 (l + v0), .int .i64 v1, .int .i64 v2, .int .i64 v3, .int .i64 (v3 + v4), .int .i64 v5, .int .i64 v6, .int .i64 v7, .int .i64 v8]])
            have HOA := hid (OwnR.grow (W' := (w25.setCell ⟨pb, 8, none⟩ (.int .i64 v8)).alloc (.cells #[.int .i64 (l + v0), .int .i64 v1, .int .i64 v2, .int .i64 v3, .int .i64 (v3 + v4), .int .i64 v5, .int .i64 v6, .int .i64 v7, .int .i64 v8] 36)) (HO.out.only OY.out (Nat.le_refl _) hrb) ((Below.refl _ _).alloc (Nat.le_refl _) _) : OwnR _ w.heap.size 36 9 (.slice oa on oc) (A.map Pt.row))
            have RA := hid (RY.out.alloc (.cells #[.int .i64 (l + v0), .int .i64 v1, .int .i64 v2, .int .i64 v3, .int .i64 (v3 + v4), .int .i64 v5, .int .i64 v6, .int .i64 v7, .int .i64 v8] 36))
            have OA := hid ((O2.out.trans OY.out O2.out.size).alloc (by have := O2.out.size; simp; omega) (.cells #[.int .i64 (l + v0), .int .i64 v1, .int .i64 v2, .int .i64 v3, .int .i64 (v3 + v4), .int .i64 v5, .int .i64 v6, .int .i64 v7, .int .i64 v8] 36))
            have HL1 := hid (show (A.map Pt.row).length + 1 ≤ maxLen by rw [List.length_map, HA.out]; unfold maxLen; omega)
            have HL2 := hid (show ((A.map Pt.row).length + 1) * 72 ≤ 140737488355328 by rw [List.length_map, HA.out]; omega)
            have HBS := hid (show w.heap.size ≤ ((w25.setCell ⟨pb, 8, none⟩ (.int .i64 v8)).alloc (.cells #[.int .i64 (l + v0), .int .i64 v1, .int .i64 v2, .int .i64 v3, .int .i64 (v3 + v4), .int .i64 v5, .int .i64 v6, .int .i64 v7, .int .i64 v8] 36)).heap.size by have := O2.out.size; simp; omega)
            go_wp2_with (first
              | (at_builtin
                 go_loud (refine wpList_append_rows rfl (.tmp 70) (.tmp 72) 22 rfl w.heap.size 36 i0 _ 9 72 Try.underlying22 HI.out HZ0.out HZ1.out HZ2.out rfl (by decide) _ (A.map Pt.row) [[.int .i64 (l + v0), .int .i64 v1, .int .i64 v2, .int .i64 v3, .int .i64 (v3 + v4), .int .i64 v5, .int .i64 v6, .int .i64 v7, .int .i64 v8]] rfl HOA.out w25.heap.size 0 1 1 rfl rfl HRK.out (wide9d _ _ _ _ _ _ _ _ _) HL1.out HL2.out HBS.out ?_)
                 intro v10 W6 hown6 hg6 z6
                 clear z6
                 have HO6 := hid (show OwnP W6 w.heap.size v10 (A ++ [⟨l + v0, v1, v2, v3, v3 + v4, v5, v6, v7, v8⟩]) by unfold OwnP; rw [List.map_append]; exact hown6)
                 have R6 := hid (RA.out.kept hg6 (fun e => by have := OwnR.ownBlock HOA.out rb e.symm; omega) (fun e => by have := OwnR.ownBlock HOA.out b e.symm; omega))
                 have O6 := hid (OA.out.kept hg6 (by have := O2.out.size; simp; omega) (fun k e => OwnR.ownBlock HOA.out k e))
                 clear hown6 hg6))
            obtain ⟨oa6, oc6, hv6⟩ := HO6.out.slice
            refine ⟨⟨i + 1, A ++ [⟨l + v0, v1, v2, v3, v3 + v4, v5, v6, v7, v8⟩], l + v0, t9, oa6, _, oc6, hv6, by omega, by simp [HA.out], by go_num, rfl, hv6 ▸ HO6.out, R6.out, O6.out, fun hb => ?_, ?_⟩, by simp [intOf]; omega⟩
            · exact ⟨by omega, by omega⟩
            · rw [HE.out, show N - i = (N - (i + 1)) + 1 by omega, ptsX_next HBD.out HPN.out]
              simp
        · have HF := hid (ptsX_bad (N - i) l s2 hbad)
          rw [hbad] at fb
          clear hbad
          go_wp2_with fail
          go_ret
          rw [HE.out, HF.out, List.append_nil]
          exact ⟨⟨_, rfl, HO.out, by rw [HA.out]; omega⟩, R2.out, O2.out⟩
      · obtain rfl : i = N := by omega
        have HF := hid (show ptsX (i - i) l s2 = ([], s2) by rw [Nat.sub_self]; rfl)
        have d1 : decide ((i : Int) < (i : Int)) = false := by simp
        go_wp2_with fail
        go_ret
        rw [HE.out, HF.out, List.append_nil]
        exact ⟨⟨_, rfl, HO.out, by rw [HA.out]; omega⟩, R2.out, O2.out⟩
end Go.Proofs.Yteanlcefdoigcaa
