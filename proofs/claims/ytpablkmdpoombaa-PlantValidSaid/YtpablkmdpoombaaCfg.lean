/- Configurations: the detector (51, 55), the terrain's rules (53, 57), Valid (18, 19). (Printed by wip/gen_cfg.py.) -/
import Derived.Test.YtpablkmdpoombaaPul
namespace Go.Proofs.Ytpablkmdpoombaa
open Go.RowKit

def detB (a b c d : Int) : Bool := decide (1 ≤ a) && decide (a ≤ 1023) && decide (1 ≤ b) && decide (b ≤ 1023) && decide (1 ≤ c) && decide (c ≤ 10000) && decide (-1048576 ≤ d) && decide (d ≤ 1048576)
set_option maxRecDepth 100000 in
theorem xDet_any (a b c d : Int) (w : World) :
    Calls Try.prog 51 #[.agg #[.int .i64 a, .int .i64 b, .int .i64 c, .int .i64 d]] w fun e w' => e = .returned (.bool (detB a b c d)) ∧ Below w.heap.size w w' := by
  by_cases h1 : decide (1 ≤ a) = true
  · by_cases h2 : decide (a ≤ 1023) = true
    · by_cases h3 : decide (1 ≤ b) = true
      · by_cases h4 : decide (b ≤ 1023) = true
        · by_cases h5 : decide (1 ≤ c) = true
          · by_cases h6 : decide (c ≤ 10000) = true
            · by_cases h7 : decide (-1048576 ≤ d) = true
              · have HS := hid (show detB a b c d = decide (d ≤ 1048576) by simp [detB, h1, h2, h3, h4, h5, h6, h7])
                have H1 := hid h1
                have H2 := hid h2
                have H3 := hid h3
                have H4 := hid h4
                have H5 := hid h5
                have H6 := hid h6
                have H7 := hid h7
                clear h1 h2 h3 h4 h5 h6 h7
                have D1 := H1.out
                have D2 := H2.out
                have D3 := H3.out
                have D4 := H4.out
                have D5 := H5.out
                have D6 := H6.out
                have D7 := H7.out
                go_enter Try.func51, Try.ntmps51
                go_wp2_with fail
                go_ret
                refine ⟨by rw [HS.out]; rfl, ?_⟩
                (try have hB0 := HB.out)
                (repeat' (first | (with_reducible exact Below.refl _ _) | (with_reducible assumption) | (with_reducible refine Below.alloc ?_ ?_ _) | (with_reducible refine Below.drew ?_) | (with_reducible refine below_drewN ?_ _) | (with_reducible refine Below.setCell ?_ ?_ _) | (with_reducible refine below_setRow ?_ ?_ _) | go_size))
              · have HS := hid (show detB a b c d = false by simp [detB, h1, h2, h3, h4, h5, h6, h7])
                have H1 := hid h1
                have H2 := hid h2
                have H3 := hid h3
                have H4 := hid h4
                have H5 := hid h5
                have H6 := hid h6
                have H7 := hid (Bool.eq_false_iff.2 h7)
                clear h1 h2 h3 h4 h5 h6 h7
                have D1 := H1.out
                have D2 := H2.out
                have D3 := H3.out
                have D4 := H4.out
                have D5 := H5.out
                have D6 := H6.out
                have D7 := H7.out
                go_enter Try.func51, Try.ntmps51
                go_wp2_with fail
                go_ret
                refine ⟨by rw [HS.out]; rfl, ?_⟩
                (try have hB0 := HB.out)
                (repeat' (first | (with_reducible exact Below.refl _ _) | (with_reducible assumption) | (with_reducible refine Below.alloc ?_ ?_ _) | (with_reducible refine Below.drew ?_) | (with_reducible refine below_drewN ?_ _) | (with_reducible refine Below.setCell ?_ ?_ _) | (with_reducible refine below_setRow ?_ ?_ _) | go_size))
            · have HS := hid (show detB a b c d = false by simp [detB, h1, h2, h3, h4, h5, h6])
              have H1 := hid h1
              have H2 := hid h2
              have H3 := hid h3
              have H4 := hid h4
              have H5 := hid h5
              have H6 := hid (Bool.eq_false_iff.2 h6)
              clear h1 h2 h3 h4 h5 h6
              have D1 := H1.out
              have D2 := H2.out
              have D3 := H3.out
              have D4 := H4.out
              have D5 := H5.out
              have D6 := H6.out
              go_enter Try.func51, Try.ntmps51
              go_wp2_with fail
              go_ret
              refine ⟨by rw [HS.out]; rfl, ?_⟩
              (try have hB0 := HB.out)
              (repeat' (first | (with_reducible exact Below.refl _ _) | (with_reducible assumption) | (with_reducible refine Below.alloc ?_ ?_ _) | (with_reducible refine Below.drew ?_) | (with_reducible refine below_drewN ?_ _) | (with_reducible refine Below.setCell ?_ ?_ _) | (with_reducible refine below_setRow ?_ ?_ _) | go_size))
          · have HS := hid (show detB a b c d = false by simp [detB, h1, h2, h3, h4, h5])
            have H1 := hid h1
            have H2 := hid h2
            have H3 := hid h3
            have H4 := hid h4
            have H5 := hid (Bool.eq_false_iff.2 h5)
            clear h1 h2 h3 h4 h5
            have D1 := H1.out
            have D2 := H2.out
            have D3 := H3.out
            have D4 := H4.out
            have D5 := H5.out
            go_enter Try.func51, Try.ntmps51
            go_wp2_with fail
            go_ret
            refine ⟨by rw [HS.out]; rfl, ?_⟩
            (try have hB0 := HB.out)
            (repeat' (first | (with_reducible exact Below.refl _ _) | (with_reducible assumption) | (with_reducible refine Below.alloc ?_ ?_ _) | (with_reducible refine Below.drew ?_) | (with_reducible refine below_drewN ?_ _) | (with_reducible refine Below.setCell ?_ ?_ _) | (with_reducible refine below_setRow ?_ ?_ _) | go_size))
        · have HS := hid (show detB a b c d = false by simp [detB, h1, h2, h3, h4])
          have H1 := hid h1
          have H2 := hid h2
          have H3 := hid h3
          have H4 := hid (Bool.eq_false_iff.2 h4)
          clear h1 h2 h3 h4
          have D1 := H1.out
          have D2 := H2.out
          have D3 := H3.out
          have D4 := H4.out
          go_enter Try.func51, Try.ntmps51
          go_wp2_with fail
          go_ret
          refine ⟨by rw [HS.out]; rfl, ?_⟩
          (try have hB0 := HB.out)
          (repeat' (first | (with_reducible exact Below.refl _ _) | (with_reducible assumption) | (with_reducible refine Below.alloc ?_ ?_ _) | (with_reducible refine Below.drew ?_) | (with_reducible refine below_drewN ?_ _) | (with_reducible refine Below.setCell ?_ ?_ _) | (with_reducible refine below_setRow ?_ ?_ _) | go_size))
      · have HS := hid (show detB a b c d = false by simp [detB, h1, h2, h3])
        have H1 := hid h1
        have H2 := hid h2
        have H3 := hid (Bool.eq_false_iff.2 h3)
        clear h1 h2 h3
        have D1 := H1.out
        have D2 := H2.out
        have D3 := H3.out
        go_enter Try.func51, Try.ntmps51
        go_wp2_with fail
        go_ret
        refine ⟨by rw [HS.out]; rfl, ?_⟩
        (try have hB0 := HB.out)
        (repeat' (first | (with_reducible exact Below.refl _ _) | (with_reducible assumption) | (with_reducible refine Below.alloc ?_ ?_ _) | (with_reducible refine Below.drew ?_) | (with_reducible refine below_drewN ?_ _) | (with_reducible refine Below.setCell ?_ ?_ _) | (with_reducible refine below_setRow ?_ ?_ _) | go_size))
    · have HS := hid (show detB a b c d = false by simp [detB, h1, h2])
      have H1 := hid h1
      have H2 := hid (Bool.eq_false_iff.2 h2)
      clear h1 h2
      have D1 := H1.out
      have D2 := H2.out
      go_enter Try.func51, Try.ntmps51
      go_wp2_with fail
      go_ret
      refine ⟨by rw [HS.out]; rfl, ?_⟩
      (try have hB0 := HB.out)
      (repeat' (first | (with_reducible exact Below.refl _ _) | (with_reducible assumption) | (with_reducible refine Below.alloc ?_ ?_ _) | (with_reducible refine Below.drew ?_) | (with_reducible refine below_drewN ?_ _) | (with_reducible refine Below.setCell ?_ ?_ _) | (with_reducible refine below_setRow ?_ ?_ _) | go_size))
  · have HS := hid (show detB a b c d = false by simp [detB, h1])
    have H1 := hid (Bool.eq_false_iff.2 h1)
    clear h1
    have D1 := H1.out
    go_enter Try.func51, Try.ntmps51
    go_wp2_with fail
    go_ret
    refine ⟨by rw [HS.out]; rfl, ?_⟩
    (try have hB0 := HB.out)
    (repeat' (first | (with_reducible exact Below.refl _ _) | (with_reducible assumption) | (with_reducible refine Below.alloc ?_ ?_ _) | (with_reducible refine Below.drew ?_) | (with_reducible refine below_drewN ?_ _) | (with_reducible refine Below.setCell ?_ ?_ _) | (with_reducible refine below_setRow ?_ ?_ _) | go_size))
set_option maxRecDepth 100000 in
theorem rDet_any (a b c d : Int) (w : World) :
    Calls Try.prog 55 #[.agg #[.int .i64 a, .int .i64 b, .int .i64 c, .int .i64 d]] w fun e w' => e = .returned (.bool (detB a b c d)) ∧ Below w.heap.size w w' := by
  by_cases h1 : decide (1 ≤ a) = true
  · by_cases h2 : decide (a ≤ 1023) = true
    · by_cases h3 : decide (1 ≤ b) = true
      · by_cases h4 : decide (b ≤ 1023) = true
        · by_cases h5 : decide (1 ≤ c) = true
          · by_cases h6 : decide (c ≤ 10000) = true
            · by_cases h7 : decide (-1048576 ≤ d) = true
              · have HS := hid (show detB a b c d = decide (d ≤ 1048576) by simp [detB, h1, h2, h3, h4, h5, h6, h7])
                have H1 := hid h1
                have H2 := hid h2
                have H3 := hid h3
                have H4 := hid h4
                have H5 := hid h5
                have H6 := hid h6
                have H7 := hid h7
                clear h1 h2 h3 h4 h5 h6 h7
                have D1 := H1.out
                have D2 := H2.out
                have D3 := H3.out
                have D4 := H4.out
                have D5 := H5.out
                have D6 := H6.out
                have D7 := H7.out
                go_enter Try.func55, Try.ntmps55
                go_wp2_with fail
                go_ret
                refine ⟨by rw [HS.out]; rfl, ?_⟩
                (try have hB0 := HB.out)
                (repeat' (first | (with_reducible exact Below.refl _ _) | (with_reducible assumption) | (with_reducible refine Below.alloc ?_ ?_ _) | (with_reducible refine Below.drew ?_) | (with_reducible refine below_drewN ?_ _) | (with_reducible refine Below.setCell ?_ ?_ _) | (with_reducible refine below_setRow ?_ ?_ _) | go_size))
              · have HS := hid (show detB a b c d = false by simp [detB, h1, h2, h3, h4, h5, h6, h7])
                have H1 := hid h1
                have H2 := hid h2
                have H3 := hid h3
                have H4 := hid h4
                have H5 := hid h5
                have H6 := hid h6
                have H7 := hid (Bool.eq_false_iff.2 h7)
                clear h1 h2 h3 h4 h5 h6 h7
                have D1 := H1.out
                have D2 := H2.out
                have D3 := H3.out
                have D4 := H4.out
                have D5 := H5.out
                have D6 := H6.out
                have D7 := H7.out
                go_enter Try.func55, Try.ntmps55
                go_wp2_with fail
                go_ret
                refine ⟨by rw [HS.out]; rfl, ?_⟩
                (try have hB0 := HB.out)
                (repeat' (first | (with_reducible exact Below.refl _ _) | (with_reducible assumption) | (with_reducible refine Below.alloc ?_ ?_ _) | (with_reducible refine Below.drew ?_) | (with_reducible refine below_drewN ?_ _) | (with_reducible refine Below.setCell ?_ ?_ _) | (with_reducible refine below_setRow ?_ ?_ _) | go_size))
            · have HS := hid (show detB a b c d = false by simp [detB, h1, h2, h3, h4, h5, h6])
              have H1 := hid h1
              have H2 := hid h2
              have H3 := hid h3
              have H4 := hid h4
              have H5 := hid h5
              have H6 := hid (Bool.eq_false_iff.2 h6)
              clear h1 h2 h3 h4 h5 h6
              have D1 := H1.out
              have D2 := H2.out
              have D3 := H3.out
              have D4 := H4.out
              have D5 := H5.out
              have D6 := H6.out
              go_enter Try.func55, Try.ntmps55
              go_wp2_with fail
              go_ret
              refine ⟨by rw [HS.out]; rfl, ?_⟩
              (try have hB0 := HB.out)
              (repeat' (first | (with_reducible exact Below.refl _ _) | (with_reducible assumption) | (with_reducible refine Below.alloc ?_ ?_ _) | (with_reducible refine Below.drew ?_) | (with_reducible refine below_drewN ?_ _) | (with_reducible refine Below.setCell ?_ ?_ _) | (with_reducible refine below_setRow ?_ ?_ _) | go_size))
          · have HS := hid (show detB a b c d = false by simp [detB, h1, h2, h3, h4, h5])
            have H1 := hid h1
            have H2 := hid h2
            have H3 := hid h3
            have H4 := hid h4
            have H5 := hid (Bool.eq_false_iff.2 h5)
            clear h1 h2 h3 h4 h5
            have D1 := H1.out
            have D2 := H2.out
            have D3 := H3.out
            have D4 := H4.out
            have D5 := H5.out
            go_enter Try.func55, Try.ntmps55
            go_wp2_with fail
            go_ret
            refine ⟨by rw [HS.out]; rfl, ?_⟩
            (try have hB0 := HB.out)
            (repeat' (first | (with_reducible exact Below.refl _ _) | (with_reducible assumption) | (with_reducible refine Below.alloc ?_ ?_ _) | (with_reducible refine Below.drew ?_) | (with_reducible refine below_drewN ?_ _) | (with_reducible refine Below.setCell ?_ ?_ _) | (with_reducible refine below_setRow ?_ ?_ _) | go_size))
        · have HS := hid (show detB a b c d = false by simp [detB, h1, h2, h3, h4])
          have H1 := hid h1
          have H2 := hid h2
          have H3 := hid h3
          have H4 := hid (Bool.eq_false_iff.2 h4)
          clear h1 h2 h3 h4
          have D1 := H1.out
          have D2 := H2.out
          have D3 := H3.out
          have D4 := H4.out
          go_enter Try.func55, Try.ntmps55
          go_wp2_with fail
          go_ret
          refine ⟨by rw [HS.out]; rfl, ?_⟩
          (try have hB0 := HB.out)
          (repeat' (first | (with_reducible exact Below.refl _ _) | (with_reducible assumption) | (with_reducible refine Below.alloc ?_ ?_ _) | (with_reducible refine Below.drew ?_) | (with_reducible refine below_drewN ?_ _) | (with_reducible refine Below.setCell ?_ ?_ _) | (with_reducible refine below_setRow ?_ ?_ _) | go_size))
      · have HS := hid (show detB a b c d = false by simp [detB, h1, h2, h3])
        have H1 := hid h1
        have H2 := hid h2
        have H3 := hid (Bool.eq_false_iff.2 h3)
        clear h1 h2 h3
        have D1 := H1.out
        have D2 := H2.out
        have D3 := H3.out
        go_enter Try.func55, Try.ntmps55
        go_wp2_with fail
        go_ret
        refine ⟨by rw [HS.out]; rfl, ?_⟩
        (try have hB0 := HB.out)
        (repeat' (first | (with_reducible exact Below.refl _ _) | (with_reducible assumption) | (with_reducible refine Below.alloc ?_ ?_ _) | (with_reducible refine Below.drew ?_) | (with_reducible refine below_drewN ?_ _) | (with_reducible refine Below.setCell ?_ ?_ _) | (with_reducible refine below_setRow ?_ ?_ _) | go_size))
    · have HS := hid (show detB a b c d = false by simp [detB, h1, h2])
      have H1 := hid h1
      have H2 := hid (Bool.eq_false_iff.2 h2)
      clear h1 h2
      have D1 := H1.out
      have D2 := H2.out
      go_enter Try.func55, Try.ntmps55
      go_wp2_with fail
      go_ret
      refine ⟨by rw [HS.out]; rfl, ?_⟩
      (try have hB0 := HB.out)
      (repeat' (first | (with_reducible exact Below.refl _ _) | (with_reducible assumption) | (with_reducible refine Below.alloc ?_ ?_ _) | (with_reducible refine Below.drew ?_) | (with_reducible refine below_drewN ?_ _) | (with_reducible refine Below.setCell ?_ ?_ _) | (with_reducible refine below_setRow ?_ ?_ _) | go_size))
  · have HS := hid (show detB a b c d = false by simp [detB, h1])
    have H1 := hid (Bool.eq_false_iff.2 h1)
    clear h1
    have D1 := H1.out
    go_enter Try.func55, Try.ntmps55
    go_wp2_with fail
    go_ret
    refine ⟨by rw [HS.out]; rfl, ?_⟩
    (try have hB0 := HB.out)
    (repeat' (first | (with_reducible exact Below.refl _ _) | (with_reducible assumption) | (with_reducible refine Below.alloc ?_ ?_ _) | (with_reducible refine Below.drew ?_) | (with_reducible refine below_drewN ?_ _) | (with_reducible refine Below.setCell ?_ ?_ _) | (with_reducible refine below_setRow ?_ ?_ _) | go_size))
def terB (t0 t1 t2 t3 t4 t5 t6 t7 t8 t9 : Int) : Bool := inB 1 10000000 t0 && inB 0 1000000 t1 && inB 0 100000 t2 && inB 1 1000000 t3 && inB 0 1000000 t4 && inB 0 1000000 t5 && inB 0 1000000 t6 && inB 0 1000000 t7 && inB 0 1000000 t8 && inB 1 1024 t9
def terX (t0 t1 t2 t3 t4 t5 t6 t7 t8 t9 : Int) : Bool := [t1, t4, t5, t6, t7, t8].all (inB 0 1000000) && inB 1 10000000 t0 && inB 0 100000 t2 && inB 1 1000000 t3 && inB 1 1024 t9
theorem terX_eq (t0 t1 t2 t3 t4 t5 t6 t7 t8 t9 : Int) : terX t0 t1 t2 t3 t4 t5 t6 t7 t8 t9 = terB t0 t1 t2 t3 t4 t5 t6 t7 t8 t9 := by
  unfold terX terB
  simp only [List.all_cons, List.all_nil, Bool.and_true]
  ac_rfl
theorem index6_0 (a b c d e f : Int) (w : World) : (Instr.index 133 (.agg #[.int .i64 a, .int .i64 b, .int .i64 c, .int .i64 d, .int .i64 e, .int .i64 f]) (.int .i64 0)).run Try.prog w = .ok (.int .i64 a) w := by kernel_rfl
theorem index6_1 (a b c d e f : Int) (w : World) : (Instr.index 133 (.agg #[.int .i64 a, .int .i64 b, .int .i64 c, .int .i64 d, .int .i64 e, .int .i64 f]) (.int .i64 1)).run Try.prog w = .ok (.int .i64 b) w := by kernel_rfl
theorem index6_2 (a b c d e f : Int) (w : World) : (Instr.index 133 (.agg #[.int .i64 a, .int .i64 b, .int .i64 c, .int .i64 d, .int .i64 e, .int .i64 f]) (.int .i64 2)).run Try.prog w = .ok (.int .i64 c) w := by kernel_rfl
theorem index6_3 (a b c d e f : Int) (w : World) : (Instr.index 133 (.agg #[.int .i64 a, .int .i64 b, .int .i64 c, .int .i64 d, .int .i64 e, .int .i64 f]) (.int .i64 3)).run Try.prog w = .ok (.int .i64 d) w := by kernel_rfl
theorem index6_4 (a b c d e f : Int) (w : World) : (Instr.index 133 (.agg #[.int .i64 a, .int .i64 b, .int .i64 c, .int .i64 d, .int .i64 e, .int .i64 f]) (.int .i64 4)).run Try.prog w = .ok (.int .i64 e) w := by kernel_rfl
theorem index6_5 (a b c d e f : Int) (w : World) : (Instr.index 133 (.agg #[.int .i64 a, .int .i64 b, .int .i64 c, .int .i64 d, .int .i64 e, .int .i64 f]) (.int .i64 5)).run Try.prog w = .ok (.int .i64 f) w := by kernel_rfl
theorem index6 (a b c d e f : Int) (k : Nat) (hk : k < 6) (w : World) :
    (Instr.index 133 (.agg #[.int .i64 a, .int .i64 b, .int .i64 c, .int .i64 d, .int .i64 e, .int .i64 f]) (.int .i64 (k : Int))).run Try.prog w = .ok (.int .i64 ([a, b, c, d, e, f].getD k 0)) w := by
  match k, hk with
  | 0, _ => exact index6_0 a b c d e f w
  | 1, _ => exact index6_1 a b c d e f w
  | 2, _ => exact index6_2 a b c d e f w
  | 3, _ => exact index6_3 a b c d e f w
  | 4, _ => exact index6_4 a b c d e f w
  | 5, _ => exact index6_5 a b c d e f w
set_option maxRecDepth 100000 in
theorem xTer_any (t0 t1 t2 t3 t4 t5 t6 t7 t8 t9 : Int) (w : World) :
    Calls Try.prog 53 #[.agg #[.int .i64 t0, .int .i64 t1, .int .i64 t2, .int .i64 t3, .int .i64 t4, .int .i64 t5, .int .i64 t6, .int .i64 t7, .int .i64 t8, .int .i64 t9]] w fun e w' => e = .returned (.bool (terB t0 t1 t2 t3 t4 t5 t6 t7 t8 t9)) ∧ Below w.heap.size w w' := by
  rw [← terX_eq]
  have HC := hid (show terX t0 t1 t2 t3 t4 t5 t6 t7 t8 t9 = terX t0 t1 t2 t3 t4 t5 t6 t7 t8 t9 from rfl)
  obtain ⟨tb, htb⟩ : ∃ tb, tb = terX t0 t1 t2 t3 t4 t5 t6 t7 t8 t9 := ⟨_, rfl⟩
  rw [← htb]
  have HNO := hid (fun (h : [t1, t4, t5, t6, t7, t8].all (inB 0 1000000) = false) => show tb = false by rw [htb]; unfold terX; rw [h]; rfl)
  have HYS := hid (fun (h : [t1, t4, t5, t6, t7, t8].all (inB 0 1000000) = true) => show tb = (inB 1 10000000 t0 && inB 0 100000 t2 && inB 1 1000000 t3 && inB 1 1024 t9) by rw [htb]; unfold terX; rw [h]; rfl)
  clear htb HC
  go_enter Try.func53, Try.ntmps53
  go_wp2_with fail
  go_loopw [18] (fun iv W => ∃ k : Nat, k ≤ 6 ∧ iv = .int .i64 (k : Int) ∧ ([t1, t4, t5, t6, t7, t8].take k).all (inB 0 1000000) = true ∧ Below w.heap.size w W ∧ W.heap[w.heap.size]? = some (.cells #[.int .i64 t0, .int .i64 t1, .int .i64 t2, .int .i64 t3, .int .i64 t4, .int .i64 t5, .int .i64 t6, .int .i64 t7, .int .i64 t8, .int .i64 t9] 59)) (fun iv _ => 6 - (intOf iv).toNat)
  case atStart => exact ⟨0, by omega, rfl, rfl, (Below.refl _ _).alloc (Nat.le_refl _) _, heap_alloc_at _ _ _ rfl⟩
  case round =>
    obtain ⟨k, hk, rfl, hall, hB, hkp⟩ := hrel
    have HA := hid hall
    have HBwr := hid hB
    have KP := hid hkp
    clear hall hB hkp
    by_cases hlt : k < 6
    · have hix := index6 t1 t4 t5 t6 t7 t8 k hlt
      have HSN := hid (inB_step (zs := [t1, t4, t5, t6, t7, t8]) hlt HA.out)
      have HST := hid (@inB_stop [t1, t4, t5, t6, t7, t8] (inB 0 1000000) k hlt)
      generalize [t1, t4, t5, t6, t7, t8].getD k 0 = z at *
      cases h3 : inB 0 1000000 z
      · have H3 := hid h3
        have HF := hid (HNO.out (HST.out h3))
        clear h3
        go_wp2_with fail
        refine (within_any _ _ _ _).mono ?_
        rintro r w1 ⟨rfl, rfl⟩
        rw [H3.out]
        go_wp2_with fail
        go_ret
        exact ⟨by rw [HF.out]; rfl, HBwr.out⟩
      · have H3 := hid h3
        have HX := hid (HSN.out.trans h3)
        clear h3
        go_wp2_with fail
        refine (within_any _ _ _ _).mono ?_
        rintro r w1 ⟨rfl, rfl⟩
        rw [H3.out]
        go_wp2_with fail
        exact ⟨⟨k + 1, by omega, by go_num, HX.out, HBwr.out, KP.out⟩, by simp [intOf]; omega⟩
    · obtain rfl : k = 6 := by omega
      have HY := hid (HYS.out HA.out)
      have c0 : wr.cell? ⟨w.heap.size, 0, none⟩ = some (.int .i64 t0) := (cell_row (j := 0) KP.out).trans rfl
      have c2 : wr.cell? ⟨w.heap.size, 2, none⟩ = some (.int .i64 t2) := (cell_row (j := 2) KP.out).trans rfl
      have c3 : wr.cell? ⟨w.heap.size, 3, none⟩ = some (.int .i64 t3) := (cell_row (j := 3) KP.out).trans rfl
      have c9 : wr.cell? ⟨w.heap.size, 9, none⟩ = some (.int .i64 t9) := (cell_row (j := 9) KP.out).trans rfl
      cases h0 : inB 1 10000000 t0
      · have HS := hid (show tb = false by rw [HY.out]; rw [h0]; simp)
        have H0 := hid h0
        clear h0
        go_wp2_with fail
        refine (within_any _ _ _ _).mono ?_
        rintro r w1 ⟨rfl, rfl⟩
        rw [H0.out]
        go_wp2_with fail
        go_ret
        exact ⟨by rw [HS.out]; rfl, HBwr.out⟩
      · cases h1 : inB 0 100000 t2
        · have HS := hid (show tb = false by rw [HY.out]; rw [h0, h1]; simp)
          have H0 := hid h0
          have H1 := hid h1
          clear h0 h1
          go_wp2_with fail
          refine (within_any _ _ _ _).mono ?_
          rintro r w1 ⟨rfl, rfl⟩
          rw [H0.out]
          go_wp2_with fail
          refine (within_any _ _ _ _).mono ?_
          rintro r w1 ⟨rfl, rfl⟩
          rw [H1.out]
          go_wp2_with fail
          go_ret
          exact ⟨by rw [HS.out]; rfl, HBwr.out⟩
        · cases h2 : inB 1 1000000 t3
          · have HS := hid (show tb = false by rw [HY.out]; rw [h0, h1, h2]; simp)
            have H0 := hid h0
            have H1 := hid h1
            have H2 := hid h2
            clear h0 h1 h2
            go_wp2_with fail
            refine (within_any _ _ _ _).mono ?_
            rintro r w1 ⟨rfl, rfl⟩
            rw [H0.out]
            go_wp2_with fail
            refine (within_any _ _ _ _).mono ?_
            rintro r w1 ⟨rfl, rfl⟩
            rw [H1.out]
            go_wp2_with fail
            refine (within_any _ _ _ _).mono ?_
            rintro r w1 ⟨rfl, rfl⟩
            rw [H2.out]
            go_wp2_with fail
            go_ret
            exact ⟨by rw [HS.out]; rfl, HBwr.out⟩
          · have HS := hid (show tb = inB 1 1024 t9 by rw [HY.out]; rw [h0, h1, h2]; simp)
            have H0 := hid h0
            have H1 := hid h1
            have H2 := hid h2
            clear h0 h1 h2
            go_wp2_with fail
            refine (within_any _ _ _ _).mono ?_
            rintro r w1 ⟨rfl, rfl⟩
            rw [H0.out]
            go_wp2_with fail
            refine (within_any _ _ _ _).mono ?_
            rintro r w1 ⟨rfl, rfl⟩
            rw [H1.out]
            go_wp2_with fail
            refine (within_any _ _ _ _).mono ?_
            rintro r w1 ⟨rfl, rfl⟩
            rw [H2.out]
            go_wp2_with fail
            refine (within_any _ _ _ _).mono ?_
            rintro r w1 ⟨rfl, rfl⟩
            go_wp2_with fail
            go_ret
            exact ⟨by rw [HS.out]; rfl, HBwr.out⟩
set_option maxRecDepth 100000 in
set_option maxHeartbeats 1600000 in
theorem rTer_any (t0 t1 t2 t3 t4 t5 t6 t7 t8 t9 : Int) (w : World) :
    Calls Try.prog 57 #[.agg #[.int .i64 t0, .int .i64 t1, .int .i64 t2, .int .i64 t3, .int .i64 t4, .int .i64 t5, .int .i64 t6, .int .i64 t7, .int .i64 t8, .int .i64 t9]] w fun e w' => e = .returned (.bool (terB t0 t1 t2 t3 t4 t5 t6 t7 t8 t9)) ∧ Below w.heap.size w w' := by
  by_cases h1 : inB 1 10000000 t0 = true
  · by_cases h2 : inB 0 1000000 t1 = true
    · by_cases h3 : inB 0 100000 t2 = true
      · by_cases h4 : inB 1 1000000 t3 = true
        · by_cases h5 : inB 0 1000000 t4 = true
          · by_cases h6 : inB 0 1000000 t5 = true
            · by_cases h7 : inB 0 1000000 t6 = true
              · by_cases h8 : inB 0 1000000 t7 = true
                · by_cases h9 : inB 0 1000000 t8 = true
                  · have HS := hid (show terB t0 t1 t2 t3 t4 t5 t6 t7 t8 t9 = inB 1 1024 t9 by simp [terB, h1, h2, h3, h4, h5, h6, h7, h8, h9])
                    have H1 := hid h1
                    have H2 := hid h2
                    have H3 := hid h3
                    have H4 := hid h4
                    have H5 := hid h5
                    have H6 := hid h6
                    have H7 := hid h7
                    have H8 := hid h8
                    have H9 := hid h9
                    clear h1 h2 h3 h4 h5 h6 h7 h8 h9
                    go_enter Try.func57, Try.ntmps57
                    go_wp2_with fail
                    refine (rwithin_any _ _ _ _).mono ?_
                    rintro r w1 ⟨rfl, rfl⟩
                    rw [H1.out]
                    go_wp2_with fail
                    refine (rwithin_any _ _ _ _).mono ?_
                    rintro r w1 ⟨rfl, rfl⟩
                    rw [H2.out]
                    go_wp2_with fail
                    refine (rwithin_any _ _ _ _).mono ?_
                    rintro r w1 ⟨rfl, rfl⟩
                    rw [H3.out]
                    go_wp2_with fail
                    refine (rwithin_any _ _ _ _).mono ?_
                    rintro r w1 ⟨rfl, rfl⟩
                    rw [H4.out]
                    go_wp2_with fail
                    refine (rwithin_any _ _ _ _).mono ?_
                    rintro r w1 ⟨rfl, rfl⟩
                    rw [H5.out]
                    go_wp2_with fail
                    refine (rwithin_any _ _ _ _).mono ?_
                    rintro r w1 ⟨rfl, rfl⟩
                    rw [H6.out]
                    go_wp2_with fail
                    refine (rwithin_any _ _ _ _).mono ?_
                    rintro r w1 ⟨rfl, rfl⟩
                    rw [H7.out]
                    go_wp2_with fail
                    refine (rwithin_any _ _ _ _).mono ?_
                    rintro r w1 ⟨rfl, rfl⟩
                    rw [H8.out]
                    go_wp2_with fail
                    refine (rwithin_any _ _ _ _).mono ?_
                    rintro r w1 ⟨rfl, rfl⟩
                    rw [H9.out]
                    go_wp2_with fail
                    refine (rwithin_any _ _ _ _).mono ?_
                    rintro r w1 ⟨rfl, rfl⟩
                    go_wp2_with fail
                    go_ret
                    refine ⟨by rw [HS.out]; rfl, ?_⟩
                    (try have hB0 := HB.out)
                    (repeat' (first | (with_reducible exact Below.refl _ _) | (with_reducible assumption) | (with_reducible refine Below.alloc ?_ ?_ _) | (with_reducible refine Below.drew ?_) | (with_reducible refine below_drewN ?_ _) | (with_reducible refine Below.setCell ?_ ?_ _) | (with_reducible refine below_setRow ?_ ?_ _) | go_size))
                  · have HS := hid (show terB t0 t1 t2 t3 t4 t5 t6 t7 t8 t9 = false by simp [terB, h1, h2, h3, h4, h5, h6, h7, h8, h9])
                    have H1 := hid h1
                    have H2 := hid h2
                    have H3 := hid h3
                    have H4 := hid h4
                    have H5 := hid h5
                    have H6 := hid h6
                    have H7 := hid h7
                    have H8 := hid h8
                    have H9 := hid (Bool.eq_false_iff.2 h9)
                    clear h1 h2 h3 h4 h5 h6 h7 h8 h9
                    go_enter Try.func57, Try.ntmps57
                    go_wp2_with fail
                    refine (rwithin_any _ _ _ _).mono ?_
                    rintro r w1 ⟨rfl, rfl⟩
                    rw [H1.out]
                    go_wp2_with fail
                    refine (rwithin_any _ _ _ _).mono ?_
                    rintro r w1 ⟨rfl, rfl⟩
                    rw [H2.out]
                    go_wp2_with fail
                    refine (rwithin_any _ _ _ _).mono ?_
                    rintro r w1 ⟨rfl, rfl⟩
                    rw [H3.out]
                    go_wp2_with fail
                    refine (rwithin_any _ _ _ _).mono ?_
                    rintro r w1 ⟨rfl, rfl⟩
                    rw [H4.out]
                    go_wp2_with fail
                    refine (rwithin_any _ _ _ _).mono ?_
                    rintro r w1 ⟨rfl, rfl⟩
                    rw [H5.out]
                    go_wp2_with fail
                    refine (rwithin_any _ _ _ _).mono ?_
                    rintro r w1 ⟨rfl, rfl⟩
                    rw [H6.out]
                    go_wp2_with fail
                    refine (rwithin_any _ _ _ _).mono ?_
                    rintro r w1 ⟨rfl, rfl⟩
                    rw [H7.out]
                    go_wp2_with fail
                    refine (rwithin_any _ _ _ _).mono ?_
                    rintro r w1 ⟨rfl, rfl⟩
                    rw [H8.out]
                    go_wp2_with fail
                    refine (rwithin_any _ _ _ _).mono ?_
                    rintro r w1 ⟨rfl, rfl⟩
                    rw [H9.out]
                    go_wp2_with fail
                    go_ret
                    refine ⟨by rw [HS.out]; rfl, ?_⟩
                    (try have hB0 := HB.out)
                    (repeat' (first | (with_reducible exact Below.refl _ _) | (with_reducible assumption) | (with_reducible refine Below.alloc ?_ ?_ _) | (with_reducible refine Below.drew ?_) | (with_reducible refine below_drewN ?_ _) | (with_reducible refine Below.setCell ?_ ?_ _) | (with_reducible refine below_setRow ?_ ?_ _) | go_size))
                · have HS := hid (show terB t0 t1 t2 t3 t4 t5 t6 t7 t8 t9 = false by simp [terB, h1, h2, h3, h4, h5, h6, h7, h8])
                  have H1 := hid h1
                  have H2 := hid h2
                  have H3 := hid h3
                  have H4 := hid h4
                  have H5 := hid h5
                  have H6 := hid h6
                  have H7 := hid h7
                  have H8 := hid (Bool.eq_false_iff.2 h8)
                  clear h1 h2 h3 h4 h5 h6 h7 h8
                  go_enter Try.func57, Try.ntmps57
                  go_wp2_with fail
                  refine (rwithin_any _ _ _ _).mono ?_
                  rintro r w1 ⟨rfl, rfl⟩
                  rw [H1.out]
                  go_wp2_with fail
                  refine (rwithin_any _ _ _ _).mono ?_
                  rintro r w1 ⟨rfl, rfl⟩
                  rw [H2.out]
                  go_wp2_with fail
                  refine (rwithin_any _ _ _ _).mono ?_
                  rintro r w1 ⟨rfl, rfl⟩
                  rw [H3.out]
                  go_wp2_with fail
                  refine (rwithin_any _ _ _ _).mono ?_
                  rintro r w1 ⟨rfl, rfl⟩
                  rw [H4.out]
                  go_wp2_with fail
                  refine (rwithin_any _ _ _ _).mono ?_
                  rintro r w1 ⟨rfl, rfl⟩
                  rw [H5.out]
                  go_wp2_with fail
                  refine (rwithin_any _ _ _ _).mono ?_
                  rintro r w1 ⟨rfl, rfl⟩
                  rw [H6.out]
                  go_wp2_with fail
                  refine (rwithin_any _ _ _ _).mono ?_
                  rintro r w1 ⟨rfl, rfl⟩
                  rw [H7.out]
                  go_wp2_with fail
                  refine (rwithin_any _ _ _ _).mono ?_
                  rintro r w1 ⟨rfl, rfl⟩
                  rw [H8.out]
                  go_wp2_with fail
                  go_ret
                  refine ⟨by rw [HS.out]; rfl, ?_⟩
                  (try have hB0 := HB.out)
                  (repeat' (first | (with_reducible exact Below.refl _ _) | (with_reducible assumption) | (with_reducible refine Below.alloc ?_ ?_ _) | (with_reducible refine Below.drew ?_) | (with_reducible refine below_drewN ?_ _) | (with_reducible refine Below.setCell ?_ ?_ _) | (with_reducible refine below_setRow ?_ ?_ _) | go_size))
              · have HS := hid (show terB t0 t1 t2 t3 t4 t5 t6 t7 t8 t9 = false by simp [terB, h1, h2, h3, h4, h5, h6, h7])
                have H1 := hid h1
                have H2 := hid h2
                have H3 := hid h3
                have H4 := hid h4
                have H5 := hid h5
                have H6 := hid h6
                have H7 := hid (Bool.eq_false_iff.2 h7)
                clear h1 h2 h3 h4 h5 h6 h7
                go_enter Try.func57, Try.ntmps57
                go_wp2_with fail
                refine (rwithin_any _ _ _ _).mono ?_
                rintro r w1 ⟨rfl, rfl⟩
                rw [H1.out]
                go_wp2_with fail
                refine (rwithin_any _ _ _ _).mono ?_
                rintro r w1 ⟨rfl, rfl⟩
                rw [H2.out]
                go_wp2_with fail
                refine (rwithin_any _ _ _ _).mono ?_
                rintro r w1 ⟨rfl, rfl⟩
                rw [H3.out]
                go_wp2_with fail
                refine (rwithin_any _ _ _ _).mono ?_
                rintro r w1 ⟨rfl, rfl⟩
                rw [H4.out]
                go_wp2_with fail
                refine (rwithin_any _ _ _ _).mono ?_
                rintro r w1 ⟨rfl, rfl⟩
                rw [H5.out]
                go_wp2_with fail
                refine (rwithin_any _ _ _ _).mono ?_
                rintro r w1 ⟨rfl, rfl⟩
                rw [H6.out]
                go_wp2_with fail
                refine (rwithin_any _ _ _ _).mono ?_
                rintro r w1 ⟨rfl, rfl⟩
                rw [H7.out]
                go_wp2_with fail
                go_ret
                refine ⟨by rw [HS.out]; rfl, ?_⟩
                (try have hB0 := HB.out)
                (repeat' (first | (with_reducible exact Below.refl _ _) | (with_reducible assumption) | (with_reducible refine Below.alloc ?_ ?_ _) | (with_reducible refine Below.drew ?_) | (with_reducible refine below_drewN ?_ _) | (with_reducible refine Below.setCell ?_ ?_ _) | (with_reducible refine below_setRow ?_ ?_ _) | go_size))
            · have HS := hid (show terB t0 t1 t2 t3 t4 t5 t6 t7 t8 t9 = false by simp [terB, h1, h2, h3, h4, h5, h6])
              have H1 := hid h1
              have H2 := hid h2
              have H3 := hid h3
              have H4 := hid h4
              have H5 := hid h5
              have H6 := hid (Bool.eq_false_iff.2 h6)
              clear h1 h2 h3 h4 h5 h6
              go_enter Try.func57, Try.ntmps57
              go_wp2_with fail
              refine (rwithin_any _ _ _ _).mono ?_
              rintro r w1 ⟨rfl, rfl⟩
              rw [H1.out]
              go_wp2_with fail
              refine (rwithin_any _ _ _ _).mono ?_
              rintro r w1 ⟨rfl, rfl⟩
              rw [H2.out]
              go_wp2_with fail
              refine (rwithin_any _ _ _ _).mono ?_
              rintro r w1 ⟨rfl, rfl⟩
              rw [H3.out]
              go_wp2_with fail
              refine (rwithin_any _ _ _ _).mono ?_
              rintro r w1 ⟨rfl, rfl⟩
              rw [H4.out]
              go_wp2_with fail
              refine (rwithin_any _ _ _ _).mono ?_
              rintro r w1 ⟨rfl, rfl⟩
              rw [H5.out]
              go_wp2_with fail
              refine (rwithin_any _ _ _ _).mono ?_
              rintro r w1 ⟨rfl, rfl⟩
              rw [H6.out]
              go_wp2_with fail
              go_ret
              refine ⟨by rw [HS.out]; rfl, ?_⟩
              (try have hB0 := HB.out)
              (repeat' (first | (with_reducible exact Below.refl _ _) | (with_reducible assumption) | (with_reducible refine Below.alloc ?_ ?_ _) | (with_reducible refine Below.drew ?_) | (with_reducible refine below_drewN ?_ _) | (with_reducible refine Below.setCell ?_ ?_ _) | (with_reducible refine below_setRow ?_ ?_ _) | go_size))
          · have HS := hid (show terB t0 t1 t2 t3 t4 t5 t6 t7 t8 t9 = false by simp [terB, h1, h2, h3, h4, h5])
            have H1 := hid h1
            have H2 := hid h2
            have H3 := hid h3
            have H4 := hid h4
            have H5 := hid (Bool.eq_false_iff.2 h5)
            clear h1 h2 h3 h4 h5
            go_enter Try.func57, Try.ntmps57
            go_wp2_with fail
            refine (rwithin_any _ _ _ _).mono ?_
            rintro r w1 ⟨rfl, rfl⟩
            rw [H1.out]
            go_wp2_with fail
            refine (rwithin_any _ _ _ _).mono ?_
            rintro r w1 ⟨rfl, rfl⟩
            rw [H2.out]
            go_wp2_with fail
            refine (rwithin_any _ _ _ _).mono ?_
            rintro r w1 ⟨rfl, rfl⟩
            rw [H3.out]
            go_wp2_with fail
            refine (rwithin_any _ _ _ _).mono ?_
            rintro r w1 ⟨rfl, rfl⟩
            rw [H4.out]
            go_wp2_with fail
            refine (rwithin_any _ _ _ _).mono ?_
            rintro r w1 ⟨rfl, rfl⟩
            rw [H5.out]
            go_wp2_with fail
            go_ret
            refine ⟨by rw [HS.out]; rfl, ?_⟩
            (try have hB0 := HB.out)
            (repeat' (first | (with_reducible exact Below.refl _ _) | (with_reducible assumption) | (with_reducible refine Below.alloc ?_ ?_ _) | (with_reducible refine Below.drew ?_) | (with_reducible refine below_drewN ?_ _) | (with_reducible refine Below.setCell ?_ ?_ _) | (with_reducible refine below_setRow ?_ ?_ _) | go_size))
        · have HS := hid (show terB t0 t1 t2 t3 t4 t5 t6 t7 t8 t9 = false by simp [terB, h1, h2, h3, h4])
          have H1 := hid h1
          have H2 := hid h2
          have H3 := hid h3
          have H4 := hid (Bool.eq_false_iff.2 h4)
          clear h1 h2 h3 h4
          go_enter Try.func57, Try.ntmps57
          go_wp2_with fail
          refine (rwithin_any _ _ _ _).mono ?_
          rintro r w1 ⟨rfl, rfl⟩
          rw [H1.out]
          go_wp2_with fail
          refine (rwithin_any _ _ _ _).mono ?_
          rintro r w1 ⟨rfl, rfl⟩
          rw [H2.out]
          go_wp2_with fail
          refine (rwithin_any _ _ _ _).mono ?_
          rintro r w1 ⟨rfl, rfl⟩
          rw [H3.out]
          go_wp2_with fail
          refine (rwithin_any _ _ _ _).mono ?_
          rintro r w1 ⟨rfl, rfl⟩
          rw [H4.out]
          go_wp2_with fail
          go_ret
          refine ⟨by rw [HS.out]; rfl, ?_⟩
          (try have hB0 := HB.out)
          (repeat' (first | (with_reducible exact Below.refl _ _) | (with_reducible assumption) | (with_reducible refine Below.alloc ?_ ?_ _) | (with_reducible refine Below.drew ?_) | (with_reducible refine below_drewN ?_ _) | (with_reducible refine Below.setCell ?_ ?_ _) | (with_reducible refine below_setRow ?_ ?_ _) | go_size))
      · have HS := hid (show terB t0 t1 t2 t3 t4 t5 t6 t7 t8 t9 = false by simp [terB, h1, h2, h3])
        have H1 := hid h1
        have H2 := hid h2
        have H3 := hid (Bool.eq_false_iff.2 h3)
        clear h1 h2 h3
        go_enter Try.func57, Try.ntmps57
        go_wp2_with fail
        refine (rwithin_any _ _ _ _).mono ?_
        rintro r w1 ⟨rfl, rfl⟩
        rw [H1.out]
        go_wp2_with fail
        refine (rwithin_any _ _ _ _).mono ?_
        rintro r w1 ⟨rfl, rfl⟩
        rw [H2.out]
        go_wp2_with fail
        refine (rwithin_any _ _ _ _).mono ?_
        rintro r w1 ⟨rfl, rfl⟩
        rw [H3.out]
        go_wp2_with fail
        go_ret
        refine ⟨by rw [HS.out]; rfl, ?_⟩
        (try have hB0 := HB.out)
        (repeat' (first | (with_reducible exact Below.refl _ _) | (with_reducible assumption) | (with_reducible refine Below.alloc ?_ ?_ _) | (with_reducible refine Below.drew ?_) | (with_reducible refine below_drewN ?_ _) | (with_reducible refine Below.setCell ?_ ?_ _) | (with_reducible refine below_setRow ?_ ?_ _) | go_size))
    · have HS := hid (show terB t0 t1 t2 t3 t4 t5 t6 t7 t8 t9 = false by simp [terB, h1, h2])
      have H1 := hid h1
      have H2 := hid (Bool.eq_false_iff.2 h2)
      clear h1 h2
      go_enter Try.func57, Try.ntmps57
      go_wp2_with fail
      refine (rwithin_any _ _ _ _).mono ?_
      rintro r w1 ⟨rfl, rfl⟩
      rw [H1.out]
      go_wp2_with fail
      refine (rwithin_any _ _ _ _).mono ?_
      rintro r w1 ⟨rfl, rfl⟩
      rw [H2.out]
      go_wp2_with fail
      go_ret
      refine ⟨by rw [HS.out]; rfl, ?_⟩
      (try have hB0 := HB.out)
      (repeat' (first | (with_reducible exact Below.refl _ _) | (with_reducible assumption) | (with_reducible refine Below.alloc ?_ ?_ _) | (with_reducible refine Below.drew ?_) | (with_reducible refine below_drewN ?_ _) | (with_reducible refine Below.setCell ?_ ?_ _) | (with_reducible refine below_setRow ?_ ?_ _) | go_size))
  · have HS := hid (show terB t0 t1 t2 t3 t4 t5 t6 t7 t8 t9 = false by simp [terB, h1])
    have H1 := hid (Bool.eq_false_iff.2 h1)
    clear h1
    go_enter Try.func57, Try.ntmps57
    go_wp2_with fail
    refine (rwithin_any _ _ _ _).mono ?_
    rintro r w1 ⟨rfl, rfl⟩
    rw [H1.out]
    go_wp2_with fail
    go_ret
    refine ⟨by rw [HS.out]; rfl, ?_⟩
    (try have hB0 := HB.out)
    (repeat' (first | (with_reducible exact Below.refl _ _) | (with_reducible assumption) | (with_reducible refine Below.alloc ?_ ?_ _) | (with_reducible refine Below.drew ?_) | (with_reducible refine below_drewN ?_ _) | (with_reducible refine Below.setCell ?_ ?_ _) | (with_reducible refine below_setRow ?_ ?_ _) | go_size))
theorem cfz57 : (Try.prog.info? 57).map (·.size) = some (List.replicate 4 (Value.int .i64 0)).length := by kernel_rfl
theorem cfz59 : (Try.prog.info? 59).map (·.size) = some (List.replicate 10 (Value.int .i64 0)).length := by kernel_rfl
def cfgB (a0 a1 a2 a3 d0 d1 d2 d3 m0 m1 m2 m3 t0 t1 t2 t3 t4 t5 t6 t7 t8 t9 : Int) : Bool := inB 1 8 a0 && inB 1 64 a1 && inB 1 64 a2 && decide (0 ≤ a3) && detB d0 d1 d2 d3 && rulesB m0 m1 m2 m3 && terB t0 t1 t2 t3 t4 t5 t6 t7 t8 t9
set_option maxRecDepth 100000 in
set_option maxHeartbeats 1600000 in
theorem xCfg_any (a0 a1 a2 a3 d0 d1 d2 d3 m0 m1 m2 m3 t0 t1 t2 t3 t4 t5 t6 t7 t8 t9 : Int) (w : World) :
    Calls Try.prog 18 #[.agg #[.int .i64 a0, .int .i64 a1, .int .i64 a2, .int .i64 a3, .int .i64 d0, .int .i64 d1, .int .i64 d2, .int .i64 d3, .int .i64 m0, .int .i64 m1, .int .i64 m2, .int .i64 m3, .int .i64 t0, .int .i64 t1, .int .i64 t2, .int .i64 t3, .int .i64 t4, .int .i64 t5, .int .i64 t6, .int .i64 t7, .int .i64 t8, .int .i64 t9]] w fun e w' => e = .returned (.bool (cfgB a0 a1 a2 a3 d0 d1 d2 d3 m0 m1 m2 m3 t0 t1 t2 t3 t4 t5 t6 t7 t8 t9)) ∧ Below w.heap.size w w' := by
  by_cases h1 : inB 1 8 a0 = true
  · by_cases h2 : inB 1 64 a1 = true
    · by_cases h3 : inB 1 64 a2 = true
      · by_cases h4 : decide (0 ≤ a3) = true
        · by_cases h5 : detB d0 d1 d2 d3 = true
          · by_cases h6 : rulesB m0 m1 m2 m3 = true
            · have HS := hid (show cfgB a0 a1 a2 a3 d0 d1 d2 d3 m0 m1 m2 m3 t0 t1 t2 t3 t4 t5 t6 t7 t8 t9 = terB t0 t1 t2 t3 t4 t5 t6 t7 t8 t9 by simp [cfgB, h1, h2, h3, h4, h5, h6])
              have H1 := hid h1
              have H2 := hid h2
              have H3 := hid h3
              have H4 := hid h4
              have H5 := hid h5
              have H6 := hid h6
              clear h1 h2 h3 h4 h5 h6
              have D4 := H4.out
              go_enter Try.func18, Try.ntmps18
              go_wp2_with fail
              refine (in_any _ _ _ _).mono ?_
              rintro r w1 ⟨rfl, rfl⟩
              rw [H1.out]
              go_wp2_with fail
              refine (in_any _ _ _ _).mono ?_
              rintro r w1 ⟨rfl, rfl⟩
              rw [H2.out]
              go_wp2_with fail
              refine (in_any _ _ _ _).mono ?_
              rintro r w1 ⟨rfl, rfl⟩
              rw [H3.out]
              go_wp2_with fail
              refine (xDet_any _ _ _ _ _).mono ?_
              rintro r w1 ⟨rfl, hb1⟩
              have K1 := hid (heap_still hb1 (heap_alloc_at w (.cells #[.int .i64 a0, .int .i64 a1, .int .i64 a2, .int .i64 a3, .int .i64 d0, .int .i64 d1, .int .i64 d2, .int .i64 d3, .int .i64 m0, .int .i64 m1, .int .i64 m2, .int .i64 m3, .int .i64 t0, .int .i64 t1, .int .i64 t2, .int .i64 t3, .int .i64 t4, .int .i64 t5, .int .i64 t6, .int .i64 t7, .int .i64 t8, .int .i64 t9] 61) _ rfl))
              have HB1 := hid (show Below w.heap.size w w1 from ((Below.refl _ _).alloc (Nat.le_refl _) _).trans (hb1.mono (by simp)))
              have HB := HB1
              clear hb1
              have q8 : w1.cell? ⟨w.heap.size, 8, none⟩ = some (.int .i64 m0) := (cell_row (j := 8) K1.out).trans rfl
              have q9 : w1.cell? ⟨w.heap.size, 9, none⟩ = some (.int .i64 m1) := (cell_row (j := 9) K1.out).trans rfl
              have q10 : w1.cell? ⟨w.heap.size, 10, none⟩ = some (.int .i64 m2) := (cell_row (j := 10) K1.out).trans rfl
              have q11 : w1.cell? ⟨w.heap.size, 11, none⟩ = some (.int .i64 m3) := (cell_row (j := 11) K1.out).trans rfl
              rw [H5.out]
              go_wp2_with fail
              refine (xRules_any _ _ _ _ _).mono ?_
              rintro r w2 ⟨rfl, hb2⟩
              have K2 := hid (heap_still hb2 K1.out)
              have HB2 := hid (show Below w.heap.size w w2 from HB1.out.trans (hb2.mono HB1.out.size))
              have HB := HB2
              clear hb2 q8 q9 q10 q11
              have q12 : w2.cell? ⟨w.heap.size, 12, none⟩ = some (.int .i64 t0) := (cell_row (j := 12) K2.out).trans rfl
              have q13 : w2.cell? ⟨w.heap.size, 13, none⟩ = some (.int .i64 t1) := (cell_row (j := 13) K2.out).trans rfl
              have q14 : w2.cell? ⟨w.heap.size, 14, none⟩ = some (.int .i64 t2) := (cell_row (j := 14) K2.out).trans rfl
              have q15 : w2.cell? ⟨w.heap.size, 15, none⟩ = some (.int .i64 t3) := (cell_row (j := 15) K2.out).trans rfl
              have q16 : w2.cell? ⟨w.heap.size, 16, none⟩ = some (.int .i64 t4) := (cell_row (j := 16) K2.out).trans rfl
              have q17 : w2.cell? ⟨w.heap.size, 17, none⟩ = some (.int .i64 t5) := (cell_row (j := 17) K2.out).trans rfl
              have q18 : w2.cell? ⟨w.heap.size, 18, none⟩ = some (.int .i64 t6) := (cell_row (j := 18) K2.out).trans rfl
              have q19 : w2.cell? ⟨w.heap.size, 19, none⟩ = some (.int .i64 t7) := (cell_row (j := 19) K2.out).trans rfl
              have q20 : w2.cell? ⟨w.heap.size, 20, none⟩ = some (.int .i64 t8) := (cell_row (j := 20) K2.out).trans rfl
              have q21 : w2.cell? ⟨w.heap.size, 21, none⟩ = some (.int .i64 t9) := (cell_row (j := 21) K2.out).trans rfl
              rw [H6.out]
              go_wp2_with fail
              refine (xTer_any _ _ _ _ _ _ _ _ _ _ _).mono ?_
              rintro r w3 ⟨rfl, hb3⟩
              have HB := hid (show Below w.heap.size w w3 from HB2.out.trans (hb3.mono HB2.out.size))
              clear hb3
              go_wp2_with fail
              go_ret
              refine ⟨by rw [HS.out]; rfl, ?_⟩
              (try have hB0 := HB.out)
              (repeat' (first | (with_reducible exact Below.refl _ _) | (with_reducible assumption) | (with_reducible refine Below.alloc ?_ ?_ _) | (with_reducible refine Below.drew ?_) | (with_reducible refine below_drewN ?_ _) | (with_reducible refine Below.setCell ?_ ?_ _) | (with_reducible refine below_setRow ?_ ?_ _) | go_size))
            · have HS := hid (show cfgB a0 a1 a2 a3 d0 d1 d2 d3 m0 m1 m2 m3 t0 t1 t2 t3 t4 t5 t6 t7 t8 t9 = false by simp [cfgB, h1, h2, h3, h4, h5, h6])
              have H1 := hid h1
              have H2 := hid h2
              have H3 := hid h3
              have H4 := hid h4
              have H5 := hid h5
              have H6 := hid (Bool.eq_false_iff.2 h6)
              clear h1 h2 h3 h4 h5 h6
              have D4 := H4.out
              go_enter Try.func18, Try.ntmps18
              go_wp2_with fail
              refine (in_any _ _ _ _).mono ?_
              rintro r w1 ⟨rfl, rfl⟩
              rw [H1.out]
              go_wp2_with fail
              refine (in_any _ _ _ _).mono ?_
              rintro r w1 ⟨rfl, rfl⟩
              rw [H2.out]
              go_wp2_with fail
              refine (in_any _ _ _ _).mono ?_
              rintro r w1 ⟨rfl, rfl⟩
              rw [H3.out]
              go_wp2_with fail
              refine (xDet_any _ _ _ _ _).mono ?_
              rintro r w1 ⟨rfl, hb1⟩
              have K1 := hid (heap_still hb1 (heap_alloc_at w (.cells #[.int .i64 a0, .int .i64 a1, .int .i64 a2, .int .i64 a3, .int .i64 d0, .int .i64 d1, .int .i64 d2, .int .i64 d3, .int .i64 m0, .int .i64 m1, .int .i64 m2, .int .i64 m3, .int .i64 t0, .int .i64 t1, .int .i64 t2, .int .i64 t3, .int .i64 t4, .int .i64 t5, .int .i64 t6, .int .i64 t7, .int .i64 t8, .int .i64 t9] 61) _ rfl))
              have HB1 := hid (show Below w.heap.size w w1 from ((Below.refl _ _).alloc (Nat.le_refl _) _).trans (hb1.mono (by simp)))
              have HB := HB1
              clear hb1
              have q8 : w1.cell? ⟨w.heap.size, 8, none⟩ = some (.int .i64 m0) := (cell_row (j := 8) K1.out).trans rfl
              have q9 : w1.cell? ⟨w.heap.size, 9, none⟩ = some (.int .i64 m1) := (cell_row (j := 9) K1.out).trans rfl
              have q10 : w1.cell? ⟨w.heap.size, 10, none⟩ = some (.int .i64 m2) := (cell_row (j := 10) K1.out).trans rfl
              have q11 : w1.cell? ⟨w.heap.size, 11, none⟩ = some (.int .i64 m3) := (cell_row (j := 11) K1.out).trans rfl
              rw [H5.out]
              go_wp2_with fail
              refine (xRules_any _ _ _ _ _).mono ?_
              rintro r w2 ⟨rfl, hb2⟩
              have K2 := hid (heap_still hb2 K1.out)
              have HB2 := hid (show Below w.heap.size w w2 from HB1.out.trans (hb2.mono HB1.out.size))
              have HB := HB2
              clear hb2 q8 q9 q10 q11
              have q12 : w2.cell? ⟨w.heap.size, 12, none⟩ = some (.int .i64 t0) := (cell_row (j := 12) K2.out).trans rfl
              have q13 : w2.cell? ⟨w.heap.size, 13, none⟩ = some (.int .i64 t1) := (cell_row (j := 13) K2.out).trans rfl
              have q14 : w2.cell? ⟨w.heap.size, 14, none⟩ = some (.int .i64 t2) := (cell_row (j := 14) K2.out).trans rfl
              have q15 : w2.cell? ⟨w.heap.size, 15, none⟩ = some (.int .i64 t3) := (cell_row (j := 15) K2.out).trans rfl
              have q16 : w2.cell? ⟨w.heap.size, 16, none⟩ = some (.int .i64 t4) := (cell_row (j := 16) K2.out).trans rfl
              have q17 : w2.cell? ⟨w.heap.size, 17, none⟩ = some (.int .i64 t5) := (cell_row (j := 17) K2.out).trans rfl
              have q18 : w2.cell? ⟨w.heap.size, 18, none⟩ = some (.int .i64 t6) := (cell_row (j := 18) K2.out).trans rfl
              have q19 : w2.cell? ⟨w.heap.size, 19, none⟩ = some (.int .i64 t7) := (cell_row (j := 19) K2.out).trans rfl
              have q20 : w2.cell? ⟨w.heap.size, 20, none⟩ = some (.int .i64 t8) := (cell_row (j := 20) K2.out).trans rfl
              have q21 : w2.cell? ⟨w.heap.size, 21, none⟩ = some (.int .i64 t9) := (cell_row (j := 21) K2.out).trans rfl
              rw [H6.out]
              go_wp2_with fail
              go_ret
              refine ⟨by rw [HS.out]; rfl, ?_⟩
              (try have hB0 := HB.out)
              (repeat' (first | (with_reducible exact Below.refl _ _) | (with_reducible assumption) | (with_reducible refine Below.alloc ?_ ?_ _) | (with_reducible refine Below.drew ?_) | (with_reducible refine below_drewN ?_ _) | (with_reducible refine Below.setCell ?_ ?_ _) | (with_reducible refine below_setRow ?_ ?_ _) | go_size))
          · have HS := hid (show cfgB a0 a1 a2 a3 d0 d1 d2 d3 m0 m1 m2 m3 t0 t1 t2 t3 t4 t5 t6 t7 t8 t9 = false by simp [cfgB, h1, h2, h3, h4, h5])
            have H1 := hid h1
            have H2 := hid h2
            have H3 := hid h3
            have H4 := hid h4
            have H5 := hid (Bool.eq_false_iff.2 h5)
            clear h1 h2 h3 h4 h5
            have D4 := H4.out
            go_enter Try.func18, Try.ntmps18
            go_wp2_with fail
            refine (in_any _ _ _ _).mono ?_
            rintro r w1 ⟨rfl, rfl⟩
            rw [H1.out]
            go_wp2_with fail
            refine (in_any _ _ _ _).mono ?_
            rintro r w1 ⟨rfl, rfl⟩
            rw [H2.out]
            go_wp2_with fail
            refine (in_any _ _ _ _).mono ?_
            rintro r w1 ⟨rfl, rfl⟩
            rw [H3.out]
            go_wp2_with fail
            refine (xDet_any _ _ _ _ _).mono ?_
            rintro r w1 ⟨rfl, hb1⟩
            have K1 := hid (heap_still hb1 (heap_alloc_at w (.cells #[.int .i64 a0, .int .i64 a1, .int .i64 a2, .int .i64 a3, .int .i64 d0, .int .i64 d1, .int .i64 d2, .int .i64 d3, .int .i64 m0, .int .i64 m1, .int .i64 m2, .int .i64 m3, .int .i64 t0, .int .i64 t1, .int .i64 t2, .int .i64 t3, .int .i64 t4, .int .i64 t5, .int .i64 t6, .int .i64 t7, .int .i64 t8, .int .i64 t9] 61) _ rfl))
            have HB1 := hid (show Below w.heap.size w w1 from ((Below.refl _ _).alloc (Nat.le_refl _) _).trans (hb1.mono (by simp)))
            have HB := HB1
            clear hb1
            have q8 : w1.cell? ⟨w.heap.size, 8, none⟩ = some (.int .i64 m0) := (cell_row (j := 8) K1.out).trans rfl
            have q9 : w1.cell? ⟨w.heap.size, 9, none⟩ = some (.int .i64 m1) := (cell_row (j := 9) K1.out).trans rfl
            have q10 : w1.cell? ⟨w.heap.size, 10, none⟩ = some (.int .i64 m2) := (cell_row (j := 10) K1.out).trans rfl
            have q11 : w1.cell? ⟨w.heap.size, 11, none⟩ = some (.int .i64 m3) := (cell_row (j := 11) K1.out).trans rfl
            rw [H5.out]
            go_wp2_with fail
            go_ret
            refine ⟨by rw [HS.out]; rfl, ?_⟩
            (try have hB0 := HB.out)
            (repeat' (first | (with_reducible exact Below.refl _ _) | (with_reducible assumption) | (with_reducible refine Below.alloc ?_ ?_ _) | (with_reducible refine Below.drew ?_) | (with_reducible refine below_drewN ?_ _) | (with_reducible refine Below.setCell ?_ ?_ _) | (with_reducible refine below_setRow ?_ ?_ _) | go_size))
        · have HS := hid (show cfgB a0 a1 a2 a3 d0 d1 d2 d3 m0 m1 m2 m3 t0 t1 t2 t3 t4 t5 t6 t7 t8 t9 = false by simp [cfgB, h1, h2, h3, h4])
          have H1 := hid h1
          have H2 := hid h2
          have H3 := hid h3
          have H4 := hid (Bool.eq_false_iff.2 h4)
          clear h1 h2 h3 h4
          have D4 := H4.out
          go_enter Try.func18, Try.ntmps18
          go_wp2_with fail
          refine (in_any _ _ _ _).mono ?_
          rintro r w1 ⟨rfl, rfl⟩
          rw [H1.out]
          go_wp2_with fail
          refine (in_any _ _ _ _).mono ?_
          rintro r w1 ⟨rfl, rfl⟩
          rw [H2.out]
          go_wp2_with fail
          refine (in_any _ _ _ _).mono ?_
          rintro r w1 ⟨rfl, rfl⟩
          rw [H3.out]
          go_wp2_with fail
          go_ret
          refine ⟨by rw [HS.out]; rfl, ?_⟩
          (try have hB0 := HB.out)
          (repeat' (first | (with_reducible exact Below.refl _ _) | (with_reducible assumption) | (with_reducible refine Below.alloc ?_ ?_ _) | (with_reducible refine Below.drew ?_) | (with_reducible refine below_drewN ?_ _) | (with_reducible refine Below.setCell ?_ ?_ _) | (with_reducible refine below_setRow ?_ ?_ _) | go_size))
      · have HS := hid (show cfgB a0 a1 a2 a3 d0 d1 d2 d3 m0 m1 m2 m3 t0 t1 t2 t3 t4 t5 t6 t7 t8 t9 = false by simp [cfgB, h1, h2, h3])
        have H1 := hid h1
        have H2 := hid h2
        have H3 := hid (Bool.eq_false_iff.2 h3)
        clear h1 h2 h3
        go_enter Try.func18, Try.ntmps18
        go_wp2_with fail
        refine (in_any _ _ _ _).mono ?_
        rintro r w1 ⟨rfl, rfl⟩
        rw [H1.out]
        go_wp2_with fail
        refine (in_any _ _ _ _).mono ?_
        rintro r w1 ⟨rfl, rfl⟩
        rw [H2.out]
        go_wp2_with fail
        refine (in_any _ _ _ _).mono ?_
        rintro r w1 ⟨rfl, rfl⟩
        rw [H3.out]
        go_wp2_with fail
        go_ret
        refine ⟨by rw [HS.out]; rfl, ?_⟩
        (try have hB0 := HB.out)
        (repeat' (first | (with_reducible exact Below.refl _ _) | (with_reducible assumption) | (with_reducible refine Below.alloc ?_ ?_ _) | (with_reducible refine Below.drew ?_) | (with_reducible refine below_drewN ?_ _) | (with_reducible refine Below.setCell ?_ ?_ _) | (with_reducible refine below_setRow ?_ ?_ _) | go_size))
    · have HS := hid (show cfgB a0 a1 a2 a3 d0 d1 d2 d3 m0 m1 m2 m3 t0 t1 t2 t3 t4 t5 t6 t7 t8 t9 = false by simp [cfgB, h1, h2])
      have H1 := hid h1
      have H2 := hid (Bool.eq_false_iff.2 h2)
      clear h1 h2
      go_enter Try.func18, Try.ntmps18
      go_wp2_with fail
      refine (in_any _ _ _ _).mono ?_
      rintro r w1 ⟨rfl, rfl⟩
      rw [H1.out]
      go_wp2_with fail
      refine (in_any _ _ _ _).mono ?_
      rintro r w1 ⟨rfl, rfl⟩
      rw [H2.out]
      go_wp2_with fail
      go_ret
      refine ⟨by rw [HS.out]; rfl, ?_⟩
      (try have hB0 := HB.out)
      (repeat' (first | (with_reducible exact Below.refl _ _) | (with_reducible assumption) | (with_reducible refine Below.alloc ?_ ?_ _) | (with_reducible refine Below.drew ?_) | (with_reducible refine below_drewN ?_ _) | (with_reducible refine Below.setCell ?_ ?_ _) | (with_reducible refine below_setRow ?_ ?_ _) | go_size))
  · have HS := hid (show cfgB a0 a1 a2 a3 d0 d1 d2 d3 m0 m1 m2 m3 t0 t1 t2 t3 t4 t5 t6 t7 t8 t9 = false by simp [cfgB, h1])
    have H1 := hid (Bool.eq_false_iff.2 h1)
    clear h1
    go_enter Try.func18, Try.ntmps18
    go_wp2_with fail
    refine (in_any _ _ _ _).mono ?_
    rintro r w1 ⟨rfl, rfl⟩
    rw [H1.out]
    go_wp2_with fail
    go_ret
    refine ⟨by rw [HS.out]; rfl, ?_⟩
    (try have hB0 := HB.out)
    (repeat' (first | (with_reducible exact Below.refl _ _) | (with_reducible assumption) | (with_reducible refine Below.alloc ?_ ?_ _) | (with_reducible refine Below.drew ?_) | (with_reducible refine below_drewN ?_ _) | (with_reducible refine Below.setCell ?_ ?_ _) | (with_reducible refine below_setRow ?_ ?_ _) | go_size))
set_option maxRecDepth 100000 in
set_option maxHeartbeats 1600000 in
theorem rCfg_any (a0 a1 a2 a3 d0 d1 d2 d3 m0 m1 m2 m3 t0 t1 t2 t3 t4 t5 t6 t7 t8 t9 : Int) (w : World) :
    Calls Try.prog 19 #[.agg #[.int .i64 a0, .int .i64 a1, .int .i64 a2, .int .i64 a3, .int .i64 d0, .int .i64 d1, .int .i64 d2, .int .i64 d3, .int .i64 m0, .int .i64 m1, .int .i64 m2, .int .i64 m3, .int .i64 t0, .int .i64 t1, .int .i64 t2, .int .i64 t3, .int .i64 t4, .int .i64 t5, .int .i64 t6, .int .i64 t7, .int .i64 t8, .int .i64 t9]] w fun e w' => e = .returned (.bool (cfgB a0 a1 a2 a3 d0 d1 d2 d3 m0 m1 m2 m3 t0 t1 t2 t3 t4 t5 t6 t7 t8 t9)) ∧ Below w.heap.size w w' := by
  by_cases h1 : inB 1 8 a0 = true
  · by_cases h2 : inB 1 64 a1 = true
    · by_cases h3 : inB 1 64 a2 = true
      · by_cases h4 : decide (0 ≤ a3) = true
        · by_cases h5 : detB d0 d1 d2 d3 = true
          · by_cases h6 : rulesB m0 m1 m2 m3 = true
            · have HS := hid (show cfgB a0 a1 a2 a3 d0 d1 d2 d3 m0 m1 m2 m3 t0 t1 t2 t3 t4 t5 t6 t7 t8 t9 = terB t0 t1 t2 t3 t4 t5 t6 t7 t8 t9 by simp [cfgB, h1, h2, h3, h4, h5, h6])
              have H1 := hid h1
              have H2 := hid h2
              have H3 := hid h3
              have H4 := hid h4
              have H5 := hid h5
              have H6 := hid h6
              clear h1 h2 h3 h4 h5 h6
              have D4 := H4.out
              go_enter Try.func19, Try.ntmps19
              go_wp2_with fail
              refine (rfrom_any _ _ _ _).mono ?_
              rintro r w1 ⟨rfl, rfl⟩
              rw [H1.out]
              go_wp2_with fail
              refine (rfrom_any _ _ _ _).mono ?_
              rintro r w1 ⟨rfl, rfl⟩
              rw [H2.out]
              go_wp2_with fail
              refine (rfrom_any _ _ _ _).mono ?_
              rintro r w1 ⟨rfl, rfl⟩
              rw [H3.out]
              go_wp2_with fail
              refine (rDet_any _ _ _ _ _).mono ?_
              rintro r w1 ⟨rfl, hb1⟩
              have K1 := hid (heap_still hb1 (heap_alloc_at w (.cells #[.int .i64 a0, .int .i64 a1, .int .i64 a2, .int .i64 a3, .int .i64 d0, .int .i64 d1, .int .i64 d2, .int .i64 d3, .int .i64 m0, .int .i64 m1, .int .i64 m2, .int .i64 m3, .int .i64 t0, .int .i64 t1, .int .i64 t2, .int .i64 t3, .int .i64 t4, .int .i64 t5, .int .i64 t6, .int .i64 t7, .int .i64 t8, .int .i64 t9] 61) _ rfl))
              have HB1 := hid (show Below w.heap.size w w1 from ((Below.refl _ _).alloc (Nat.le_refl _) _).trans (hb1.mono (by simp)))
              have HB := HB1
              clear hb1
              have q8 : w1.cell? ⟨w.heap.size, 8, none⟩ = some (.int .i64 m0) := (cell_row (j := 8) K1.out).trans rfl
              have q9 : w1.cell? ⟨w.heap.size, 9, none⟩ = some (.int .i64 m1) := (cell_row (j := 9) K1.out).trans rfl
              have q10 : w1.cell? ⟨w.heap.size, 10, none⟩ = some (.int .i64 m2) := (cell_row (j := 10) K1.out).trans rfl
              have q11 : w1.cell? ⟨w.heap.size, 11, none⟩ = some (.int .i64 m3) := (cell_row (j := 11) K1.out).trans rfl
              rw [H5.out]
              go_wp2_with fail
              refine (rRules_any _ _ _ _ _).mono ?_
              rintro r w2 ⟨rfl, hb2⟩
              have K2 := hid (heap_still hb2 K1.out)
              have HB2 := hid (show Below w.heap.size w w2 from HB1.out.trans (hb2.mono HB1.out.size))
              have HB := HB2
              clear hb2 q8 q9 q10 q11
              have q12 : w2.cell? ⟨w.heap.size, 12, none⟩ = some (.int .i64 t0) := (cell_row (j := 12) K2.out).trans rfl
              have q13 : w2.cell? ⟨w.heap.size, 13, none⟩ = some (.int .i64 t1) := (cell_row (j := 13) K2.out).trans rfl
              have q14 : w2.cell? ⟨w.heap.size, 14, none⟩ = some (.int .i64 t2) := (cell_row (j := 14) K2.out).trans rfl
              have q15 : w2.cell? ⟨w.heap.size, 15, none⟩ = some (.int .i64 t3) := (cell_row (j := 15) K2.out).trans rfl
              have q16 : w2.cell? ⟨w.heap.size, 16, none⟩ = some (.int .i64 t4) := (cell_row (j := 16) K2.out).trans rfl
              have q17 : w2.cell? ⟨w.heap.size, 17, none⟩ = some (.int .i64 t5) := (cell_row (j := 17) K2.out).trans rfl
              have q18 : w2.cell? ⟨w.heap.size, 18, none⟩ = some (.int .i64 t6) := (cell_row (j := 18) K2.out).trans rfl
              have q19 : w2.cell? ⟨w.heap.size, 19, none⟩ = some (.int .i64 t7) := (cell_row (j := 19) K2.out).trans rfl
              have q20 : w2.cell? ⟨w.heap.size, 20, none⟩ = some (.int .i64 t8) := (cell_row (j := 20) K2.out).trans rfl
              have q21 : w2.cell? ⟨w.heap.size, 21, none⟩ = some (.int .i64 t9) := (cell_row (j := 21) K2.out).trans rfl
              rw [H6.out]
              go_wp2_with fail
              refine (rTer_any _ _ _ _ _ _ _ _ _ _ _).mono ?_
              rintro r w3 ⟨rfl, hb3⟩
              have HB := hid (show Below w.heap.size w w3 from HB2.out.trans (hb3.mono HB2.out.size))
              clear hb3
              go_wp2_with fail
              go_ret
              refine ⟨by rw [HS.out]; rfl, ?_⟩
              (try have hB0 := HB.out)
              (repeat' (first | (with_reducible exact Below.refl _ _) | (with_reducible assumption) | (with_reducible refine Below.alloc ?_ ?_ _) | (with_reducible refine Below.drew ?_) | (with_reducible refine below_drewN ?_ _) | (with_reducible refine Below.setCell ?_ ?_ _) | (with_reducible refine below_setRow ?_ ?_ _) | go_size))
            · have HS := hid (show cfgB a0 a1 a2 a3 d0 d1 d2 d3 m0 m1 m2 m3 t0 t1 t2 t3 t4 t5 t6 t7 t8 t9 = false by simp [cfgB, h1, h2, h3, h4, h5, h6])
              have H1 := hid h1
              have H2 := hid h2
              have H3 := hid h3
              have H4 := hid h4
              have H5 := hid h5
              have H6 := hid (Bool.eq_false_iff.2 h6)
              clear h1 h2 h3 h4 h5 h6
              have D4 := H4.out
              go_enter Try.func19, Try.ntmps19
              go_wp2_with fail
              refine (rfrom_any _ _ _ _).mono ?_
              rintro r w1 ⟨rfl, rfl⟩
              rw [H1.out]
              go_wp2_with fail
              refine (rfrom_any _ _ _ _).mono ?_
              rintro r w1 ⟨rfl, rfl⟩
              rw [H2.out]
              go_wp2_with fail
              refine (rfrom_any _ _ _ _).mono ?_
              rintro r w1 ⟨rfl, rfl⟩
              rw [H3.out]
              go_wp2_with fail
              refine (rDet_any _ _ _ _ _).mono ?_
              rintro r w1 ⟨rfl, hb1⟩
              have K1 := hid (heap_still hb1 (heap_alloc_at w (.cells #[.int .i64 a0, .int .i64 a1, .int .i64 a2, .int .i64 a3, .int .i64 d0, .int .i64 d1, .int .i64 d2, .int .i64 d3, .int .i64 m0, .int .i64 m1, .int .i64 m2, .int .i64 m3, .int .i64 t0, .int .i64 t1, .int .i64 t2, .int .i64 t3, .int .i64 t4, .int .i64 t5, .int .i64 t6, .int .i64 t7, .int .i64 t8, .int .i64 t9] 61) _ rfl))
              have HB1 := hid (show Below w.heap.size w w1 from ((Below.refl _ _).alloc (Nat.le_refl _) _).trans (hb1.mono (by simp)))
              have HB := HB1
              clear hb1
              have q8 : w1.cell? ⟨w.heap.size, 8, none⟩ = some (.int .i64 m0) := (cell_row (j := 8) K1.out).trans rfl
              have q9 : w1.cell? ⟨w.heap.size, 9, none⟩ = some (.int .i64 m1) := (cell_row (j := 9) K1.out).trans rfl
              have q10 : w1.cell? ⟨w.heap.size, 10, none⟩ = some (.int .i64 m2) := (cell_row (j := 10) K1.out).trans rfl
              have q11 : w1.cell? ⟨w.heap.size, 11, none⟩ = some (.int .i64 m3) := (cell_row (j := 11) K1.out).trans rfl
              rw [H5.out]
              go_wp2_with fail
              refine (rRules_any _ _ _ _ _).mono ?_
              rintro r w2 ⟨rfl, hb2⟩
              have K2 := hid (heap_still hb2 K1.out)
              have HB2 := hid (show Below w.heap.size w w2 from HB1.out.trans (hb2.mono HB1.out.size))
              have HB := HB2
              clear hb2 q8 q9 q10 q11
              have q12 : w2.cell? ⟨w.heap.size, 12, none⟩ = some (.int .i64 t0) := (cell_row (j := 12) K2.out).trans rfl
              have q13 : w2.cell? ⟨w.heap.size, 13, none⟩ = some (.int .i64 t1) := (cell_row (j := 13) K2.out).trans rfl
              have q14 : w2.cell? ⟨w.heap.size, 14, none⟩ = some (.int .i64 t2) := (cell_row (j := 14) K2.out).trans rfl
              have q15 : w2.cell? ⟨w.heap.size, 15, none⟩ = some (.int .i64 t3) := (cell_row (j := 15) K2.out).trans rfl
              have q16 : w2.cell? ⟨w.heap.size, 16, none⟩ = some (.int .i64 t4) := (cell_row (j := 16) K2.out).trans rfl
              have q17 : w2.cell? ⟨w.heap.size, 17, none⟩ = some (.int .i64 t5) := (cell_row (j := 17) K2.out).trans rfl
              have q18 : w2.cell? ⟨w.heap.size, 18, none⟩ = some (.int .i64 t6) := (cell_row (j := 18) K2.out).trans rfl
              have q19 : w2.cell? ⟨w.heap.size, 19, none⟩ = some (.int .i64 t7) := (cell_row (j := 19) K2.out).trans rfl
              have q20 : w2.cell? ⟨w.heap.size, 20, none⟩ = some (.int .i64 t8) := (cell_row (j := 20) K2.out).trans rfl
              have q21 : w2.cell? ⟨w.heap.size, 21, none⟩ = some (.int .i64 t9) := (cell_row (j := 21) K2.out).trans rfl
              rw [H6.out]
              go_wp2_with fail
              go_ret
              refine ⟨by rw [HS.out]; rfl, ?_⟩
              (try have hB0 := HB.out)
              (repeat' (first | (with_reducible exact Below.refl _ _) | (with_reducible assumption) | (with_reducible refine Below.alloc ?_ ?_ _) | (with_reducible refine Below.drew ?_) | (with_reducible refine below_drewN ?_ _) | (with_reducible refine Below.setCell ?_ ?_ _) | (with_reducible refine below_setRow ?_ ?_ _) | go_size))
          · have HS := hid (show cfgB a0 a1 a2 a3 d0 d1 d2 d3 m0 m1 m2 m3 t0 t1 t2 t3 t4 t5 t6 t7 t8 t9 = false by simp [cfgB, h1, h2, h3, h4, h5])
            have H1 := hid h1
            have H2 := hid h2
            have H3 := hid h3
            have H4 := hid h4
            have H5 := hid (Bool.eq_false_iff.2 h5)
            clear h1 h2 h3 h4 h5
            have D4 := H4.out
            go_enter Try.func19, Try.ntmps19
            go_wp2_with fail
            refine (rfrom_any _ _ _ _).mono ?_
            rintro r w1 ⟨rfl, rfl⟩
            rw [H1.out]
            go_wp2_with fail
            refine (rfrom_any _ _ _ _).mono ?_
            rintro r w1 ⟨rfl, rfl⟩
            rw [H2.out]
            go_wp2_with fail
            refine (rfrom_any _ _ _ _).mono ?_
            rintro r w1 ⟨rfl, rfl⟩
            rw [H3.out]
            go_wp2_with fail
            refine (rDet_any _ _ _ _ _).mono ?_
            rintro r w1 ⟨rfl, hb1⟩
            have K1 := hid (heap_still hb1 (heap_alloc_at w (.cells #[.int .i64 a0, .int .i64 a1, .int .i64 a2, .int .i64 a3, .int .i64 d0, .int .i64 d1, .int .i64 d2, .int .i64 d3, .int .i64 m0, .int .i64 m1, .int .i64 m2, .int .i64 m3, .int .i64 t0, .int .i64 t1, .int .i64 t2, .int .i64 t3, .int .i64 t4, .int .i64 t5, .int .i64 t6, .int .i64 t7, .int .i64 t8, .int .i64 t9] 61) _ rfl))
            have HB1 := hid (show Below w.heap.size w w1 from ((Below.refl _ _).alloc (Nat.le_refl _) _).trans (hb1.mono (by simp)))
            have HB := HB1
            clear hb1
            have q8 : w1.cell? ⟨w.heap.size, 8, none⟩ = some (.int .i64 m0) := (cell_row (j := 8) K1.out).trans rfl
            have q9 : w1.cell? ⟨w.heap.size, 9, none⟩ = some (.int .i64 m1) := (cell_row (j := 9) K1.out).trans rfl
            have q10 : w1.cell? ⟨w.heap.size, 10, none⟩ = some (.int .i64 m2) := (cell_row (j := 10) K1.out).trans rfl
            have q11 : w1.cell? ⟨w.heap.size, 11, none⟩ = some (.int .i64 m3) := (cell_row (j := 11) K1.out).trans rfl
            rw [H5.out]
            go_wp2_with fail
            go_ret
            refine ⟨by rw [HS.out]; rfl, ?_⟩
            (try have hB0 := HB.out)
            (repeat' (first | (with_reducible exact Below.refl _ _) | (with_reducible assumption) | (with_reducible refine Below.alloc ?_ ?_ _) | (with_reducible refine Below.drew ?_) | (with_reducible refine below_drewN ?_ _) | (with_reducible refine Below.setCell ?_ ?_ _) | (with_reducible refine below_setRow ?_ ?_ _) | go_size))
        · have HS := hid (show cfgB a0 a1 a2 a3 d0 d1 d2 d3 m0 m1 m2 m3 t0 t1 t2 t3 t4 t5 t6 t7 t8 t9 = false by simp [cfgB, h1, h2, h3, h4])
          have H1 := hid h1
          have H2 := hid h2
          have H3 := hid h3
          have H4 := hid (Bool.eq_false_iff.2 h4)
          clear h1 h2 h3 h4
          have D4 := H4.out
          go_enter Try.func19, Try.ntmps19
          go_wp2_with fail
          refine (rfrom_any _ _ _ _).mono ?_
          rintro r w1 ⟨rfl, rfl⟩
          rw [H1.out]
          go_wp2_with fail
          refine (rfrom_any _ _ _ _).mono ?_
          rintro r w1 ⟨rfl, rfl⟩
          rw [H2.out]
          go_wp2_with fail
          refine (rfrom_any _ _ _ _).mono ?_
          rintro r w1 ⟨rfl, rfl⟩
          rw [H3.out]
          go_wp2_with fail
          go_ret
          refine ⟨by rw [HS.out]; rfl, ?_⟩
          (try have hB0 := HB.out)
          (repeat' (first | (with_reducible exact Below.refl _ _) | (with_reducible assumption) | (with_reducible refine Below.alloc ?_ ?_ _) | (with_reducible refine Below.drew ?_) | (with_reducible refine below_drewN ?_ _) | (with_reducible refine Below.setCell ?_ ?_ _) | (with_reducible refine below_setRow ?_ ?_ _) | go_size))
      · have HS := hid (show cfgB a0 a1 a2 a3 d0 d1 d2 d3 m0 m1 m2 m3 t0 t1 t2 t3 t4 t5 t6 t7 t8 t9 = false by simp [cfgB, h1, h2, h3])
        have H1 := hid h1
        have H2 := hid h2
        have H3 := hid (Bool.eq_false_iff.2 h3)
        clear h1 h2 h3
        go_enter Try.func19, Try.ntmps19
        go_wp2_with fail
        refine (rfrom_any _ _ _ _).mono ?_
        rintro r w1 ⟨rfl, rfl⟩
        rw [H1.out]
        go_wp2_with fail
        refine (rfrom_any _ _ _ _).mono ?_
        rintro r w1 ⟨rfl, rfl⟩
        rw [H2.out]
        go_wp2_with fail
        refine (rfrom_any _ _ _ _).mono ?_
        rintro r w1 ⟨rfl, rfl⟩
        rw [H3.out]
        go_wp2_with fail
        go_ret
        refine ⟨by rw [HS.out]; rfl, ?_⟩
        (try have hB0 := HB.out)
        (repeat' (first | (with_reducible exact Below.refl _ _) | (with_reducible assumption) | (with_reducible refine Below.alloc ?_ ?_ _) | (with_reducible refine Below.drew ?_) | (with_reducible refine below_drewN ?_ _) | (with_reducible refine Below.setCell ?_ ?_ _) | (with_reducible refine below_setRow ?_ ?_ _) | go_size))
    · have HS := hid (show cfgB a0 a1 a2 a3 d0 d1 d2 d3 m0 m1 m2 m3 t0 t1 t2 t3 t4 t5 t6 t7 t8 t9 = false by simp [cfgB, h1, h2])
      have H1 := hid h1
      have H2 := hid (Bool.eq_false_iff.2 h2)
      clear h1 h2
      go_enter Try.func19, Try.ntmps19
      go_wp2_with fail
      refine (rfrom_any _ _ _ _).mono ?_
      rintro r w1 ⟨rfl, rfl⟩
      rw [H1.out]
      go_wp2_with fail
      refine (rfrom_any _ _ _ _).mono ?_
      rintro r w1 ⟨rfl, rfl⟩
      rw [H2.out]
      go_wp2_with fail
      go_ret
      refine ⟨by rw [HS.out]; rfl, ?_⟩
      (try have hB0 := HB.out)
      (repeat' (first | (with_reducible exact Below.refl _ _) | (with_reducible assumption) | (with_reducible refine Below.alloc ?_ ?_ _) | (with_reducible refine Below.drew ?_) | (with_reducible refine below_drewN ?_ _) | (with_reducible refine Below.setCell ?_ ?_ _) | (with_reducible refine below_setRow ?_ ?_ _) | go_size))
  · have HS := hid (show cfgB a0 a1 a2 a3 d0 d1 d2 d3 m0 m1 m2 m3 t0 t1 t2 t3 t4 t5 t6 t7 t8 t9 = false by simp [cfgB, h1])
    have H1 := hid (Bool.eq_false_iff.2 h1)
    clear h1
    go_enter Try.func19, Try.ntmps19
    go_wp2_with fail
    refine (rfrom_any _ _ _ _).mono ?_
    rintro r w1 ⟨rfl, rfl⟩
    rw [H1.out]
    go_wp2_with fail
    go_ret
    refine ⟨by rw [HS.out]; rfl, ?_⟩
    (try have hB0 := HB.out)
    (repeat' (first | (with_reducible exact Below.refl _ _) | (with_reducible assumption) | (with_reducible refine Below.alloc ?_ ?_ _) | (with_reducible refine Below.drew ?_) | (with_reducible refine below_drewN ?_ _) | (with_reducible refine Below.setCell ?_ ?_ _) | (with_reducible refine below_setRow ?_ ?_ _) | go_size))
end Go.Proofs.Ytpablkmdpoombaa
