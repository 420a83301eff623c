/- Which keys are valid, and the cell above a key: what the program and its reference return. -/
import Derived.Test.YteanlcefdoigcaaCell
namespace Go.Proofs.Yteanlcefdoigcaa
open Go.RowKit

/-- 2 to the power of a level -/
def powL (L : Int) : Int := 2 ^ L.toNat
theorem powL_bd {L : Int} (h : 0 ≤ L ∧ L ≤ 12) : 1 ≤ powL L ∧ powL L ≤ 4096 := by
  obtain ⟨l, rfl⟩ := Int.eq_ofNat_of_zero_le h.1
  match l, h.2 with
  | 0, _ | 1, _ | 2, _ | 3, _ | 4, _ | 5, _ | 6, _ | 7, _ | 8, _ | 9, _ | 10, _ | 11, _ | 12, _ => decide
  | l + 13, h => omega
theorem shl_u {L : Int} (h : 0 ≤ L ∧ L ≤ 12) : binOp .shl 3 (.int .i64 1) (.int .u64 L) = pure (.int .i64 (powL L)) := by
  obtain ⟨l, rfl⟩ := Int.eq_ofNat_of_zero_le h.1
  match l, h.2 with
  | 0, _ | 1, _ | 2, _ | 3, _ | 4, _ | 5, _ | 6, _ | 7, _ | 8, _ | 9, _ | 10, _ | 11, _ | 12, _ => rfl
  | l + 13, h => omega
theorem shl_i {L : Int} (h : 0 ≤ L ∧ L ≤ 12) : binOp .shl 3 (.int .i64 1) (.int .i64 L) = pure (.int .i64 (powL L)) := by
  obtain ⟨l, rfl⟩ := Int.eq_ofNat_of_zero_le h.1
  match l, h.2 with
  | 0, _ | 1, _ | 2, _ | 3, _ | 4, _ | 5, _ | 6, _ | 7, _ | 8, _ | 9, _ | 10, _ | 11, _ | 12, _ => rfl
  | l + 13, h => omega
def keyB (L x y z : Int) : Bool := inB 0 12 L && (inB 0 (powL L - 1) x && inB 0 (powL L - 1) y && inB 0 (powL L - 1) z)
theorem keyB_bad {L x y z : Int} (h : ¬ (0 ≤ L ∧ L ≤ 12)) : keyB L x y z = false := by
  unfold keyB
  rw [show inB 0 12 L = false by simp [inB]; omega]
  rfl
theorem index3_0 (a b c : Int) (w : World) : (Instr.index 135 (.agg #[.int .i64 a, .int .i64 b, .int .i64 c]) (.int .i64 0)).run Try.prog w = .ok (.int .i64 a) w := by kernel_rfl
theorem index3_1 (a b c : Int) (w : World) : (Instr.index 135 (.agg #[.int .i64 a, .int .i64 b, .int .i64 c]) (.int .i64 1)).run Try.prog w = .ok (.int .i64 b) w := by kernel_rfl
theorem index3_2 (a b c : Int) (w : World) : (Instr.index 135 (.agg #[.int .i64 a, .int .i64 b, .int .i64 c]) (.int .i64 2)).run Try.prog w = .ok (.int .i64 c) w := by kernel_rfl
set_option maxRecDepth 100000 in
theorem xKey_any (L x y z : Int) (w : World) :
    Calls Try.prog 54 #[.agg #[.int .i64 L, .int .i64 x, .int .i64 y, .int .i64 z]] w fun e w' => e = .returned (.bool (keyB L x y z)) ∧ Below w.heap.size w w' := by
  by_cases hL : 0 ≤ L ∧ L ≤ 12
  · have hsh := shl_u hL
    have hpb := powL_bd hL
    obtain ⟨p, hp⟩ : ∃ p, p = powL L := ⟨_, rfl⟩
    rw [← hp] at hsh hpb
    have HPP := hid hp
    clear hp
    have hi0 := index3_0 x y z
    have hi1 := index3_1 x y z
    have hi2 := index3_2 x y z
    go_enter Try.func54, Try.ntmps54
    go_wp2_with fail
    refine wp_loop_rounds 4 ?_
    rw [rounds_succ]
    by_cases lx : x < 0
    · have HV := hid (show keyB L x y z = false by unfold keyB; rw [show inB 0 (powL L - 1) x = false by simp [inB]; omega]; simp)
      go_wp2_with fail
      go_ret
      exact ⟨by rw [HV.out]; rfl, by (repeat' (first | (with_reducible exact Below.refl _ _) | (with_reducible assumption) | (with_reducible refine Below.alloc ?_ ?_ _) | (with_reducible refine Below.drew ?_) | (with_reducible refine below_drewN ?_ _) | (with_reducible refine Below.setCell ?_ ?_ _) | (with_reducible refine below_setRow ?_ ?_ _) | go_size))⟩
    by_cases gx : p ≤ x
    · have HV := hid (show keyB L x y z = false by unfold keyB; rw [show inB 0 (powL L - 1) x = false by have := HPP.out; simp [inB]; omega]; simp)
      go_wp2_with fail
      go_ret
      exact ⟨by rw [HV.out]; rfl, by (repeat' (first | (with_reducible exact Below.refl _ _) | (with_reducible assumption) | (with_reducible refine Below.alloc ?_ ?_ _) | (with_reducible refine Below.drew ?_) | (with_reducible refine below_drewN ?_ _) | (with_reducible refine Below.setCell ?_ ?_ _) | (with_reducible refine below_setRow ?_ ?_ _) | go_size))⟩
    go_wp2_with fail
    rw [rounds_succ]
    by_cases ly : y < 0
    · have HV := hid (show keyB L x y z = false by unfold keyB; rw [show inB 0 (powL L - 1) y = false by simp [inB]; omega]; simp)
      go_wp2_with fail
      go_ret
      exact ⟨by rw [HV.out]; rfl, by (repeat' (first | (with_reducible exact Below.refl _ _) | (with_reducible assumption) | (with_reducible refine Below.alloc ?_ ?_ _) | (with_reducible refine Below.drew ?_) | (with_reducible refine below_drewN ?_ _) | (with_reducible refine Below.setCell ?_ ?_ _) | (with_reducible refine below_setRow ?_ ?_ _) | go_size))⟩
    by_cases gy : p ≤ y
    · have HV := hid (show keyB L x y z = false by unfold keyB; rw [show inB 0 (powL L - 1) y = false by have := HPP.out; simp [inB]; omega]; simp)
      go_wp2_with fail
      go_ret
      exact ⟨by rw [HV.out]; rfl, by (repeat' (first | (with_reducible exact Below.refl _ _) | (with_reducible assumption) | (with_reducible refine Below.alloc ?_ ?_ _) | (with_reducible refine Below.drew ?_) | (with_reducible refine below_drewN ?_ _) | (with_reducible refine Below.setCell ?_ ?_ _) | (with_reducible refine below_setRow ?_ ?_ _) | go_size))⟩
    go_wp2_with fail
    rw [rounds_succ]
    by_cases lz : z < 0
    · have HV := hid (show keyB L x y z = false by unfold keyB; rw [show inB 0 (powL L - 1) z = false by simp [inB]; omega]; simp)
      go_wp2_with fail
      go_ret
      exact ⟨by rw [HV.out]; rfl, by (repeat' (first | (with_reducible exact Below.refl _ _) | (with_reducible assumption) | (with_reducible refine Below.alloc ?_ ?_ _) | (with_reducible refine Below.drew ?_) | (with_reducible refine below_drewN ?_ _) | (with_reducible refine Below.setCell ?_ ?_ _) | (with_reducible refine below_setRow ?_ ?_ _) | go_size))⟩
    by_cases gz : p ≤ z
    · have HV := hid (show keyB L x y z = false by unfold keyB; rw [show inB 0 (powL L - 1) z = false by have := HPP.out; simp [inB]; omega]; simp)
      go_wp2_with fail
      go_ret
      exact ⟨by rw [HV.out]; rfl, by (repeat' (first | (with_reducible exact Below.refl _ _) | (with_reducible assumption) | (with_reducible refine Below.alloc ?_ ?_ _) | (with_reducible refine Below.drew ?_) | (with_reducible refine below_drewN ?_ _) | (with_reducible refine Below.setCell ?_ ?_ _) | (with_reducible refine below_setRow ?_ ?_ _) | go_size))⟩
    go_wp2_with fail
    rw [rounds_succ]
    have HV := hid (show keyB L x y z = true by have := HPP.out; unfold keyB; simp [inB]; omega)
    go_wp2_with fail
    go_ret
    exact ⟨by rw [HV.out]; rfl, by (repeat' (first | (with_reducible exact Below.refl _ _) | (with_reducible assumption) | (with_reducible refine Below.alloc ?_ ?_ _) | (with_reducible refine Below.drew ?_) | (with_reducible refine below_drewN ?_ _) | (with_reducible refine Below.setCell ?_ ?_ _) | (with_reducible refine below_setRow ?_ ?_ _) | go_size))⟩
  · have HV := hid (keyB_bad (x := x) (y := y) (z := z) hL)
    by_cases h0 : L < 0
    · go_enter Try.func54, Try.ntmps54
      go_wp2_with fail
      go_ret
      exact ⟨by rw [HV.out]; rfl, by (repeat' (first | (with_reducible exact Below.refl _ _) | (with_reducible assumption) | (with_reducible refine Below.alloc ?_ ?_ _) | (with_reducible refine Below.drew ?_) | (with_reducible refine below_drewN ?_ _) | (with_reducible refine Below.setCell ?_ ?_ _) | (with_reducible refine below_setRow ?_ ?_ _) | go_size))⟩
    · have h1 : 12 < L := by omega
      go_enter Try.func54, Try.ntmps54
      go_wp2_with fail
      go_ret
      exact ⟨by rw [HV.out]; rfl, by (repeat' (first | (with_reducible exact Below.refl _ _) | (with_reducible assumption) | (with_reducible refine Below.alloc ?_ ?_ _) | (with_reducible refine Below.drew ?_) | (with_reducible refine below_drewN ?_ _) | (with_reducible refine Below.setCell ?_ ?_ _) | (with_reducible refine below_setRow ?_ ?_ _) | go_size))⟩
theorem keyB_good {L x y z : Int} (h : 0 ≤ L ∧ L ≤ 12) : keyB L x y z = (inB 0 (powL L - 1) x && inB 0 (powL L - 1) y && inB 0 (powL L - 1) z) := by
  unfold keyB
  rw [show inB 0 12 L = true by simp [inB]; omega]
  rfl
set_option maxRecDepth 100000 in
theorem rKey_any (L x y z : Int) (w : World) :
    Calls Try.prog 55 #[.agg #[.int .i64 L, .int .i64 x, .int .i64 y, .int .i64 z]] w fun e w' => e = .returned (.bool (keyB L x y z)) ∧ Below w.heap.size w w' := by
  by_cases hL : 0 ≤ L ∧ L ≤ 12
  · have hsh := shl_i hL
    have HV := hid (keyB_good (x := x) (y := y) (z := z) hL)
    have hpb := powL_bd hL
    have hin : inB 0 12 L = true := by simp [inB]; omega
    have HIN := hid hin; clear hin
    generalize powL L = p at *
    obtain ⟨m, rfl⟩ : ∃ m, p = m + 1 := ⟨p - 1, by omega⟩
    simp only [Int.add_sub_cancel] at HV
    go_enter Try.func55, Try.ntmps55
    go_wp2_with fail
    refine (from_any _ _ _ _).mono ?_
    rintro r w1 ⟨rfl, rfl⟩
    rw [HIN.out]
    go_wp2_with fail
    by_cases h1 : inB 0 m x = true
    · by_cases h2 : inB 0 m y = true
      · have HS := hid (show keyB L x y z = inB 0 m z by simp [HV.out, h1, h2])
        have H1 := hid h1
        have H2 := hid h2
        clear h1 h2
        go_wp2_with fail
        refine (from_any _ _ _ _).mono ?_
        rintro r w1 ⟨rfl, rfl⟩
        rw [H1.out]
        go_wp2_with fail
        refine (from_any _ _ _ _).mono ?_
        rintro r w1 ⟨rfl, rfl⟩
        rw [H2.out]
        go_wp2_with fail
        refine (from_any _ _ _ _).mono ?_
        rintro r w1 ⟨rfl, rfl⟩
        go_wp2_with fail
        go_ret
        refine ⟨by rw [HS.out]; rfl, ?_⟩
        (try have hB0 := HB.out)
        (repeat' (first | (with_reducible exact Below.refl _ _) | (with_reducible assumption) | (with_reducible refine Below.alloc ?_ ?_ _) | (with_reducible refine Below.drew ?_) | (with_reducible refine below_drewN ?_ _) | (with_reducible refine Below.setCell ?_ ?_ _) | (with_reducible refine below_setRow ?_ ?_ _) | go_size))
      · have HS := hid (show keyB L x y z = false by simp [HV.out, h1, h2])
        have H1 := hid h1
        have H2 := hid (Bool.eq_false_iff.2 h2)
        clear h1 h2
        go_wp2_with fail
        refine (from_any _ _ _ _).mono ?_
        rintro r w1 ⟨rfl, rfl⟩
        rw [H1.out]
        go_wp2_with fail
        refine (from_any _ _ _ _).mono ?_
        rintro r w1 ⟨rfl, rfl⟩
        rw [H2.out]
        go_wp2_with fail
        go_ret
        refine ⟨by rw [HS.out]; rfl, ?_⟩
        (try have hB0 := HB.out)
        (repeat' (first | (with_reducible exact Below.refl _ _) | (with_reducible assumption) | (with_reducible refine Below.alloc ?_ ?_ _) | (with_reducible refine Below.drew ?_) | (with_reducible refine below_drewN ?_ _) | (with_reducible refine Below.setCell ?_ ?_ _) | (with_reducible refine below_setRow ?_ ?_ _) | go_size))
    · have HS := hid (show keyB L x y z = false by simp [HV.out, h1])
      have H1 := hid (Bool.eq_false_iff.2 h1)
      clear h1
      go_wp2_with fail
      refine (from_any _ _ _ _).mono ?_
      rintro r w1 ⟨rfl, rfl⟩
      rw [H1.out]
      go_wp2_with fail
      go_ret
      refine ⟨by rw [HS.out]; rfl, ?_⟩
      (try have hB0 := HB.out)
      (repeat' (first | (with_reducible exact Below.refl _ _) | (with_reducible assumption) | (with_reducible refine Below.alloc ?_ ?_ _) | (with_reducible refine Below.drew ?_) | (with_reducible refine below_drewN ?_ _) | (with_reducible refine Below.setCell ?_ ?_ _) | (with_reducible refine below_setRow ?_ ?_ _) | go_size))
  · have HV := hid (keyB_bad (x := x) (y := y) (z := z) hL)
    have hin : inB 0 12 L = false := by simp [inB]; omega
    have HIN := hid hin; clear hin
    go_enter Try.func55, Try.ntmps55
    go_wp2_with fail
    refine (from_any _ _ _ _).mono ?_
    rintro r w1 ⟨rfl, rfl⟩
    rw [HIN.out]
    go_wp2_with fail
    go_ret
    exact ⟨by rw [HV.out]; rfl, by (repeat' (first | (with_reducible exact Below.refl _ _) | (with_reducible assumption) | (with_reducible refine Below.alloc ?_ ?_ _) | (with_reducible refine Below.drew ?_) | (with_reducible refine below_drewN ?_ _) | (with_reducible refine Below.setCell ?_ ?_ _) | (with_reducible refine below_setRow ?_ ?_ _) | go_size))⟩
end Go.Proofs.Yteanlcefdoigcaa
