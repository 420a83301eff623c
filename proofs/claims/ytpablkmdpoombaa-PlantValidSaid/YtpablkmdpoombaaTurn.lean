/- Turns, sides and crossings of a ring's sides: what the program and the reference answer for any numbers. (Printed by wip/gen_turn.py.) -/
import Derived.Test.YtpablkmdpoombaaSrt
namespace Go.Proofs.Ytpablkmdpoombaa
open Go.RowKit

theorem bcell {W w1 : World} (hb : Below W.heap.size W w1) : (∀ b o, b < W.heap.size → w1.cell? ⟨b, o, none⟩ = W.cell? ⟨b, o, none⟩) ∧ (∀ b o, b < W.heap.size → w1.frozen? ⟨b, o, none⟩ = W.frozen? ⟨b, o, none⟩) :=
  ⟨fun b o h => hb.cell (p := ⟨b, o, none⟩) h, fun b o h => hb.frozen (p := ⟨b, o, none⟩) h⟩
def turnN (ax ay bx byy cx cy : Int) : Int := wrap64 (wrap64 (wrap64 (bx - ax) * wrap64 (cy - ay)) - wrap64 (wrap64 (byy - ay) * wrap64 (cx - ax)))
def sgnI (n : Int) : Int := if 0 < n then 1 else if n < 0 then -1 else 0
theorem sgnI_pos {n : Int} (h : 0 < n) : sgnI n = 1 := if_pos h
theorem sgnI_neg {n : Int} (h : n < 0) : sgnI n = -1 := by unfold sgnI; rw [if_neg (by omega), if_pos h]
theorem sgnI_zero : sgnI 0 = 0 := rfl
def tnV (ax ay bx byy cx cy : Int) : Int := sgnI (turnN ax ay bx byy cx cy)
set_option maxRecDepth 100000 in
theorem turn_any (ax ay bx byy cx cy : Int) (w : World) :
    Calls Try.prog 159 #[.agg #[.int .i64 ax, .int .i64 ay], .agg #[.int .i64 bx, .int .i64 byy], .agg #[.int .i64 cx, .int .i64 cy]] w fun e w' => e = .returned (.int .i64 (tnV ax ay bx byy cx cy)) ∧ Below w.heap.size w w' := by
  obtain ⟨N, hN⟩ : ∃ N, N = turnN ax ay bx byy cx cy := ⟨_, rfl⟩
  unfold tnV
  rw [← hN]
  unfold turnN at hN
  have HN := hid hN
  clear hN
  rcases (by omega : 0 < N ∨ N < 0 ∨ N = 0) with h | h | h
  · have HV := hid (sgnI_pos h)
    have d1 : decide ((0 : Int) < N) = true := decide_eq_true (by omega)
    have d2 : decide (N < (0 : Int)) = false := decide_eq_false (by omega)
    clear h
    go_enter Try.func159, Try.ntmps159
    go_upto_region 2 with fail
    rw [← HN.out]
    go_wp2_with fail
    go_ret
    exact ⟨by rw [HV.out]; rfl, by (repeat' (first | (with_reducible exact Below.refl _ _) | (with_reducible assumption) | (with_reducible refine Below.alloc ?_ ?_ _) | go_size))⟩
  · have HV := hid (sgnI_neg h)
    have d1 : decide ((0 : Int) < N) = false := decide_eq_false (by omega)
    have d2 : decide (N < (0 : Int)) = true := decide_eq_true (by omega)
    clear h
    go_enter Try.func159, Try.ntmps159
    go_upto_region 2 with fail
    rw [← HN.out]
    go_wp2_with fail
    go_ret
    exact ⟨by rw [HV.out]; rfl, by (repeat' (first | (with_reducible exact Below.refl _ _) | (with_reducible assumption) | (with_reducible refine Below.alloc ?_ ?_ _) | go_size))⟩
  · have HV := hid (show sgnI N = 0 by rw [h]; rfl)
    have d1 : decide ((0 : Int) < N) = false := decide_eq_false (by omega)
    have d2 : decide (N < (0 : Int)) = false := decide_eq_false (by omega)
    clear h
    go_enter Try.func159, Try.ntmps159
    go_upto_region 2 with fail
    rw [← HN.out]
    go_wp2_with fail
    go_ret
    exact ⟨by rw [HV.out]; rfl, by (repeat' (first | (with_reducible exact Below.refl _ _) | (with_reducible assumption) | (with_reducible refine Below.alloc ?_ ?_ _) | go_size))⟩
set_option maxRecDepth 100000 in
theorem rturn_any (ax ay bx byy cx cy : Int) (w : World) :
    Calls Try.prog 131 #[.agg #[.int .i64 ax, .int .i64 ay], .agg #[.int .i64 bx, .int .i64 byy], .agg #[.int .i64 cx, .int .i64 cy]] w fun e w' => e = .returned (.int .i64 (tnV ax ay bx byy cx cy)) ∧ Below w.heap.size w w' := by
  obtain ⟨N, hN⟩ : ∃ N, N = turnN ax ay bx byy cx cy := ⟨_, rfl⟩
  unfold tnV
  rw [← hN]
  unfold turnN at hN
  have HN := hid hN
  clear hN
  rcases (by omega : 0 < N ∨ N < 0 ∨ N = 0) with h | h | h
  · have HV := hid (sgnI_pos h)
    have d1 : decide ((0 : Int) < N) = true := decide_eq_true (by omega)
    have d2 : decide (N < (0 : Int)) = false := decide_eq_false (by omega)
    clear h
    go_enter Try.func131, Try.ntmps131
    go_upto_region 2 with fail
    rw [← HN.out]
    go_wp2_with fail
    go_ret
    exact ⟨by rw [HV.out]; rfl, by (repeat' (first | (with_reducible exact Below.refl _ _) | (with_reducible assumption) | (with_reducible refine Below.alloc ?_ ?_ _) | go_size))⟩
  · have HV := hid (sgnI_neg h)
    have d1 : decide ((0 : Int) < N) = false := decide_eq_false (by omega)
    have d2 : decide (N < (0 : Int)) = true := decide_eq_true (by omega)
    clear h
    go_enter Try.func131, Try.ntmps131
    go_upto_region 2 with fail
    rw [← HN.out]
    go_wp2_with fail
    go_ret
    exact ⟨by rw [HV.out]; rfl, by (repeat' (first | (with_reducible exact Below.refl _ _) | (with_reducible assumption) | (with_reducible refine Below.alloc ?_ ?_ _) | go_size))⟩
  · have HV := hid (show sgnI N = 0 by rw [h]; rfl)
    have d1 : decide ((0 : Int) < N) = false := decide_eq_false (by omega)
    have d2 : decide (N < (0 : Int)) = false := decide_eq_false (by omega)
    clear h
    go_enter Try.func131, Try.ntmps131
    go_upto_region 2 with fail
    rw [← HN.out]
    go_wp2_with fail
    go_ret
    exact ⟨by rw [HV.out]; rfl, by (repeat' (first | (with_reducible exact Below.refl _ _) | (with_reducible assumption) | (with_reducible refine Below.alloc ?_ ?_ _) | go_size))⟩
/-- a place lies on the side from one place to another -/
def onV (ax ay bx byy cx cy : Int) : Bool := tnV ax ay bx byy cx cy == 0 && inB (min ax bx) (max ax bx) cx && inB (min ay byy) (max ay byy) cy
set_option maxRecDepth 100000 in
theorem on_any (ax ay bx byy cx cy : Int) (w : World) :
    Calls Try.prog 147 #[.agg #[.int .i64 ax, .int .i64 ay], .agg #[.int .i64 bx, .int .i64 byy], .agg #[.int .i64 cx, .int .i64 cy]] w fun e w' => e = .returned (.bool (onV ax ay bx byy cx cy)) ∧ Below w.heap.size w w' := by
  obtain ⟨N, hN⟩ : ∃ N, N = tnV ax ay bx byy cx cy := ⟨_, rfl⟩
  have HV := hid (show onV ax ay bx byy cx cy = (N == 0 && inB (min ax bx) (max ax bx) cx && inB (min ay byy) (max ay byy) cy) by rw [hN]; rfl)
  have HN := hid hN
  clear hN
  by_cases h : N = 0
  · have d1 : decide (N = (0 : Int)) = true := decide_eq_true h
    have d2 : (N == (0 : Int)) = true := by simpa using h
    rw [d2] at HV
    clear h
    by_cases h1 : inB (min ax bx) (max ax bx) cx = true
    · have H1 := hid h1
      clear h1
      go_enter Try.func147, Try.ntmps147
      go_wp2_with fail
      refine (turn_any _ _ _ _ _ _ _).mono ?_
      rintro r w1 ⟨rfl, hb⟩
      have HBw1 := hid ((by refine Below.trans ?_ (hb.mono ?_); (focus ((repeat' (first | (with_reducible exact Below.refl _ _) | (with_reducible assumption) | (with_reducible refine Below.alloc ?_ ?_ _) | (with_reducible refine Below.drew ?_) | (with_reducible refine below_drewN ?_ _) | (with_reducible refine Below.setCell ?_ ?_ _) | (with_reducible refine below_setRow ?_ ?_ _) | go_size)); done)); (focus (first | (simp; done) | (simp; omega)))) : Below w.heap.size w w1)
      have hsw1 := hb.size
      (try simp at hsw1)
      have hzw1 : w.heap.size < w1.heap.size := by omega
      obtain ⟨hcw1, hfw1⟩ := bcell hb
      clear hb
      rw [← HN.out]
      go_wp2_with fail
      refine (within_any _ _ _ _).mono ?_
      rintro r w2 ⟨rfl, rfl⟩
      rw [H1.out]
      go_wp2_with fail
      refine (within_any _ _ _ _).mono ?_
      rintro r w2 ⟨rfl, rfl⟩
      go_wp2_with fail
      go_ret
      exact ⟨by rw [HV.out, H1.out]; rfl, HBw1.out⟩
    · have H1 := hid (Bool.eq_false_iff.2 h1)
      clear h1
      go_enter Try.func147, Try.ntmps147
      go_wp2_with fail
      refine (turn_any _ _ _ _ _ _ _).mono ?_
      rintro r w1 ⟨rfl, hb⟩
      have HBw1 := hid ((by refine Below.trans ?_ (hb.mono ?_); (focus ((repeat' (first | (with_reducible exact Below.refl _ _) | (with_reducible assumption) | (with_reducible refine Below.alloc ?_ ?_ _) | (with_reducible refine Below.drew ?_) | (with_reducible refine below_drewN ?_ _) | (with_reducible refine Below.setCell ?_ ?_ _) | (with_reducible refine below_setRow ?_ ?_ _) | go_size)); done)); (focus (first | (simp; done) | (simp; omega)))) : Below w.heap.size w w1)
      have hsw1 := hb.size
      (try simp at hsw1)
      have hzw1 : w.heap.size < w1.heap.size := by omega
      obtain ⟨hcw1, hfw1⟩ := bcell hb
      clear hb
      rw [← HN.out]
      go_wp2_with fail
      refine (within_any _ _ _ _).mono ?_
      rintro r w2 ⟨rfl, rfl⟩
      rw [H1.out]
      go_wp2_with fail
      go_ret
      exact ⟨by rw [HV.out, H1.out]; rfl, HBw1.out⟩
  · have d1 : decide (N = (0 : Int)) = false := decide_eq_false h
    have d2 : (N == (0 : Int)) = false := by simpa using h
    rw [d2] at HV
    go_enter Try.func147, Try.ntmps147
    go_wp2_with fail
    refine (turn_any _ _ _ _ _ _ _).mono ?_
    rintro r w1 ⟨rfl, hb⟩
    have HBw1 := hid ((by refine Below.trans ?_ (hb.mono ?_); (focus ((repeat' (first | (with_reducible exact Below.refl _ _) | (with_reducible assumption) | (with_reducible refine Below.alloc ?_ ?_ _) | (with_reducible refine Below.drew ?_) | (with_reducible refine below_drewN ?_ _) | (with_reducible refine Below.setCell ?_ ?_ _) | (with_reducible refine below_setRow ?_ ?_ _) | go_size)); done)); (focus (first | (simp; done) | (simp; omega)))) : Below w.heap.size w w1)
    have hsw1 := hb.size
    (try simp at hsw1)
    have hzw1 : w.heap.size < w1.heap.size := by omega
    obtain ⟨hcw1, hfw1⟩ := bcell hb
    clear hb
    rw [← HN.out]
    go_wp2_with fail
    go_ret
    exact ⟨by rw [HV.out]; rfl, HBw1.out⟩
/-- a side crosses the line through a place to its right, as the program asks -/
def crV (ax ay bx byy cx cy : Int) : Bool := if decide (cy < ay) = decide (cy < byy) then false else if ay < byy then decide (0 < tnV ax ay bx byy cx cy) else decide (0 < tnV bx byy ax ay cx cy)
set_option maxRecDepth 100000 in
theorem cross_any (ax ay bx byy cx cy : Int) (w : World) :
    Calls Try.prog 148 #[.agg #[.int .i64 ax, .int .i64 ay], .agg #[.int .i64 bx, .int .i64 byy], .agg #[.int .i64 cx, .int .i64 cy]] w fun e w' => e = .returned (.bool (crV ax ay bx byy cx cy)) ∧ Below w.heap.size w w' := by
  obtain ⟨M, hM⟩ : ∃ M, M = tnV ax ay bx byy cx cy := ⟨_, rfl⟩
  obtain ⟨N, hN⟩ : ∃ N, N = tnV bx byy ax ay cx cy := ⟨_, rfl⟩
  have HV := hid (show crV ax ay bx byy cx cy = if decide (cy < ay) = decide (cy < byy) then false else if ay < byy then decide (0 < M) else decide (0 < N) by rw [hM, hN]; rfl)
  have HM := hid hM
  have HN := hid hN
  clear hM hN
  by_cases hp : cy < ay <;> by_cases hq : cy < byy
  · have d1 : decide (cy < ay) = true := decide_eq_true hp
    have d2 : decide (cy < byy) = true := decide_eq_true hq
    rw [d1, d2] at HV
    clear hp hq
    go_enter Try.func148, Try.ntmps148
    go_wp2_with fail
    go_ret
    exact ⟨by rw [HV.out]; rfl, by (repeat' (first | (with_reducible exact Below.refl _ _) | (with_reducible assumption) | (with_reducible refine Below.alloc ?_ ?_ _) | go_size))⟩
  · have d1 : decide (cy < ay) = true := decide_eq_true hp
    have d2 : decide (cy < byy) = false := decide_eq_false hq
    rw [d1, d2] at HV
    have d3 : decide (ay < byy) = false := decide_eq_false (by omega)
    have HV2 := hid (show crV ax ay bx byy cx cy = decide (0 < N) by rw [HV.out, if_neg (by decide), if_neg (by omega)])
    clear hp hq
    go_enter Try.func148, Try.ntmps148
    go_wp2_with fail
    refine (turn_any _ _ _ _ _ _ _).mono ?_
    rintro r w1 ⟨rfl, hb⟩
    have HBw1 := hid ((by refine Below.trans ?_ (hb.mono ?_); (focus ((repeat' (first | (with_reducible exact Below.refl _ _) | (with_reducible assumption) | (with_reducible refine Below.alloc ?_ ?_ _) | (with_reducible refine Below.drew ?_) | (with_reducible refine below_drewN ?_ _) | (with_reducible refine Below.setCell ?_ ?_ _) | (with_reducible refine below_setRow ?_ ?_ _) | go_size)); done)); (focus (first | (simp; done) | (simp; omega)))) : Below w.heap.size w w1)
    have hsw1 := hb.size
    (try simp at hsw1)
    have hzw1 : w.heap.size < w1.heap.size := by omega
    obtain ⟨hcw1, hfw1⟩ := bcell hb
    clear hb
    rw [← HN.out]
    go_wp2_with fail
    go_ret
    exact ⟨by rw [HV2.out]; rfl, HBw1.out⟩
  · have d1 : decide (cy < ay) = false := decide_eq_false hp
    have d2 : decide (cy < byy) = true := decide_eq_true hq
    rw [d1, d2] at HV
    have d3 : decide (ay < byy) = true := decide_eq_true (by omega)
    have HV2 := hid (show crV ax ay bx byy cx cy = decide (0 < M) by rw [HV.out, if_neg (by decide), if_pos (by omega)])
    clear hp hq
    go_enter Try.func148, Try.ntmps148
    go_wp2_with fail
    refine (turn_any _ _ _ _ _ _ _).mono ?_
    rintro r w1 ⟨rfl, hb⟩
    have HBw1 := hid ((by refine Below.trans ?_ (hb.mono ?_); (focus ((repeat' (first | (with_reducible exact Below.refl _ _) | (with_reducible assumption) | (with_reducible refine Below.alloc ?_ ?_ _) | (with_reducible refine Below.drew ?_) | (with_reducible refine below_drewN ?_ _) | (with_reducible refine Below.setCell ?_ ?_ _) | (with_reducible refine below_setRow ?_ ?_ _) | go_size)); done)); (focus (first | (simp; done) | (simp; omega)))) : Below w.heap.size w w1)
    have hsw1 := hb.size
    (try simp at hsw1)
    have hzw1 : w.heap.size < w1.heap.size := by omega
    obtain ⟨hcw1, hfw1⟩ := bcell hb
    clear hb
    rw [← HM.out]
    go_wp2_with fail
    go_ret
    exact ⟨by rw [HV2.out]; rfl, HBw1.out⟩
  · have d1 : decide (cy < ay) = false := decide_eq_false hp
    have d2 : decide (cy < byy) = false := decide_eq_false hq
    rw [d1, d2] at HV
    clear hp hq
    go_enter Try.func148, Try.ntmps148
    go_wp2_with fail
    go_ret
    exact ⟨by rw [HV.out]; rfl, by (repeat' (first | (with_reducible exact Below.refl _ _) | (with_reducible assumption) | (with_reducible refine Below.alloc ?_ ?_ _) | go_size))⟩
end Go.Proofs.Ytpablkmdpoombaa
