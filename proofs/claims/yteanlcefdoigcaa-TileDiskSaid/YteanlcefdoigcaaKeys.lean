/- The cells of a point: what the program and its reference return. Which keys are valid, and the cell above a key: what the program and its reference return. The cell above a key: what the program and its reference return. The cell of a point at a level, with its refusals: what the program and its reference return. The key above a point's cell is the point's cell one level above. In plain Lean. -/
import Derived.Test.YteanlcefdoigcaaValid
import Derived.Laws.Shifts
import Derived.Lib.QuietBelow
namespace Go.Proofs.Yteanlcefdoigcaa
open Go.RowKit

/-- the index of a coordinate in the cells of a level -/
def idxV (n : Int) (L : Nat) : Int := min ((n + 268435456) / 2 ^ (29 - L)) (2 ^ L - 1)
set_option maxRecDepth 100000 in
theorem index_any (n : Int) (L : Nat) (hL : L ≤ 12) (hn : -268435456 ≤ n ∧ n ≤ 268435456) (w : World) :
    Calls Try.prog 100 #[.int .i64 n, .int .i64 L] w fun e w' => e = .returned (.int .i64 (idxV n L)) ∧ Below w.heap.size w w' := by
  match L, hL with
  | 0, _ =>
    have hv : idxV n 0 = min ((n + 268435456) / 536870912) 0 := rfl
    have HV := hid hv
    clear hv
    go_enter Try.func100, Try.ntmps100
    go_wp2_with fail
    all_goals (go_ret; refine ⟨?_, Below.refl _ _⟩; show Ending.returned (Value.int .i64 _) = Ending.returned (Value.int .i64 _); rw [HV.out]; congr 2; omega)
  | 1, _ =>
    have hv : idxV n 1 = min ((n + 268435456) / 268435456) 1 := rfl
    have HV := hid hv
    clear hv
    go_enter Try.func100, Try.ntmps100
    go_wp2_with fail
    all_goals (go_ret; refine ⟨?_, Below.refl _ _⟩; show Ending.returned (Value.int .i64 _) = Ending.returned (Value.int .i64 _); rw [HV.out]; congr 2; omega)
  | 2, _ =>
    have hv : idxV n 2 = min ((n + 268435456) / 134217728) 3 := rfl
    have HV := hid hv
    clear hv
    go_enter Try.func100, Try.ntmps100
    go_wp2_with fail
    all_goals (go_ret; refine ⟨?_, Below.refl _ _⟩; show Ending.returned (Value.int .i64 _) = Ending.returned (Value.int .i64 _); rw [HV.out]; congr 2; omega)
  | 3, _ =>
    have hv : idxV n 3 = min ((n + 268435456) / 67108864) 7 := rfl
    have HV := hid hv
    clear hv
    go_enter Try.func100, Try.ntmps100
    go_wp2_with fail
    all_goals (go_ret; refine ⟨?_, Below.refl _ _⟩; show Ending.returned (Value.int .i64 _) = Ending.returned (Value.int .i64 _); rw [HV.out]; congr 2; omega)
  | 4, _ =>
    have hv : idxV n 4 = min ((n + 268435456) / 33554432) 15 := rfl
    have HV := hid hv
    clear hv
    go_enter Try.func100, Try.ntmps100
    go_wp2_with fail
    all_goals (go_ret; refine ⟨?_, Below.refl _ _⟩; show Ending.returned (Value.int .i64 _) = Ending.returned (Value.int .i64 _); rw [HV.out]; congr 2; omega)
  | 5, _ =>
    have hv : idxV n 5 = min ((n + 268435456) / 16777216) 31 := rfl
    have HV := hid hv
    clear hv
    go_enter Try.func100, Try.ntmps100
    go_wp2_with fail
    all_goals (go_ret; refine ⟨?_, Below.refl _ _⟩; show Ending.returned (Value.int .i64 _) = Ending.returned (Value.int .i64 _); rw [HV.out]; congr 2; omega)
  | 6, _ =>
    have hv : idxV n 6 = min ((n + 268435456) / 8388608) 63 := rfl
    have HV := hid hv
    clear hv
    go_enter Try.func100, Try.ntmps100
    go_wp2_with fail
    all_goals (go_ret; refine ⟨?_, Below.refl _ _⟩; show Ending.returned (Value.int .i64 _) = Ending.returned (Value.int .i64 _); rw [HV.out]; congr 2; omega)
  | 7, _ =>
    have hv : idxV n 7 = min ((n + 268435456) / 4194304) 127 := rfl
    have HV := hid hv
    clear hv
    go_enter Try.func100, Try.ntmps100
    go_wp2_with fail
    all_goals (go_ret; refine ⟨?_, Below.refl _ _⟩; show Ending.returned (Value.int .i64 _) = Ending.returned (Value.int .i64 _); rw [HV.out]; congr 2; omega)
  | 8, _ =>
    have hv : idxV n 8 = min ((n + 268435456) / 2097152) 255 := rfl
    have HV := hid hv
    clear hv
    go_enter Try.func100, Try.ntmps100
    go_wp2_with fail
    all_goals (go_ret; refine ⟨?_, Below.refl _ _⟩; show Ending.returned (Value.int .i64 _) = Ending.returned (Value.int .i64 _); rw [HV.out]; congr 2; omega)
  | 9, _ =>
    have hv : idxV n 9 = min ((n + 268435456) / 1048576) 511 := rfl
    have HV := hid hv
    clear hv
    go_enter Try.func100, Try.ntmps100
    go_wp2_with fail
    all_goals (go_ret; refine ⟨?_, Below.refl _ _⟩; show Ending.returned (Value.int .i64 _) = Ending.returned (Value.int .i64 _); rw [HV.out]; congr 2; omega)
  | 10, _ =>
    have hv : idxV n 10 = min ((n + 268435456) / 524288) 1023 := rfl
    have HV := hid hv
    clear hv
    go_enter Try.func100, Try.ntmps100
    go_wp2_with fail
    all_goals (go_ret; refine ⟨?_, Below.refl _ _⟩; show Ending.returned (Value.int .i64 _) = Ending.returned (Value.int .i64 _); rw [HV.out]; congr 2; omega)
  | 11, _ =>
    have hv : idxV n 11 = min ((n + 268435456) / 262144) 2047 := rfl
    have HV := hid hv
    clear hv
    go_enter Try.func100, Try.ntmps100
    go_wp2_with fail
    all_goals (go_ret; refine ⟨?_, Below.refl _ _⟩; show Ending.returned (Value.int .i64 _) = Ending.returned (Value.int .i64 _); rw [HV.out]; congr 2; omega)
  | 12, _ =>
    have hv : idxV n 12 = min ((n + 268435456) / 131072) 4095 := rfl
    have HV := hid hv
    clear hv
    go_enter Try.func100, Try.ntmps100
    go_wp2_with fail
    all_goals (go_ret; refine ⟨?_, Below.refl _ _⟩; show Ending.returned (Value.int .i64 _) = Ending.returned (Value.int .i64 _); rw [HV.out]; congr 2; omega)
  | L + 13, h => omega
set_option maxRecDepth 100000 in
theorem step_any (n : Int) (L : Nat) (hL : L ≤ 12) (hn : -268435456 ≤ n ∧ n ≤ 268435456) (w : World) :
    Calls Try.prog 101 #[.int .i64 n, .int .i64 L] w fun e w' => e = .returned (.int .i64 (idxV n L)) ∧ Below w.heap.size w w' := by
  match L, hL with
  | 0, _ =>
    have hv : idxV n 0 = min ((n + 268435456) / 536870912) 0 := rfl
    have HV := hid hv
    clear hv
    go_enter Try.func101, Try.ntmps101
    go_wp2_with fail
    refine wp_region_quiet_below (by kernel_rfl) (by kernel_rfl) ?_
    repeat (first | go_big_quiet_step (fail) | quiet_step (fail))
    refine wpQuiet_nil ?_
    intro _ hw'
    obtain ⟨⟨dq, osq⟩, hw2⟩ := hw'
    subst hw2
    have hbq := below_regrown w dq osq
    go_wp2_with fail
    all_goals (go_ret; refine ⟨?_, hbq⟩; show Ending.returned (Value.int .i64 _) = Ending.returned (Value.int .i64 _); rw [HV.out]; congr 2; omega)
  | 1, _ =>
    have hv : idxV n 1 = min ((n + 268435456) / 268435456) 1 := rfl
    have HV := hid hv
    clear hv
    go_enter Try.func101, Try.ntmps101
    go_wp2_with fail
    refine wp_region_quiet_below (by kernel_rfl) (by kernel_rfl) ?_
    repeat (first | go_big_quiet_step (fail) | quiet_step (fail))
    refine wpQuiet_nil ?_
    intro _ hw'
    obtain ⟨⟨dq, osq⟩, hw2⟩ := hw'
    subst hw2
    have hbq := below_regrown w dq osq
    go_wp2_with fail
    all_goals (go_ret; refine ⟨?_, hbq⟩; show Ending.returned (Value.int .i64 _) = Ending.returned (Value.int .i64 _); rw [HV.out]; congr 2; omega)
  | 2, _ =>
    have hv : idxV n 2 = min ((n + 268435456) / 134217728) 3 := rfl
    have HV := hid hv
    clear hv
    go_enter Try.func101, Try.ntmps101
    go_wp2_with fail
    refine wp_region_quiet_below (by kernel_rfl) (by kernel_rfl) ?_
    repeat (first | go_big_quiet_step (fail) | quiet_step (fail))
    refine wpQuiet_nil ?_
    intro _ hw'
    obtain ⟨⟨dq, osq⟩, hw2⟩ := hw'
    subst hw2
    have hbq := below_regrown w dq osq
    go_wp2_with fail
    all_goals (go_ret; refine ⟨?_, hbq⟩; show Ending.returned (Value.int .i64 _) = Ending.returned (Value.int .i64 _); rw [HV.out]; congr 2; omega)
  | 3, _ =>
    have hv : idxV n 3 = min ((n + 268435456) / 67108864) 7 := rfl
    have HV := hid hv
    clear hv
    go_enter Try.func101, Try.ntmps101
    go_wp2_with fail
    refine wp_region_quiet_below (by kernel_rfl) (by kernel_rfl) ?_
    repeat (first | go_big_quiet_step (fail) | quiet_step (fail))
    refine wpQuiet_nil ?_
    intro _ hw'
    obtain ⟨⟨dq, osq⟩, hw2⟩ := hw'
    subst hw2
    have hbq := below_regrown w dq osq
    go_wp2_with fail
    all_goals (go_ret; refine ⟨?_, hbq⟩; show Ending.returned (Value.int .i64 _) = Ending.returned (Value.int .i64 _); rw [HV.out]; congr 2; omega)
  | 4, _ =>
    have hv : idxV n 4 = min ((n + 268435456) / 33554432) 15 := rfl
    have HV := hid hv
    clear hv
    go_enter Try.func101, Try.ntmps101
    go_wp2_with fail
    refine wp_region_quiet_below (by kernel_rfl) (by kernel_rfl) ?_
    repeat (first | go_big_quiet_step (fail) | quiet_step (fail))
    refine wpQuiet_nil ?_
    intro _ hw'
    obtain ⟨⟨dq, osq⟩, hw2⟩ := hw'
    subst hw2
    have hbq := below_regrown w dq osq
    go_wp2_with fail
    all_goals (go_ret; refine ⟨?_, hbq⟩; show Ending.returned (Value.int .i64 _) = Ending.returned (Value.int .i64 _); rw [HV.out]; congr 2; omega)
  | 5, _ =>
    have hv : idxV n 5 = min ((n + 268435456) / 16777216) 31 := rfl
    have HV := hid hv
    clear hv
    go_enter Try.func101, Try.ntmps101
    go_wp2_with fail
    refine wp_region_quiet_below (by kernel_rfl) (by kernel_rfl) ?_
    repeat (first | go_big_quiet_step (fail) | quiet_step (fail))
    refine wpQuiet_nil ?_
    intro _ hw'
    obtain ⟨⟨dq, osq⟩, hw2⟩ := hw'
    subst hw2
    have hbq := below_regrown w dq osq
    go_wp2_with fail
    all_goals (go_ret; refine ⟨?_, hbq⟩; show Ending.returned (Value.int .i64 _) = Ending.returned (Value.int .i64 _); rw [HV.out]; congr 2; omega)
  | 6, _ =>
    have hv : idxV n 6 = min ((n + 268435456) / 8388608) 63 := rfl
    have HV := hid hv
    clear hv
    go_enter Try.func101, Try.ntmps101
    go_wp2_with fail
    refine wp_region_quiet_below (by kernel_rfl) (by kernel_rfl) ?_
    repeat (first | go_big_quiet_step (fail) | quiet_step (fail))
    refine wpQuiet_nil ?_
    intro _ hw'
    obtain ⟨⟨dq, osq⟩, hw2⟩ := hw'
    subst hw2
    have hbq := below_regrown w dq osq
    go_wp2_with fail
    all_goals (go_ret; refine ⟨?_, hbq⟩; show Ending.returned (Value.int .i64 _) = Ending.returned (Value.int .i64 _); rw [HV.out]; congr 2; omega)
  | 7, _ =>
    have hv : idxV n 7 = min ((n + 268435456) / 4194304) 127 := rfl
    have HV := hid hv
    clear hv
    go_enter Try.func101, Try.ntmps101
    go_wp2_with fail
    refine wp_region_quiet_below (by kernel_rfl) (by kernel_rfl) ?_
    repeat (first | go_big_quiet_step (fail) | quiet_step (fail))
    refine wpQuiet_nil ?_
    intro _ hw'
    obtain ⟨⟨dq, osq⟩, hw2⟩ := hw'
    subst hw2
    have hbq := below_regrown w dq osq
    go_wp2_with fail
    all_goals (go_ret; refine ⟨?_, hbq⟩; show Ending.returned (Value.int .i64 _) = Ending.returned (Value.int .i64 _); rw [HV.out]; congr 2; omega)
  | 8, _ =>
    have hv : idxV n 8 = min ((n + 268435456) / 2097152) 255 := rfl
    have HV := hid hv
    clear hv
    go_enter Try.func101, Try.ntmps101
    go_wp2_with fail
    refine wp_region_quiet_below (by kernel_rfl) (by kernel_rfl) ?_
    repeat (first | go_big_quiet_step (fail) | quiet_step (fail))
    refine wpQuiet_nil ?_
    intro _ hw'
    obtain ⟨⟨dq, osq⟩, hw2⟩ := hw'
    subst hw2
    have hbq := below_regrown w dq osq
    go_wp2_with fail
    all_goals (go_ret; refine ⟨?_, hbq⟩; show Ending.returned (Value.int .i64 _) = Ending.returned (Value.int .i64 _); rw [HV.out]; congr 2; omega)
  | 9, _ =>
    have hv : idxV n 9 = min ((n + 268435456) / 1048576) 511 := rfl
    have HV := hid hv
    clear hv
    go_enter Try.func101, Try.ntmps101
    go_wp2_with fail
    refine wp_region_quiet_below (by kernel_rfl) (by kernel_rfl) ?_
    repeat (first | go_big_quiet_step (fail) | quiet_step (fail))
    refine wpQuiet_nil ?_
    intro _ hw'
    obtain ⟨⟨dq, osq⟩, hw2⟩ := hw'
    subst hw2
    have hbq := below_regrown w dq osq
    go_wp2_with fail
    all_goals (go_ret; refine ⟨?_, hbq⟩; show Ending.returned (Value.int .i64 _) = Ending.returned (Value.int .i64 _); rw [HV.out]; congr 2; omega)
  | 10, _ =>
    have hv : idxV n 10 = min ((n + 268435456) / 524288) 1023 := rfl
    have HV := hid hv
    clear hv
    go_enter Try.func101, Try.ntmps101
    go_wp2_with fail
    refine wp_region_quiet_below (by kernel_rfl) (by kernel_rfl) ?_
    repeat (first | go_big_quiet_step (fail) | quiet_step (fail))
    refine wpQuiet_nil ?_
    intro _ hw'
    obtain ⟨⟨dq, osq⟩, hw2⟩ := hw'
    subst hw2
    have hbq := below_regrown w dq osq
    go_wp2_with fail
    all_goals (go_ret; refine ⟨?_, hbq⟩; show Ending.returned (Value.int .i64 _) = Ending.returned (Value.int .i64 _); rw [HV.out]; congr 2; omega)
  | 11, _ =>
    have hv : idxV n 11 = min ((n + 268435456) / 262144) 2047 := rfl
    have HV := hid hv
    clear hv
    go_enter Try.func101, Try.ntmps101
    go_wp2_with fail
    refine wp_region_quiet_below (by kernel_rfl) (by kernel_rfl) ?_
    repeat (first | go_big_quiet_step (fail) | quiet_step (fail))
    refine wpQuiet_nil ?_
    intro _ hw'
    obtain ⟨⟨dq, osq⟩, hw2⟩ := hw'
    subst hw2
    have hbq := below_regrown w dq osq
    go_wp2_with fail
    all_goals (go_ret; refine ⟨?_, hbq⟩; show Ending.returned (Value.int .i64 _) = Ending.returned (Value.int .i64 _); rw [HV.out]; congr 2; omega)
  | 12, _ =>
    have hv : idxV n 12 = min ((n + 268435456) / 131072) 4095 := rfl
    have HV := hid hv
    clear hv
    go_enter Try.func101, Try.ntmps101
    go_wp2_with fail
    refine wp_region_quiet_below (by kernel_rfl) (by kernel_rfl) ?_
    repeat (first | go_big_quiet_step (fail) | quiet_step (fail))
    refine wpQuiet_nil ?_
    intro _ hw'
    obtain ⟨⟨dq, osq⟩, hw2⟩ := hw'
    subst hw2
    have hbq := below_regrown w dq osq
    go_wp2_with fail
    all_goals (go_ret; refine ⟨?_, hbq⟩; show Ending.returned (Value.int .i64 _) = Ending.returned (Value.int .i64 _); rw [HV.out]; congr 2; omega)
  | L + 13, h => omega
-- CELLS
theorem size39 : (Try.prog.info? 39).map (·.size) = some 4 := by kernel_rfl
/-- the four numbers of a cell's key -/
def cellC (L : Nat) (x y z : Int) : Array Value := #[.int .i64 (L : Int), .int .i64 (idxV x L), .int .i64 (idxV y L), .int .i64 (idxV z L)]
set_option maxRecDepth 100000 in
theorem xCell_any (id x y zl zh wd nm of cl : Int) (L : Nat) (hL : L ≤ 12) (hx : -268435456 ≤ x ∧ x ≤ 268435456) (hy : -268435456 ≤ y ∧ y ≤ 268435456) (hz : -268435456 ≤ zl ∧ zl ≤ 268435456) (w : World) :
    Calls Try.prog 52 #[.agg #[.int .i64 id, .int .i64 x, .int .i64 y, .int .i64 zl, .int .i64 zh, .int .i64 wd, .int .i64 nm, .int .i64 of, .int .i64 cl], .int .i64 L] w fun e w' => e = .returned (.agg (cellC L x y zl)) ∧ Below w.heap.size w w' := by
  have HIX := hid (fun W => index_any x L hL hx W)
  have HIY := hid (fun W => index_any y L hL hy W)
  have HIZ := hid (fun W => index_any zl L hL hz W)
  go_enter Try.func52, Try.ntmps52
  go_wp2_with fail
  refine gen_world (fun V hV => ?_)
  have YP := hid (show V.heap[w.heap.size]? = some (.cells #[.int .i64 id, .int .i64 x, .int .i64 y, .int .i64 zl, .int .i64 zh, .int .i64 wd, .int .i64 nm, .int .i64 of, .int .i64 cl] 36) by rw [hV]; exact heap_alloc_past _ _ _ _ (heap_alloc_at _ _ _ rfl))
  have YK := hid (show V.heap[w.heap.size + 1]? = some (.cells #[.int .i64 0, .int .i64 0, .int .i64 0, .int .i64 0] 39) by rw [hV]; exact heap_alloc_at _ _ _ (by simp))
  have YW := hid (show Below w.heap.size w V by rw [hV]; (repeat' (first | (with_reducible exact Below.refl _ _) | (with_reducible assumption) | (with_reducible refine Below.alloc ?_ ?_ _) | (with_reducible refine Below.drew ?_) | (with_reducible refine below_drewN ?_ _) | (with_reducible refine Below.setCell ?_ ?_ _) | (with_reducible refine below_setRow ?_ ?_ _) | go_size)))
  have YZ : V.heap.size = w.heap.size + 1 + 1 := by rw [hV]; simp
  clear hV
  refine gen_act (fun A0 hA => ?_)
  refine wp_region_last (by kernel_rfl) (by kernel_rfl) [some 5, some 6, some 7, some 8, some 9, some 10, some 11, some 12, some 13, some 14, some 15, some 16, some 17, some 18, some 19, none] rfl (by decide) 15 rfl (by kernel_rfl) (by kernel_rfl)
    [IsV (.int .i64 (L : Int)), IsV (.pointer (some ⟨w.heap.size, 1, none⟩)), IsV (.int .i64 x), IsV (.int .i64 (L : Int)), IsV (.int .i64 (idxV x L)), IsV (.pointer (some ⟨w.heap.size, 2, none⟩)), IsV (.int .i64 y), IsV (.int .i64 (L : Int)), IsV (.int .i64 (idxV y L)), IsV (.pointer (some ⟨w.heap.size, 3, none⟩)), IsV (.pointer (some ⟨w.heap.size, 3, none⟩)), IsV (.int .i64 zl), IsV (.int .i64 (L : Int)), IsV (.int .i64 (idxV zl L)), IsV (.agg #[.int .i64 (L : Int), .int .i64 (idxV x L), .int .i64 (idxV y L), .int .i64 (idxV zl L)])]
    ⟨IsV.stb _, IsV.stb _, IsV.stb _, IsV.stb _, IsV.stb _, IsV.stb _, IsV.stb _, IsV.stb _, IsV.stb _, IsV.stb _, IsV.stb _, IsV.stb _, IsV.stb _, IsV.stb _, IsV.stb _, trivial⟩ ?hs1_1_V7 ?hlast_1_V7
  case hs1_1_V7 =>
    refine ⟨?_, ?_, ?_, ?_, ?_, ?_, ?_, ?_, ?_, ?_, ?_, ?_, ?_, ?_, ?_, trivial⟩
    · intro K us W hK0 hB hd
      have hK := hid hK0; clear hK0
      have HBW := hid hB
      have hsW := hB.size
      have GB := hid (YW.out.trans (hB.mono YW.out.size))
      clear hd
      simp only [putF]
      rw [hA]
      go_frame
      go_wp2_with fail
      exact hK.out _ _ _ (by rw [hA]; simp only [putF]; kernel_rfl) (Below.refl _ _) rfl
    · intro K us W hK0 hB hd
      have hK := hid hK0; clear hK0
      have HBW := hid hB
      have hsW := hB.size
      have GB := hid (YW.out.trans (hB.mono YW.out.size))
      clear hd
      simp only [putF]
      rw [hA]
      go_frame
      go_wp2_with fail
      exact hK.out _ _ _ (by rw [hA]; simp only [putF]; kernel_rfl) (Below.refl _ _) rfl
    · intro K us W hK0 hB hd
      have hK := hid hK0; clear hK0
      have HBW := hid hB
      have hsW := hB.size
      have GB := hid (YW.out.trans (hB.mono YW.out.size))
      have e1 : us 1 = .pointer (some ⟨w.heap.size, 1, none⟩) := hd ⟨1, Ground.data⟩ (by simp) rfl
      clear hd
      have G0 := hid (heap_still hB YP.out)
      have c0 : W.cell? ⟨w.heap.size, 1, none⟩ = some (.int .i64 x) := (cell_row (j := 1) G0.out).trans rfl
      simp only [putF]
      rw [hA, e1]
      go_frame
      go_wp2_with fail
      exact hK.out _ _ _ (by rw [hA]; simp only [putF]; rw [e1]; kernel_rfl) (Below.refl _ _) rfl
    · intro K us W hK0 hB hd
      have hK := hid hK0; clear hK0
      have HBW := hid hB
      have hsW := hB.size
      have GB := hid (YW.out.trans (hB.mono YW.out.size))
      clear hd
      simp only [putF]
      rw [hA]
      go_frame
      go_wp2_with fail
      exact hK.out _ _ _ (by rw [hA]; simp only [putF]; kernel_rfl) (Below.refl _ _) rfl
    · intro K us W hK0 hB hd
      have hK := hid hK0; clear hK0
      have HBW := hid hB
      have hsW := hB.size
      have GB := hid (YW.out.trans (hB.mono YW.out.size))
      have e2 : us 2 = .int .i64 x := hd ⟨2, Ground.data⟩ (by simp) rfl
      have e3 : us 3 = .int .i64 (L : Int) := hd ⟨3, Ground.data⟩ (by simp) rfl
      clear hd
      simp only [putF]
      rw [hA, e2, e3]
      go_frame
      go_wp2_with fail
      refine (HIX.out W).mono ?_
      rintro r W' ⟨rfl, hb⟩
      go_wp2_with fail
      exact hK.out _ _ _ (by rw [hA]; simp only [putF]; rw [e2, e3]; kernel_rfl) hb rfl
    · intro K us W hK0 hB hd
      have hK := hid hK0; clear hK0
      have HBW := hid hB
      have hsW := hB.size
      have GB := hid (YW.out.trans (hB.mono YW.out.size))
      clear hd
      simp only [putF]
      rw [hA]
      go_frame
      go_wp2_with fail
      exact hK.out _ _ _ (by rw [hA]; simp only [putF]; kernel_rfl) (Below.refl _ _) rfl
    · intro K us W hK0 hB hd
      have hK := hid hK0; clear hK0
      have HBW := hid hB
      have hsW := hB.size
      have GB := hid (YW.out.trans (hB.mono YW.out.size))
      have e5 : us 5 = .pointer (some ⟨w.heap.size, 2, none⟩) := hd ⟨5, Ground.data⟩ (by simp) rfl
      clear hd
      have G0 := hid (heap_still hB YP.out)
      have c0 : W.cell? ⟨w.heap.size, 2, none⟩ = some (.int .i64 y) := (cell_row (j := 2) G0.out).trans rfl
      simp only [putF]
      rw [hA, e5]
      go_frame
      go_wp2_with fail
      exact hK.out _ _ _ (by rw [hA]; simp only [putF]; rw [e5]; kernel_rfl) (Below.refl _ _) rfl
    · intro K us W hK0 hB hd
      have hK := hid hK0; clear hK0
      have HBW := hid hB
      have hsW := hB.size
      have GB := hid (YW.out.trans (hB.mono YW.out.size))
      clear hd
      simp only [putF]
      rw [hA]
      go_frame
      go_wp2_with fail
      exact hK.out _ _ _ (by rw [hA]; simp only [putF]; kernel_rfl) (Below.refl _ _) rfl
    · intro K us W hK0 hB hd
      have hK := hid hK0; clear hK0
      have HBW := hid hB
      have hsW := hB.size
      have GB := hid (YW.out.trans (hB.mono YW.out.size))
      have e6 : us 6 = .int .i64 y := hd ⟨6, Ground.data⟩ (by simp) rfl
      have e7 : us 7 = .int .i64 (L : Int) := hd ⟨7, Ground.data⟩ (by simp) rfl
      clear hd
      simp only [putF]
      rw [hA, e6, e7]
      go_frame
      go_wp2_with fail
      refine (HIY.out W).mono ?_
      rintro r W' ⟨rfl, hb⟩
      go_wp2_with fail
      exact hK.out _ _ _ (by rw [hA]; simp only [putF]; rw [e6, e7]; kernel_rfl) hb rfl
    · intro K us W hK0 hB hd
      have hK := hid hK0; clear hK0
      have HBW := hid hB
      have hsW := hB.size
      have GB := hid (YW.out.trans (hB.mono YW.out.size))
      clear hd
      simp only [putF]
      rw [hA]
      go_frame
      go_wp2_with fail
      exact hK.out _ _ _ (by rw [hA]; simp only [putF]; kernel_rfl) (Below.refl _ _) rfl
    · intro K us W hK0 hB hd
      have hK := hid hK0; clear hK0
      have HBW := hid hB
      have hsW := hB.size
      have GB := hid (YW.out.trans (hB.mono YW.out.size))
      have e9 : us 9 = .pointer (some ⟨w.heap.size, 3, none⟩) := hd ⟨9, Ground.data⟩ (by simp) rfl
      clear hd
      simp only [putF]
      rw [hA, e9]
      go_frame
      go_wp2_with fail
      exact hK.out _ _ _ (by rw [hA]; simp only [putF]; rw [e9]; kernel_rfl) (Below.refl _ _) rfl
    · intro K us W hK0 hB hd
      have hK := hid hK0; clear hK0
      have HBW := hid hB
      have hsW := hB.size
      have GB := hid (YW.out.trans (hB.mono YW.out.size))
      have e10 : us 10 = .pointer (some ⟨w.heap.size, 3, none⟩) := hd ⟨10, Ground.data⟩ (by simp) rfl
      clear hd
      have G0 := hid (heap_still hB YP.out)
      have c0 : W.cell? ⟨w.heap.size, 3, none⟩ = some (.int .i64 zl) := (cell_row (j := 3) G0.out).trans rfl
      simp only [putF]
      rw [hA, e10]
      go_frame
      go_wp2_with fail
      exact hK.out _ _ _ (by rw [hA]; simp only [putF]; rw [e10]; kernel_rfl) (Below.refl _ _) rfl
    · intro K us W hK0 hB hd
      have hK := hid hK0; clear hK0
      have HBW := hid hB
      have hsW := hB.size
      have GB := hid (YW.out.trans (hB.mono YW.out.size))
      clear hd
      simp only [putF]
      rw [hA]
      go_frame
      go_wp2_with fail
      exact hK.out _ _ _ (by rw [hA]; simp only [putF]; kernel_rfl) (Below.refl _ _) rfl
    · intro K us W hK0 hB hd
      have hK := hid hK0; clear hK0
      have HBW := hid hB
      have hsW := hB.size
      have GB := hid (YW.out.trans (hB.mono YW.out.size))
      have e11 : us 11 = .int .i64 zl := hd ⟨11, Ground.data⟩ (by simp) rfl
      have e12 : us 12 = .int .i64 (L : Int) := hd ⟨12, Ground.data⟩ (by simp) rfl
      clear hd
      simp only [putF]
      rw [hA, e11, e12]
      go_frame
      go_wp2_with fail
      refine (HIZ.out W).mono ?_
      rintro r W' ⟨rfl, hb⟩
      go_wp2_with fail
      exact hK.out _ _ _ (by rw [hA]; simp only [putF]; rw [e11, e12]; kernel_rfl) hb rfl
    · intro K us W hK0 hB hd
      have hK := hid hK0; clear hK0
      have HBW := hid hB
      have hsW := hB.size
      have GB := hid (YW.out.trans (hB.mono YW.out.size))
      have e0 : us 0 = .int .i64 (L : Int) := hd ⟨0, Ground.data⟩ (by simp) rfl
      have e4 : us 4 = .int .i64 (idxV x L) := hd ⟨4, Ground.data⟩ (by simp) rfl
      have e8 : us 8 = .int .i64 (idxV y L) := hd ⟨8, Ground.data⟩ (by simp) rfl
      have e13 : us 13 = .int .i64 (idxV zl L) := hd ⟨13, Ground.data⟩ (by simp) rfl
      clear hd
      simp only [putF]
      rw [hA, e0, e4, e8, e13]
      go_frame
      go_wp2_with fail
      exact hK.out _ _ _ (by rw [hA]; simp only [putF]; rw [e0, e4, e8, e13]; kernel_rfl) (Below.refl _ _) rfl
  intro K us V7 hK0 hB hp
  have hK := hid hK0
  clear hK0
  have e14 : us 14 = .agg #[.int .i64 (L : Int), .int .i64 (idxV x L), .int .i64 (idxV y L), .int .i64 (idxV zl L)] := hp 14 (by decide)
  have HBV7 := hid (YW.out.trans (hB.mono YW.out.size))
  have HSV7 := hid (fun n x => @heap_still _ _ n x hB)
  have hzV7 := hB.size
  have hbV7 := hid hB
  clear hp
  simp only [putF]
  rw [hA, e14]
  skip
  go_frame
  go_wp2_with (refine wpList_store_at rfl 39 (.tmp 4) (.tmp 19) rfl rfl rfl (HSV7.out _ _ YK.out) size39 rfl rfl rfl ?_)
  refine hK.out undef _ _ (by rw [hA]; simp only [putF]; rw [e14]; kernel_rfl) ?_
  clear hK hB hA e14
  go_wp2_with fail
  refine bodyPost_ret (results_at1 rfl rfl (setRow_heap _ _ _ _ _ _ (HSV7.out _ _ YK.out)) Try.underlying39 rfl size39 rfl) rfl ⟨rfl, below_setRow HBV7.out (by omega) _⟩
set_option maxRecDepth 100000 in
theorem rCell_any (id x y zl zh wd nm of cl : Int) (L : Nat) (hL : L ≤ 12) (hx : -268435456 ≤ x ∧ x ≤ 268435456) (hy : -268435456 ≤ y ∧ y ≤ 268435456) (hz : -268435456 ≤ zl ∧ zl ≤ 268435456) (w : World) :
    Calls Try.prog 53 #[.agg #[.int .i64 id, .int .i64 x, .int .i64 y, .int .i64 zl, .int .i64 zh, .int .i64 wd, .int .i64 nm, .int .i64 of, .int .i64 cl], .int .i64 L] w fun e w' => e = .returned (.agg (cellC L x y zl)) ∧ Below w.heap.size w w' := by
  have HIX := hid (fun W => step_any x L hL hx W)
  have HIY := hid (fun W => step_any y L hL hy W)
  have HIZ := hid (fun W => step_any zl L hL hz W)
  go_enter Try.func53, Try.ntmps53
  go_wp2_with fail
  refine gen_world (fun V hV => ?_)
  have YP := hid (show V.heap[w.heap.size]? = some (.cells #[.int .i64 id, .int .i64 x, .int .i64 y, .int .i64 zl, .int .i64 zh, .int .i64 wd, .int .i64 nm, .int .i64 of, .int .i64 cl] 36) by rw [hV]; exact heap_alloc_past _ _ _ _ (heap_alloc_at _ _ _ rfl))
  have YK := hid (show V.heap[w.heap.size + 1]? = some (.cells #[.int .i64 0, .int .i64 0, .int .i64 0, .int .i64 0] 39) by rw [hV]; exact heap_alloc_at _ _ _ (by simp))
  have YW := hid (show Below w.heap.size w V by rw [hV]; (repeat' (first | (with_reducible exact Below.refl _ _) | (with_reducible assumption) | (with_reducible refine Below.alloc ?_ ?_ _) | (with_reducible refine Below.drew ?_) | (with_reducible refine below_drewN ?_ _) | (with_reducible refine Below.setCell ?_ ?_ _) | (with_reducible refine below_setRow ?_ ?_ _) | go_size)))
  have YZ : V.heap.size = w.heap.size + 1 + 1 := by rw [hV]; simp
  clear hV
  refine gen_act (fun A0 hA => ?_)
  refine wp_region_last (by kernel_rfl) (by kernel_rfl) [some 5, some 6, some 7, some 8, some 9, some 10, some 11, some 12, some 13, some 14, some 15, some 16, some 17, some 18, some 19, none] rfl (by decide) 15 rfl (by kernel_rfl) (by kernel_rfl)
    [IsV (.int .i64 (L : Int)), IsV (.pointer (some ⟨w.heap.size, 1, none⟩)), IsV (.int .i64 x), IsV (.int .i64 (L : Int)), IsV (.int .i64 (idxV x L)), IsV (.pointer (some ⟨w.heap.size, 2, none⟩)), IsV (.int .i64 y), IsV (.int .i64 (L : Int)), IsV (.int .i64 (idxV y L)), IsV (.pointer (some ⟨w.heap.size, 3, none⟩)), IsV (.pointer (some ⟨w.heap.size, 3, none⟩)), IsV (.int .i64 zl), IsV (.int .i64 (L : Int)), IsV (.int .i64 (idxV zl L)), IsV (.agg #[.int .i64 (L : Int), .int .i64 (idxV x L), .int .i64 (idxV y L), .int .i64 (idxV zl L)])]
    ⟨IsV.stb _, IsV.stb _, IsV.stb _, IsV.stb _, IsV.stb _, IsV.stb _, IsV.stb _, IsV.stb _, IsV.stb _, IsV.stb _, IsV.stb _, IsV.stb _, IsV.stb _, IsV.stb _, IsV.stb _, trivial⟩ ?hs1_1_V7 ?hlast_1_V7
  case hs1_1_V7 =>
    refine ⟨?_, ?_, ?_, ?_, ?_, ?_, ?_, ?_, ?_, ?_, ?_, ?_, ?_, ?_, ?_, trivial⟩
    · intro K us W hK0 hB hd
      have hK := hid hK0; clear hK0
      have HBW := hid hB
      have hsW := hB.size
      have GB := hid (YW.out.trans (hB.mono YW.out.size))
      clear hd
      simp only [putF]
      rw [hA]
      go_frame
      go_wp2_with fail
      exact hK.out _ _ _ (by rw [hA]; simp only [putF]; kernel_rfl) (Below.refl _ _) rfl
    · intro K us W hK0 hB hd
      have hK := hid hK0; clear hK0
      have HBW := hid hB
      have hsW := hB.size
      have GB := hid (YW.out.trans (hB.mono YW.out.size))
      clear hd
      simp only [putF]
      rw [hA]
      go_frame
      go_wp2_with fail
      exact hK.out _ _ _ (by rw [hA]; simp only [putF]; kernel_rfl) (Below.refl _ _) rfl
    · intro K us W hK0 hB hd
      have hK := hid hK0; clear hK0
      have HBW := hid hB
      have hsW := hB.size
      have GB := hid (YW.out.trans (hB.mono YW.out.size))
      have e1 : us 1 = .pointer (some ⟨w.heap.size, 1, none⟩) := hd ⟨1, Ground.data⟩ (by simp) rfl
      clear hd
      have G0 := hid (heap_still hB YP.out)
      have c0 : W.cell? ⟨w.heap.size, 1, none⟩ = some (.int .i64 x) := (cell_row (j := 1) G0.out).trans rfl
      simp only [putF]
      rw [hA, e1]
      go_frame
      go_wp2_with fail
      exact hK.out _ _ _ (by rw [hA]; simp only [putF]; rw [e1]; kernel_rfl) (Below.refl _ _) rfl
    · intro K us W hK0 hB hd
      have hK := hid hK0; clear hK0
      have HBW := hid hB
      have hsW := hB.size
      have GB := hid (YW.out.trans (hB.mono YW.out.size))
      clear hd
      simp only [putF]
      rw [hA]
      go_frame
      go_wp2_with fail
      exact hK.out _ _ _ (by rw [hA]; simp only [putF]; kernel_rfl) (Below.refl _ _) rfl
    · intro K us W hK0 hB hd
      have hK := hid hK0; clear hK0
      have HBW := hid hB
      have hsW := hB.size
      have GB := hid (YW.out.trans (hB.mono YW.out.size))
      have e2 : us 2 = .int .i64 x := hd ⟨2, Ground.data⟩ (by simp) rfl
      have e3 : us 3 = .int .i64 (L : Int) := hd ⟨3, Ground.data⟩ (by simp) rfl
      clear hd
      simp only [putF]
      rw [hA, e2, e3]
      go_frame
      go_wp2_with fail
      refine (HIX.out W).mono ?_
      rintro r W' ⟨rfl, hb⟩
      go_wp2_with fail
      exact hK.out _ _ _ (by rw [hA]; simp only [putF]; rw [e2, e3]; kernel_rfl) hb rfl
    · intro K us W hK0 hB hd
      have hK := hid hK0; clear hK0
      have HBW := hid hB
      have hsW := hB.size
      have GB := hid (YW.out.trans (hB.mono YW.out.size))
      clear hd
      simp only [putF]
      rw [hA]
      go_frame
      go_wp2_with fail
      exact hK.out _ _ _ (by rw [hA]; simp only [putF]; kernel_rfl) (Below.refl _ _) rfl
    · intro K us W hK0 hB hd
      have hK := hid hK0; clear hK0
      have HBW := hid hB
      have hsW := hB.size
      have GB := hid (YW.out.trans (hB.mono YW.out.size))
      have e5 : us 5 = .pointer (some ⟨w.heap.size, 2, none⟩) := hd ⟨5, Ground.data⟩ (by simp) rfl
      clear hd
      have G0 := hid (heap_still hB YP.out)
      have c0 : W.cell? ⟨w.heap.size, 2, none⟩ = some (.int .i64 y) := (cell_row (j := 2) G0.out).trans rfl
      simp only [putF]
      rw [hA, e5]
      go_frame
      go_wp2_with fail
      exact hK.out _ _ _ (by rw [hA]; simp only [putF]; rw [e5]; kernel_rfl) (Below.refl _ _) rfl
    · intro K us W hK0 hB hd
      have hK := hid hK0; clear hK0
      have HBW := hid hB
      have hsW := hB.size
      have GB := hid (YW.out.trans (hB.mono YW.out.size))
      clear hd
      simp only [putF]
      rw [hA]
      go_frame
      go_wp2_with fail
      exact hK.out _ _ _ (by rw [hA]; simp only [putF]; kernel_rfl) (Below.refl _ _) rfl
    · intro K us W hK0 hB hd
      have hK := hid hK0; clear hK0
      have HBW := hid hB
      have hsW := hB.size
      have GB := hid (YW.out.trans (hB.mono YW.out.size))
      have e6 : us 6 = .int .i64 y := hd ⟨6, Ground.data⟩ (by simp) rfl
      have e7 : us 7 = .int .i64 (L : Int) := hd ⟨7, Ground.data⟩ (by simp) rfl
      clear hd
      simp only [putF]
      rw [hA, e6, e7]
      go_frame
      go_wp2_with fail
      refine (HIY.out W).mono ?_
      rintro r W' ⟨rfl, hb⟩
      go_wp2_with fail
      exact hK.out _ _ _ (by rw [hA]; simp only [putF]; rw [e6, e7]; kernel_rfl) hb rfl
    · intro K us W hK0 hB hd
      have hK := hid hK0; clear hK0
      have HBW := hid hB
      have hsW := hB.size
      have GB := hid (YW.out.trans (hB.mono YW.out.size))
      clear hd
      simp only [putF]
      rw [hA]
      go_frame
      go_wp2_with fail
      exact hK.out _ _ _ (by rw [hA]; simp only [putF]; kernel_rfl) (Below.refl _ _) rfl
    · intro K us W hK0 hB hd
      have hK := hid hK0; clear hK0
      have HBW := hid hB
      have hsW := hB.size
      have GB := hid (YW.out.trans (hB.mono YW.out.size))
      have e9 : us 9 = .pointer (some ⟨w.heap.size, 3, none⟩) := hd ⟨9, Ground.data⟩ (by simp) rfl
      clear hd
      simp only [putF]
      rw [hA, e9]
      go_frame
      go_wp2_with fail
      exact hK.out _ _ _ (by rw [hA]; simp only [putF]; rw [e9]; kernel_rfl) (Below.refl _ _) rfl
    · intro K us W hK0 hB hd
      have hK := hid hK0; clear hK0
      have HBW := hid hB
      have hsW := hB.size
      have GB := hid (YW.out.trans (hB.mono YW.out.size))
      have e10 : us 10 = .pointer (some ⟨w.heap.size, 3, none⟩) := hd ⟨10, Ground.data⟩ (by simp) rfl
      clear hd
      have G0 := hid (heap_still hB YP.out)
      have c0 : W.cell? ⟨w.heap.size, 3, none⟩ = some (.int .i64 zl) := (cell_row (j := 3) G0.out).trans rfl
      simp only [putF]
      rw [hA, e10]
      go_frame
      go_wp2_with fail
      exact hK.out _ _ _ (by rw [hA]; simp only [putF]; rw [e10]; kernel_rfl) (Below.refl _ _) rfl
    · intro K us W hK0 hB hd
      have hK := hid hK0; clear hK0
      have HBW := hid hB
      have hsW := hB.size
      have GB := hid (YW.out.trans (hB.mono YW.out.size))
      clear hd
      simp only [putF]
      rw [hA]
      go_frame
      go_wp2_with fail
      exact hK.out _ _ _ (by rw [hA]; simp only [putF]; kernel_rfl) (Below.refl _ _) rfl
    · intro K us W hK0 hB hd
      have hK := hid hK0; clear hK0
      have HBW := hid hB
      have hsW := hB.size
      have GB := hid (YW.out.trans (hB.mono YW.out.size))
      have e11 : us 11 = .int .i64 zl := hd ⟨11, Ground.data⟩ (by simp) rfl
      have e12 : us 12 = .int .i64 (L : Int) := hd ⟨12, Ground.data⟩ (by simp) rfl
      clear hd
      simp only [putF]
      rw [hA, e11, e12]
      go_frame
      go_wp2_with fail
      refine (HIZ.out W).mono ?_
      rintro r W' ⟨rfl, hb⟩
      go_wp2_with fail
      exact hK.out _ _ _ (by rw [hA]; simp only [putF]; rw [e11, e12]; kernel_rfl) hb rfl
    · intro K us W hK0 hB hd
      have hK := hid hK0; clear hK0
      have HBW := hid hB
      have hsW := hB.size
      have GB := hid (YW.out.trans (hB.mono YW.out.size))
      have e0 : us 0 = .int .i64 (L : Int) := hd ⟨0, Ground.data⟩ (by simp) rfl
      have e4 : us 4 = .int .i64 (idxV x L) := hd ⟨4, Ground.data⟩ (by simp) rfl
      have e8 : us 8 = .int .i64 (idxV y L) := hd ⟨8, Ground.data⟩ (by simp) rfl
      have e13 : us 13 = .int .i64 (idxV zl L) := hd ⟨13, Ground.data⟩ (by simp) rfl
      clear hd
      simp only [putF]
      rw [hA, e0, e4, e8, e13]
      go_frame
      go_wp2_with fail
      exact hK.out _ _ _ (by rw [hA]; simp only [putF]; rw [e0, e4, e8, e13]; kernel_rfl) (Below.refl _ _) rfl
  intro K us V7 hK0 hB hp
  have hK := hid hK0
  clear hK0
  have e14 : us 14 = .agg #[.int .i64 (L : Int), .int .i64 (idxV x L), .int .i64 (idxV y L), .int .i64 (idxV zl L)] := hp 14 (by decide)
  have HBV7 := hid (YW.out.trans (hB.mono YW.out.size))
  have HSV7 := hid (fun n x => @heap_still _ _ n x hB)
  have hzV7 := hB.size
  have hbV7 := hid hB
  clear hp
  simp only [putF]
  rw [hA, e14]
  skip
  go_frame
  go_wp2_with (refine wpList_store_at rfl 39 (.tmp 4) (.tmp 19) rfl rfl rfl (HSV7.out _ _ YK.out) size39 rfl rfl rfl ?_)
  refine hK.out undef _ _ (by rw [hA]; simp only [putF]; rw [e14]; kernel_rfl) ?_
  clear hK hB hA e14
  go_wp2_with fail
  refine bodyPost_ret (results_at1 rfl rfl (setRow_heap _ _ _ _ _ _ (HSV7.out _ _ YK.out)) Try.underlying39 rfl size39 rfl) rfl ⟨rfl, below_setRow HBV7.out (by omega) _⟩
end Go.Proofs.Yteanlcefdoigcaa
namespace Go.Proofs.Yteanlcefdoigcaa
open Go.RowKit

/-- 2 to the power of a level -/
def powL (L : Int) : Int := 2 ^ L.toNat
theorem powL_bd {L : Int} (h : 0 ≤ L ∧ L ≤ 12) : 1 ≤ powL L ∧ powL L ≤ 4096 := by
  obtain ⟨l, rfl⟩ := Int.eq_ofNat_of_zero_le h.1
  match l, h.2 with
  | 0, _ | 1, _ | 2, _ | 3, _ | 4, _ | 5, _ | 6, _ | 7, _ | 8, _ | 9, _ | 10, _ | 11, _ | 12, _ => decide
  | l + 13, h => omega
theorem shl_u {L : Int} (h : 0 ≤ L ∧ L ≤ 12) : binOp .shl 3 (.int .i64 1) (.int .u64 L) = pure (.int .i64 (powL L)) := by
  obtain ⟨l, rfl⟩ := Int.eq_ofNat_of_zero_le h.1
  match l, h.2 with
  | 0, _ | 1, _ | 2, _ | 3, _ | 4, _ | 5, _ | 6, _ | 7, _ | 8, _ | 9, _ | 10, _ | 11, _ | 12, _ => rfl
  | l + 13, h => omega
theorem shl_i {L : Int} (h : 0 ≤ L ∧ L ≤ 12) : binOp .shl 3 (.int .i64 1) (.int .i64 L) = pure (.int .i64 (powL L)) := by
  obtain ⟨l, rfl⟩ := Int.eq_ofNat_of_zero_le h.1
  match l, h.2 with
  | 0, _ | 1, _ | 2, _ | 3, _ | 4, _ | 5, _ | 6, _ | 7, _ | 8, _ | 9, _ | 10, _ | 11, _ | 12, _ => rfl
  | l + 13, h => omega
def keyB (L x y z : Int) : Bool := inB 0 12 L && (inB 0 (powL L - 1) x && inB 0 (powL L - 1) y && inB 0 (powL L - 1) z)
theorem keyB_bad {L x y z : Int} (h : ¬ (0 ≤ L ∧ L ≤ 12)) : keyB L x y z = false := by
  unfold keyB
  rw [show inB 0 12 L = false by simp [inB]; omega]
  rfl
theorem index3_0 (a b c : Int) (w : World) : (Instr.index 135 (.agg #[.int .i64 a, .int .i64 b, .int .i64 c]) (.int .i64 0)).run Try.prog w = .ok (.int .i64 a) w := by kernel_rfl
theorem index3_1 (a b c : Int) (w : World) : (Instr.index 135 (.agg #[.int .i64 a, .int .i64 b, .int .i64 c]) (.int .i64 1)).run Try.prog w = .ok (.int .i64 b) w := by kernel_rfl
theorem index3_2 (a b c : Int) (w : World) : (Instr.index 135 (.agg #[.int .i64 a, .int .i64 b, .int .i64 c]) (.int .i64 2)).run Try.prog w = .ok (.int .i64 c) w := by kernel_rfl
set_option maxRecDepth 100000 in
theorem xKey_any (L x y z : Int) (w : World) :
    Calls Try.prog 54 #[.agg #[.int .i64 L, .int .i64 x, .int .i64 y, .int .i64 z]] w fun e w' => e = .returned (.bool (keyB L x y z)) ∧ Below w.heap.size w w' := by
  by_cases hL : 0 ≤ L ∧ L ≤ 12
  · have hsh := shl_u hL
    have hpb := powL_bd hL
    obtain ⟨p, hp⟩ : ∃ p, p = powL L := ⟨_, rfl⟩
    rw [← hp] at hsh hpb
    have HPP := hid hp
    clear hp
    have hi0 := index3_0 x y z
    have hi1 := index3_1 x y z
    have hi2 := index3_2 x y z
    go_enter Try.func54, Try.ntmps54
    go_wp2_with fail
    refine wp_loop_rounds 4 ?_
    rw [rounds_succ]
    by_cases lx : x < 0
    · have HV := hid (show keyB L x y z = false by unfold keyB; rw [show inB 0 (powL L - 1) x = false by simp [inB]; omega]; simp)
      go_wp2_with fail
      go_ret
      exact ⟨by rw [HV.out]; rfl, by (repeat' (first | (with_reducible exact Below.refl _ _) | (with_reducible assumption) | (with_reducible refine Below.alloc ?_ ?_ _) | (with_reducible refine Below.drew ?_) | (with_reducible refine below_drewN ?_ _) | (with_reducible refine Below.setCell ?_ ?_ _) | (with_reducible refine below_setRow ?_ ?_ _) | go_size))⟩
    by_cases gx : p ≤ x
    · have HV := hid (show keyB L x y z = false by unfold keyB; rw [show inB 0 (powL L - 1) x = false by have := HPP.out; simp [inB]; omega]; simp)
      go_wp2_with fail
      go_ret
      exact ⟨by rw [HV.out]; rfl, by (repeat' (first | (with_reducible exact Below.refl _ _) | (with_reducible assumption) | (with_reducible refine Below.alloc ?_ ?_ _) | (with_reducible refine Below.drew ?_) | (with_reducible refine below_drewN ?_ _) | (with_reducible refine Below.setCell ?_ ?_ _) | (with_reducible refine below_setRow ?_ ?_ _) | go_size))⟩
    go_wp2_with fail
    rw [rounds_succ]
    by_cases ly : y < 0
    · have HV := hid (show keyB L x y z = false by unfold keyB; rw [show inB 0 (powL L - 1) y = false by simp [inB]; omega]; simp)
      go_wp2_with fail
      go_ret
      exact ⟨by rw [HV.out]; rfl, by (repeat' (first | (with_reducible exact Below.refl _ _) | (with_reducible assumption) | (with_reducible refine Below.alloc ?_ ?_ _) | (with_reducible refine Below.drew ?_) | (with_reducible refine below_drewN ?_ _) | (with_reducible refine Below.setCell ?_ ?_ _) | (with_reducible refine below_setRow ?_ ?_ _) | go_size))⟩
    by_cases gy : p ≤ y
    · have HV := hid (show keyB L x y z = false by unfold keyB; rw [show inB 0 (powL L - 1) y = false by have := HPP.out; simp [inB]; omega]; simp)
      go_wp2_with fail
      go_ret
      exact ⟨by rw [HV.out]; rfl, by (repeat' (first | (with_reducible exact Below.refl _ _) | (with_reducible assumption) | (with_reducible refine Below.alloc ?_ ?_ _) | (with_reducible refine Below.drew ?_) | (with_reducible refine below_drewN ?_ _) | (with_reducible refine Below.setCell ?_ ?_ _) | (with_reducible refine below_setRow ?_ ?_ _) | go_size))⟩
    go_wp2_with fail
    rw [rounds_succ]
    by_cases lz : z < 0
    · have HV := hid (show keyB L x y z = false by unfold keyB; rw [show inB 0 (powL L - 1) z = false by simp [inB]; omega]; simp)
      go_wp2_with fail
      go_ret
      exact ⟨by rw [HV.out]; rfl, by (repeat' (first | (with_reducible exact Below.refl _ _) | (with_reducible assumption) | (with_reducible refine Below.alloc ?_ ?_ _) | (with_reducible refine Below.drew ?_) | (with_reducible refine below_drewN ?_ _) | (with_reducible refine Below.setCell ?_ ?_ _) | (with_reducible refine below_setRow ?_ ?_ _) | go_size))⟩
    by_cases gz : p ≤ z
    · have HV := hid (show keyB L x y z = false by unfold keyB; rw [show inB 0 (powL L - 1) z = false by have := HPP.out; simp [inB]; omega]; simp)
      go_wp2_with fail
      go_ret
      exact ⟨by rw [HV.out]; rfl, by (repeat' (first | (with_reducible exact Below.refl _ _) | (with_reducible assumption) | (with_reducible refine Below.alloc ?_ ?_ _) | (with_reducible refine Below.drew ?_) | (with_reducible refine below_drewN ?_ _) | (with_reducible refine Below.setCell ?_ ?_ _) | (with_reducible refine below_setRow ?_ ?_ _) | go_size))⟩
    go_wp2_with fail
    rw [rounds_succ]
    have HV := hid (show keyB L x y z = true by have := HPP.out; unfold keyB; simp [inB]; omega)
    go_wp2_with fail
    go_ret
    exact ⟨by rw [HV.out]; rfl, by (repeat' (first | (with_reducible exact Below.refl _ _) | (with_reducible assumption) | (with_reducible refine Below.alloc ?_ ?_ _) | (with_reducible refine Below.drew ?_) | (with_reducible refine below_drewN ?_ _) | (with_reducible refine Below.setCell ?_ ?_ _) | (with_reducible refine below_setRow ?_ ?_ _) | go_size))⟩
  · have HV := hid (keyB_bad (x := x) (y := y) (z := z) hL)
    by_cases h0 : L < 0
    · go_enter Try.func54, Try.ntmps54
      go_wp2_with fail
      go_ret
      exact ⟨by rw [HV.out]; rfl, by (repeat' (first | (with_reducible exact Below.refl _ _) | (with_reducible assumption) | (with_reducible refine Below.alloc ?_ ?_ _) | (with_reducible refine Below.drew ?_) | (with_reducible refine below_drewN ?_ _) | (with_reducible refine Below.setCell ?_ ?_ _) | (with_reducible refine below_setRow ?_ ?_ _) | go_size))⟩
    · have h1 : 12 < L := by omega
      go_enter Try.func54, Try.ntmps54
      go_wp2_with fail
      go_ret
      exact ⟨by rw [HV.out]; rfl, by (repeat' (first | (with_reducible exact Below.refl _ _) | (with_reducible assumption) | (with_reducible refine Below.alloc ?_ ?_ _) | (with_reducible refine Below.drew ?_) | (with_reducible refine below_drewN ?_ _) | (with_reducible refine Below.setCell ?_ ?_ _) | (with_reducible refine below_setRow ?_ ?_ _) | go_size))⟩
theorem keyB_good {L x y z : Int} (h : 0 ≤ L ∧ L ≤ 12) : keyB L x y z = (inB 0 (powL L - 1) x && inB 0 (powL L - 1) y && inB 0 (powL L - 1) z) := by
  unfold keyB
  rw [show inB 0 12 L = true by simp [inB]; omega]
  rfl
set_option maxRecDepth 100000 in
theorem rKey_any (L x y z : Int) (w : World) :
    Calls Try.prog 55 #[.agg #[.int .i64 L, .int .i64 x, .int .i64 y, .int .i64 z]] w fun e w' => e = .returned (.bool (keyB L x y z)) ∧ Below w.heap.size w w' := by
  by_cases hL : 0 ≤ L ∧ L ≤ 12
  · have hsh := shl_i hL
    have HV := hid (keyB_good (x := x) (y := y) (z := z) hL)
    have hpb := powL_bd hL
    have hin : inB 0 12 L = true := by simp [inB]; omega
    have HIN := hid hin; clear hin
    generalize powL L = p at *
    obtain ⟨m, rfl⟩ : ∃ m, p = m + 1 := ⟨p - 1, by omega⟩
    simp only [Int.add_sub_cancel] at HV
    go_enter Try.func55, Try.ntmps55
    go_wp2_with fail
    refine (from_any _ _ _ _).mono ?_
    rintro r w1 ⟨rfl, rfl⟩
    rw [HIN.out]
    go_wp2_with fail
    by_cases h1 : inB 0 m x = true
    · by_cases h2 : inB 0 m y = true
      · have HS := hid (show keyB L x y z = inB 0 m z by simp [HV.out, h1, h2])
        have H1 := hid h1
        have H2 := hid h2
        clear h1 h2
        go_wp2_with fail
        refine (from_any _ _ _ _).mono ?_
        rintro r w1 ⟨rfl, rfl⟩
        rw [H1.out]
        go_wp2_with fail
        refine (from_any _ _ _ _).mono ?_
        rintro r w1 ⟨rfl, rfl⟩
        rw [H2.out]
        go_wp2_with fail
        refine (from_any _ _ _ _).mono ?_
        rintro r w1 ⟨rfl, rfl⟩
        go_wp2_with fail
        go_ret
        refine ⟨by rw [HS.out]; rfl, ?_⟩
        (try have hB0 := HB.out)
        (repeat' (first | (with_reducible exact Below.refl _ _) | (with_reducible assumption) | (with_reducible refine Below.alloc ?_ ?_ _) | (with_reducible refine Below.drew ?_) | (with_reducible refine below_drewN ?_ _) | (with_reducible refine Below.setCell ?_ ?_ _) | (with_reducible refine below_setRow ?_ ?_ _) | go_size))
      · have HS := hid (show keyB L x y z = false by simp [HV.out, h1, h2])
        have H1 := hid h1
        have H2 := hid (Bool.eq_false_iff.2 h2)
        clear h1 h2
        go_wp2_with fail
        refine (from_any _ _ _ _).mono ?_
        rintro r w1 ⟨rfl, rfl⟩
        rw [H1.out]
        go_wp2_with fail
        refine (from_any _ _ _ _).mono ?_
        rintro r w1 ⟨rfl, rfl⟩
        rw [H2.out]
        go_wp2_with fail
        go_ret
        refine ⟨by rw [HS.out]; rfl, ?_⟩
        (try have hB0 := HB.out)
        (repeat' (first | (with_reducible exact Below.refl _ _) | (with_reducible assumption) | (with_reducible refine Below.alloc ?_ ?_ _) | (with_reducible refine Below.drew ?_) | (with_reducible refine below_drewN ?_ _) | (with_reducible refine Below.setCell ?_ ?_ _) | (with_reducible refine below_setRow ?_ ?_ _) | go_size))
    · have HS := hid (show keyB L x y z = false by simp [HV.out, h1])
      have H1 := hid (Bool.eq_false_iff.2 h1)
      clear h1
      go_wp2_with fail
      refine (from_any _ _ _ _).mono ?_
      rintro r w1 ⟨rfl, rfl⟩
      rw [H1.out]
      go_wp2_with fail
      go_ret
      refine ⟨by rw [HS.out]; rfl, ?_⟩
      (try have hB0 := HB.out)
      (repeat' (first | (with_reducible exact Below.refl _ _) | (with_reducible assumption) | (with_reducible refine Below.alloc ?_ ?_ _) | (with_reducible refine Below.drew ?_) | (with_reducible refine below_drewN ?_ _) | (with_reducible refine Below.setCell ?_ ?_ _) | (with_reducible refine below_setRow ?_ ?_ _) | go_size))
  · have HV := hid (keyB_bad (x := x) (y := y) (z := z) hL)
    have hin : inB 0 12 L = false := by simp [inB]; omega
    have HIN := hid hin; clear hin
    go_enter Try.func55, Try.ntmps55
    go_wp2_with fail
    refine (from_any _ _ _ _).mono ?_
    rintro r w1 ⟨rfl, rfl⟩
    rw [HIN.out]
    go_wp2_with fail
    go_ret
    exact ⟨by rw [HV.out]; rfl, by (repeat' (first | (with_reducible exact Below.refl _ _) | (with_reducible assumption) | (with_reducible refine Below.alloc ?_ ?_ _) | (with_reducible refine Below.drew ?_) | (with_reducible refine below_drewN ?_ _) | (with_reducible refine Below.setCell ?_ ?_ _) | (with_reducible refine below_setRow ?_ ?_ _) | go_size))⟩
end Go.Proofs.Yteanlcefdoigcaa
namespace Go.Proofs.Yteanlcefdoigcaa
open Go.RowKit

/-- the key above, and whether there is one -/
def aboveC (L x y z : Int) : Array Value := #[.int .i64 (L - 1), .int .i64 (x / 2), .int .i64 (y / 2), .int .i64 (z / 2)]
def noKeyC : Array Value := #[.int .i64 0, .int .i64 0, .int .i64 0, .int .i64 0]
def aboveB (L x y z : Int) : Bool := keyB L x y z && !decide (L = 0)
def aboveV (L x y z : Int) : Value := if aboveB L x y z = true then .tuple #[.agg (aboveC L x y z), .int .i64 0] else .tuple #[.agg noKeyC, .int .i64 80]
theorem aboveV_yes {L x y z : Int} (h : keyB L x y z = true) (h0 : L ≠ 0) : aboveV L x y z = .tuple #[.agg (aboveC L x y z), .int .i64 0] := by
  unfold aboveV aboveB; rw [h]; simp [h0]
theorem aboveV_no {L x y z : Int} (h : keyB L x y z = false ∨ L = 0) : aboveV L x y z = .tuple #[.agg noKeyC, .int .i64 80] := by
  unfold aboveV aboveB
  rcases h with h | h
  · rw [h]; simp
  · simp [h]
theorem keyB_yes {L x y z : Int} (h : keyB L x y z = true) : (0 ≤ L ∧ L ≤ 12) ∧ (0 ≤ x ∧ x < 4096) ∧ (0 ≤ y ∧ y < 4096) ∧ (0 ≤ z ∧ z < 4096) := by
  unfold keyB at h
  simp [inB] at h
  have := powL_bd (L := L) (by omega)
  omega
theorem half_i64 {x : Int} (h : 0 ≤ x ∧ x < 4096) : IntKind.i64.wrap (x.tdiv 2) = x / 2 := by
  rw [Int.tdiv_eq_ediv_of_nonneg h.1, IntKind.wrap_i64]
  omega
set_option maxRecDepth 100000 in
theorem xAbove_any (L x y z : Int) (w : World) :
    Calls Try.prog 21 #[.agg #[.int .i64 L, .int .i64 x, .int .i64 y, .int .i64 z]] w fun e w' => e = .returned (aboveV L x y z) ∧ Below w.heap.size w w' := by
  cases hk : keyB L x y z
  · have HV := hid (aboveV_no (.inl hk))
    have HK := hid hk
    clear hk
    go_enter Try.func21, Try.ntmps21
    go_wp2_with fail
    refine (xKey_any L x y z _).mono ?_
    rintro r w4 ⟨rfl, hb⟩
    have HB := hid ((by refine Below.trans ?_ (hb.mono ?_); (focus ((repeat' (first | (with_reducible exact Below.refl _ _) | (with_reducible assumption) | (with_reducible refine Below.alloc ?_ ?_ _) | (with_reducible refine Below.drew ?_) | (with_reducible refine below_drewN ?_ _) | (with_reducible refine Below.setCell ?_ ?_ _) | (with_reducible refine below_setRow ?_ ?_ _) | go_size)); done)); (focus (first | (simp; done) | (simp; omega)))) : Below w.heap.size w w4)
    have HR := hid (show w4.heap[w.heap.size + 1]? = some (.cells noKeyC 39) from heap_still hb (heap_alloc_at _ _ _ (by simp)))
    have HK4 : w4.heap[w.heap.size]? = some (.cells #[.int .i64 L, .int .i64 x, .int .i64 y, .int .i64 z] 39) := heap_still hb (heap_alloc_past _ _ _ _ (heap_alloc_at _ _ _ rfl))
    have hc0 : w4.cell? ⟨w.heap.size, 0, none⟩ = some (.int .i64 L) := by rw [cell_row HK4]; rfl
    have hc1 : w4.cell? ⟨w.heap.size, 1, none⟩ = some (.int .i64 x) := by rw [cell_row HK4]; rfl
    have hc2 : w4.cell? ⟨w.heap.size, 2, none⟩ = some (.int .i64 y) := by rw [cell_row HK4]; rfl
    have hc3 : w4.cell? ⟨w.heap.size, 3, none⟩ = some (.int .i64 z) := by rw [cell_row HK4]; rfl
    clear hb HK4
    rw [HK.out]
    go_wp2_with (refine wpList_store_at rfl 39 (.tmp 2) (.tmp 12) rfl rfl rfl HR.out size39 rfl rfl rfl ?_)
    refine bodyPost_ret (results_at2 rfl rfl (setRow_heap _ _ _ _ _ _ HR.out) Try.underlying39 rfl size39 rfl) rfl ?_
    exact ⟨by rw [HV.out]; rfl, below_setRow HB.out (by omega) _⟩
  · have hbd := keyB_yes hk
    have HK := hid hk
    clear hk
    by_cases h0 : L = 0
    · subst h0
      have HV := hid (aboveV_no (L := 0) (x := x) (y := y) (z := z) (.inr rfl))
      go_enter Try.func21, Try.ntmps21
      go_wp2_with fail
      refine (xKey_any 0 x y z _).mono ?_
      rintro r w4 ⟨rfl, hb⟩
      have HB := hid ((by refine Below.trans ?_ (hb.mono ?_); (focus ((repeat' (first | (with_reducible exact Below.refl _ _) | (with_reducible assumption) | (with_reducible refine Below.alloc ?_ ?_ _) | (with_reducible refine Below.drew ?_) | (with_reducible refine below_drewN ?_ _) | (with_reducible refine Below.setCell ?_ ?_ _) | (with_reducible refine below_setRow ?_ ?_ _) | go_size)); done)); (focus (first | (simp; done) | (simp; omega)))) : Below w.heap.size w w4)
      have HR := hid (show w4.heap[w.heap.size + 1]? = some (.cells noKeyC 39) from heap_still hb (heap_alloc_at _ _ _ (by simp)))
      have HK4 : w4.heap[w.heap.size]? = some (.cells #[.int .i64 0, .int .i64 x, .int .i64 y, .int .i64 z] 39) := heap_still hb (heap_alloc_past _ _ _ _ (heap_alloc_at _ _ _ rfl))
      have hc0 : w4.cell? ⟨w.heap.size, 0, none⟩ = some (.int .i64 0) := by rw [cell_row HK4]; rfl
      have hc1 : w4.cell? ⟨w.heap.size, 1, none⟩ = some (.int .i64 x) := by rw [cell_row HK4]; rfl
      have hc2 : w4.cell? ⟨w.heap.size, 2, none⟩ = some (.int .i64 y) := by rw [cell_row HK4]; rfl
      have hc3 : w4.cell? ⟨w.heap.size, 3, none⟩ = some (.int .i64 z) := by rw [cell_row HK4]; rfl
      clear hb HK4
      rw [HK.out]
      go_wp2_with (refine wpList_store_at rfl 39 (.tmp 2) (.tmp 12) rfl rfl rfl HR.out size39 rfl rfl rfl ?_)
      refine bodyPost_ret (results_at2 rfl rfl (setRow_heap _ _ _ _ _ _ HR.out) Try.underlying39 rfl size39 rfl) rfl ?_
      exact ⟨by rw [HV.out]; rfl, below_setRow HB.out (by omega) _⟩
    · have HV := hid (aboveV_yes HK.out h0)
      have hwx := half_i64 hbd.2.1
      have hwy := half_i64 hbd.2.2.1
      have hwz := half_i64 hbd.2.2.2
      go_enter Try.func21, Try.ntmps21
      go_wp2_with fail
      refine (xKey_any L x y z _).mono ?_
      rintro r w4 ⟨rfl, hb⟩
      have HB := hid ((by refine Below.trans ?_ (hb.mono ?_); (focus ((repeat' (first | (with_reducible exact Below.refl _ _) | (with_reducible assumption) | (with_reducible refine Below.alloc ?_ ?_ _) | (with_reducible refine Below.drew ?_) | (with_reducible refine below_drewN ?_ _) | (with_reducible refine Below.setCell ?_ ?_ _) | (with_reducible refine below_setRow ?_ ?_ _) | go_size)); done)); (focus (first | (simp; done) | (simp; omega)))) : Below w.heap.size w w4)
      have HR := hid (show w4.heap[w.heap.size + 1]? = some (.cells noKeyC 39) from heap_still hb (heap_alloc_at _ _ _ (by simp)))
      have HK4 : w4.heap[w.heap.size]? = some (.cells #[.int .i64 L, .int .i64 x, .int .i64 y, .int .i64 z] 39) := heap_still hb (heap_alloc_past _ _ _ _ (heap_alloc_at _ _ _ rfl))
      have hc0 : w4.cell? ⟨w.heap.size, 0, none⟩ = some (.int .i64 L) := by rw [cell_row HK4]; rfl
      have hc1 : w4.cell? ⟨w.heap.size, 1, none⟩ = some (.int .i64 x) := by rw [cell_row HK4]; rfl
      have hc2 : w4.cell? ⟨w.heap.size, 2, none⟩ = some (.int .i64 y) := by rw [cell_row HK4]; rfl
      have hc3 : w4.cell? ⟨w.heap.size, 3, none⟩ = some (.int .i64 z) := by rw [cell_row HK4]; rfl
      clear hb HK4
      rw [HK.out]
      go_wp2_with (refine wpList_store_at rfl 39 (.tmp 2) (.tmp 25) rfl rfl rfl HR.out size39 rfl rfl rfl ?_)
      refine bodyPost_ret (results_at2 rfl rfl (setRow_heap _ _ _ _ _ _ HR.out) Try.underlying39 rfl size39 rfl) rfl ?_
      exact ⟨by rw [HV.out]; rfl, below_setRow HB.out (by omega) _⟩
set_option maxRecDepth 100000 in
theorem rAbove_any (L x y z : Int) (w : World) :
    Calls Try.prog 22 #[.agg #[.int .i64 L, .int .i64 x, .int .i64 y, .int .i64 z]] w fun e w' => e = .returned (aboveV L x y z) ∧ Below w.heap.size w w' := by
  cases hk : keyB L x y z
  · have HV := hid (aboveV_no (.inl hk))
    have HK := hid hk
    clear hk
    go_enter Try.func22, Try.ntmps22
    go_wp2_with fail
    refine (rKey_any L x y z _).mono ?_
    rintro r w4 ⟨rfl, hb⟩
    have HB := hid ((by refine Below.trans ?_ (hb.mono ?_); (focus ((repeat' (first | (with_reducible exact Below.refl _ _) | (with_reducible assumption) | (with_reducible refine Below.alloc ?_ ?_ _) | (with_reducible refine Below.drew ?_) | (with_reducible refine below_drewN ?_ _) | (with_reducible refine Below.setCell ?_ ?_ _) | (with_reducible refine below_setRow ?_ ?_ _) | go_size)); done)); (focus (first | (simp; done) | (simp; omega)))) : Below w.heap.size w w4)
    have HR := hid (show w4.heap[w.heap.size + 1]? = some (.cells noKeyC 39) from heap_still hb (heap_alloc_at _ _ _ (by simp)))
    have HK4 : w4.heap[w.heap.size]? = some (.cells #[.int .i64 L, .int .i64 x, .int .i64 y, .int .i64 z] 39) := heap_still hb (heap_alloc_past _ _ _ _ (heap_alloc_at _ _ _ rfl))
    have hc0 : w4.cell? ⟨w.heap.size, 0, none⟩ = some (.int .i64 L) := by rw [cell_row HK4]; rfl
    have hc1 : w4.cell? ⟨w.heap.size, 1, none⟩ = some (.int .i64 x) := by rw [cell_row HK4]; rfl
    have hc2 : w4.cell? ⟨w.heap.size, 2, none⟩ = some (.int .i64 y) := by rw [cell_row HK4]; rfl
    have hc3 : w4.cell? ⟨w.heap.size, 3, none⟩ = some (.int .i64 z) := by rw [cell_row HK4]; rfl
    clear hb HK4
    rw [HK.out]
    go_wp2_with (refine wpList_store_at rfl 39 (.tmp 2) (.tmp 12) rfl rfl rfl HR.out size39 rfl rfl rfl ?_)
    refine bodyPost_ret (results_at2 rfl rfl (setRow_heap _ _ _ _ _ _ HR.out) Try.underlying39 rfl size39 rfl) rfl ?_
    exact ⟨by rw [HV.out]; rfl, below_setRow HB.out (by omega) _⟩
  · have hbd := keyB_yes hk
    have HK := hid hk
    clear hk
    by_cases h0 : L = 0
    · subst h0
      have HV := hid (aboveV_no (L := 0) (x := x) (y := y) (z := z) (.inr rfl))
      go_enter Try.func22, Try.ntmps22
      go_wp2_with fail
      refine (rKey_any 0 x y z _).mono ?_
      rintro r w4 ⟨rfl, hb⟩
      have HB := hid ((by refine Below.trans ?_ (hb.mono ?_); (focus ((repeat' (first | (with_reducible exact Below.refl _ _) | (with_reducible assumption) | (with_reducible refine Below.alloc ?_ ?_ _) | (with_reducible refine Below.drew ?_) | (with_reducible refine below_drewN ?_ _) | (with_reducible refine Below.setCell ?_ ?_ _) | (with_reducible refine below_setRow ?_ ?_ _) | go_size)); done)); (focus (first | (simp; done) | (simp; omega)))) : Below w.heap.size w w4)
      have HR := hid (show w4.heap[w.heap.size + 1]? = some (.cells noKeyC 39) from heap_still hb (heap_alloc_at _ _ _ (by simp)))
      have HK4 : w4.heap[w.heap.size]? = some (.cells #[.int .i64 0, .int .i64 x, .int .i64 y, .int .i64 z] 39) := heap_still hb (heap_alloc_past _ _ _ _ (heap_alloc_at _ _ _ rfl))
      have hc0 : w4.cell? ⟨w.heap.size, 0, none⟩ = some (.int .i64 0) := by rw [cell_row HK4]; rfl
      have hc1 : w4.cell? ⟨w.heap.size, 1, none⟩ = some (.int .i64 x) := by rw [cell_row HK4]; rfl
      have hc2 : w4.cell? ⟨w.heap.size, 2, none⟩ = some (.int .i64 y) := by rw [cell_row HK4]; rfl
      have hc3 : w4.cell? ⟨w.heap.size, 3, none⟩ = some (.int .i64 z) := by rw [cell_row HK4]; rfl
      clear hb HK4
      rw [HK.out]
      go_wp2_with (refine wpList_store_at rfl 39 (.tmp 2) (.tmp 12) rfl rfl rfl HR.out size39 rfl rfl rfl ?_)
      refine bodyPost_ret (results_at2 rfl rfl (setRow_heap _ _ _ _ _ _ HR.out) Try.underlying39 rfl size39 rfl) rfl ?_
      exact ⟨by rw [HV.out]; rfl, below_setRow HB.out (by omega) _⟩
    · have HV := hid (aboveV_yes HK.out h0)
      have hwx := half_i64 hbd.2.1
      have hwy := half_i64 hbd.2.2.1
      have hwz := half_i64 hbd.2.2.2
      go_enter Try.func22, Try.ntmps22
      go_wp2_with fail
      refine (rKey_any L x y z _).mono ?_
      rintro r w4 ⟨rfl, hb⟩
      have HB := hid ((by refine Below.trans ?_ (hb.mono ?_); (focus ((repeat' (first | (with_reducible exact Below.refl _ _) | (with_reducible assumption) | (with_reducible refine Below.alloc ?_ ?_ _) | (with_reducible refine Below.drew ?_) | (with_reducible refine below_drewN ?_ _) | (with_reducible refine Below.setCell ?_ ?_ _) | (with_reducible refine below_setRow ?_ ?_ _) | go_size)); done)); (focus (first | (simp; done) | (simp; omega)))) : Below w.heap.size w w4)
      have HR := hid (show w4.heap[w.heap.size + 1]? = some (.cells noKeyC 39) from heap_still hb (heap_alloc_at _ _ _ (by simp)))
      have HK4 : w4.heap[w.heap.size]? = some (.cells #[.int .i64 L, .int .i64 x, .int .i64 y, .int .i64 z] 39) := heap_still hb (heap_alloc_past _ _ _ _ (heap_alloc_at _ _ _ rfl))
      have hc0 : w4.cell? ⟨w.heap.size, 0, none⟩ = some (.int .i64 L) := by rw [cell_row HK4]; rfl
      have hc1 : w4.cell? ⟨w.heap.size, 1, none⟩ = some (.int .i64 x) := by rw [cell_row HK4]; rfl
      have hc2 : w4.cell? ⟨w.heap.size, 2, none⟩ = some (.int .i64 y) := by rw [cell_row HK4]; rfl
      have hc3 : w4.cell? ⟨w.heap.size, 3, none⟩ = some (.int .i64 z) := by rw [cell_row HK4]; rfl
      clear hb HK4
      rw [HK.out]
      go_wp2_with (refine wpList_store_at rfl 39 (.tmp 2) (.tmp 25) rfl rfl rfl HR.out size39 rfl rfl rfl ?_)
      refine bodyPost_ret (results_at2 rfl rfl (setRow_heap _ _ _ _ _ _ HR.out) Try.underlying39 rfl size39 rfl) rfl ?_
      exact ⟨by rw [HV.out]; rfl, below_setRow HB.out (by omega) _⟩
end Go.Proofs.Yteanlcefdoigcaa
namespace Go.Proofs.Yteanlcefdoigcaa
open Go.RowKit

def ptOf (id x y zl zh wd nm of cl : Int) : Nat → Nat → Int := fun _ j => match j with | 0 => id | 1 => x | 2 => y | 3 => zl | 4 => zh | 5 => wd | 6 => nm | 7 => of | _ => cl
theorem good_one (id x y zl zh wd nm of cl : Int) : goodV (ptOf id x y zl zh wd nm of cl) 1 = (pointB id x y zl zh wd nm of && inB 0 255 cl) := by
  have e : goodV (ptOf id x y zl zh wd nm of cl) 1 = (inB 0 255 cl && (pointB id x y zl zh wd nm of && true)) := rfl
  rw [e, Bool.and_true, Bool.and_comm]
theorem point_coords {id x y zl zh wd nm of cl : Int} (h : (pointB id x y zl zh wd nm of && inB 0 255 cl) = true) : (-268435456 ≤ x ∧ x ≤ 268435456) ∧ (-268435456 ≤ y ∧ y ≤ 268435456) ∧ (-268435456 ≤ zl ∧ zl ≤ 268435456) := by
  simp [pointB, placeB, inB] at h
  omega
/-- the key and the answer -/
def cellOfV (id x y zl zh wd nm of cl L : Int) : Value :=
  if (pointB id x y zl zh wd nm of && inB 0 255 cl) = true then (if 0 ≤ L ∧ L ≤ 12 then .tuple #[.agg (cellC L.toNat x y zl), .int .i64 0] else .tuple #[.agg noKeyC, .int .i64 2]) else .tuple #[.agg noKeyC, .int .i64 70]
set_option maxRecDepth 100000 in
theorem rCellOf_any (id x y zl zh wd nm of cl L : Int) (w : World) :
    Calls Try.prog 20 #[.agg #[.int .i64 id, .int .i64 x, .int .i64 y, .int .i64 zl, .int .i64 zh, .int .i64 wd, .int .i64 nm, .int .i64 of, .int .i64 cl], .int .i64 L] w fun e w' => e = .returned (cellOfV id x y zl zh wd nm of cl L) ∧ Below w.heap.size w w' := by
  cases hg : (pointB id x y zl zh wd nm of && inB 0 255 cl)
  · have HV := hid (show cellOfV id x y zl zh wd nm of cl L = .tuple #[.agg noKeyC, .int .i64 70] by unfold cellOfV; rw [hg]; rfl)
    have HG := hid hg
    clear hg
    go_enter Try.func20, Try.ntmps20
    go_wp2_with fail
    refine (rPoint_any _ _ _ _ _ _ _ _ _ _).mono ?_
    rintro r w4 ⟨rfl, hb⟩
    have HB := hid ((by refine Below.trans ?_ (hb.mono ?_); (focus ((repeat' (first | (with_reducible exact Below.refl _ _) | (with_reducible assumption) | (with_reducible refine Below.alloc ?_ ?_ _) | (with_reducible refine Below.drew ?_) | (with_reducible refine below_drewN ?_ _) | (with_reducible refine Below.setCell ?_ ?_ _) | (with_reducible refine below_setRow ?_ ?_ _) | go_size)); done)); (focus (first | (simp; done) | (simp; omega)))) : Below w.heap.size w w4)
    have HR := hid (show w4.heap[w.heap.size + 1]? = some (.cells noKeyC 39) from heap_still hb (heap_alloc_at _ _ _ (by simp)))
    clear hb
    rw [HG.out]
    go_wp2_with (refine wpList_store_at rfl 39 (.tmp 4) (.tmp 9) rfl rfl rfl HR.out size39 rfl rfl rfl ?_)
    refine bodyPost_ret (results_at2 rfl rfl (setRow_heap _ _ _ _ _ _ HR.out) Try.underlying39 rfl size39 rfl) rfl ?_
    exact ⟨by rw [HV.out]; rfl, below_setRow HB.out (by omega) _⟩
  · have hpc := point_coords hg
    have HG := hid hg
    by_cases hL : 0 ≤ L ∧ L ≤ 12
    · have HV := hid (show cellOfV id x y zl zh wd nm of cl L = .tuple #[.agg (cellC L.toNat x y zl), .int .i64 0] by unfold cellOfV; rw [hg, if_pos rfl, if_pos hL])
      have hin : inB 0 12 L = true := by simp [inB]; omega
      have HIN := hid hin
      clear hg hin
      obtain ⟨l, rfl⟩ := Int.eq_ofNat_of_zero_le hL.1
      go_enter Try.func20, Try.ntmps20
      go_wp2_with fail
      refine (rPoint_any _ _ _ _ _ _ _ _ _ _).mono ?_
      rintro r w4 ⟨rfl, hb⟩
      have HB := hid ((by refine Below.trans ?_ (hb.mono ?_); (focus ((repeat' (first | (with_reducible exact Below.refl _ _) | (with_reducible assumption) | (with_reducible refine Below.alloc ?_ ?_ _) | (with_reducible refine Below.drew ?_) | (with_reducible refine below_drewN ?_ _) | (with_reducible refine Below.setCell ?_ ?_ _) | (with_reducible refine below_setRow ?_ ?_ _) | go_size)); done)); (focus (first | (simp; done) | (simp; omega)))) : Below w.heap.size w w4)
      have HR := hid (show w4.heap[w.heap.size + 1]? = some (.cells noKeyC 39) from heap_still hb (heap_alloc_at _ _ _ (by simp)))
      have HP : w4.heap[w.heap.size]? = some (.cells #[.int .i64 id, .int .i64 x, .int .i64 y, .int .i64 zl, .int .i64 zh, .int .i64 wd, .int .i64 nm, .int .i64 of, .int .i64 cl] 36) := heap_still hb (heap_alloc_past _ _ _ _ (heap_alloc_at _ _ _ rfl))
      have c0 : w4.cell? ⟨w.heap.size, 0, none⟩ = some (.int .i64 id) := (cell_row (j := 0) HP).trans rfl
      have c1 : w4.cell? ⟨w.heap.size, 1, none⟩ = some (.int .i64 x) := (cell_row (j := 1) HP).trans rfl
      have c2 : w4.cell? ⟨w.heap.size, 2, none⟩ = some (.int .i64 y) := (cell_row (j := 2) HP).trans rfl
      have c3 : w4.cell? ⟨w.heap.size, 3, none⟩ = some (.int .i64 zl) := (cell_row (j := 3) HP).trans rfl
      have c4 : w4.cell? ⟨w.heap.size, 4, none⟩ = some (.int .i64 zh) := (cell_row (j := 4) HP).trans rfl
      have c5 : w4.cell? ⟨w.heap.size, 5, none⟩ = some (.int .i64 wd) := (cell_row (j := 5) HP).trans rfl
      have c6 : w4.cell? ⟨w.heap.size, 6, none⟩ = some (.int .i64 nm) := (cell_row (j := 6) HP).trans rfl
      have c7 : w4.cell? ⟨w.heap.size, 7, none⟩ = some (.int .i64 of) := (cell_row (j := 7) HP).trans rfl
      have c8 : w4.cell? ⟨w.heap.size, 8, none⟩ = some (.int .i64 cl) := (cell_row (j := 8) HP).trans rfl
      have hs4 : w.heap.size + 1 < w4.heap.size := (Array.getElem?_eq_some_iff.1 HR.out).1
      clear hb HP
      rw [HG.out]
      go_wp2_with fail
      refine (from_any _ _ _ _).mono ?_
      rintro r w5 ⟨rfl, rfl⟩
      rw [HIN.out]
      go_wp2_with fail
      refine (rCell_any _ _ _ _ _ _ _ _ _ l (by omega) hpc.1 hpc.2.1 hpc.2.2 _).mono ?_
      rintro r w6 ⟨rfl, hb⟩
      have HB6 := hid (HB.out.trans (hb.mono (by omega)))
      have HR6 := hid (heap_still hb HR.out)
      clear hb
      go_wp2_with (refine wpList_store_at rfl 39 (.tmp 4) (.tmp 16) rfl rfl rfl HR6.out size39 rfl rfl rfl ?_)
      refine bodyPost_ret (results_at2 rfl rfl (setRow_heap _ _ _ _ _ _ HR6.out) Try.underlying39 rfl size39 rfl) rfl ?_
      exact ⟨by rw [HV.out]; rfl, below_setRow HB6.out (by omega) _⟩
    · have HV := hid (show cellOfV id x y zl zh wd nm of cl L = .tuple #[.agg noKeyC, .int .i64 2] by unfold cellOfV; rw [hg, if_pos rfl, if_neg hL])
      have hin : inB 0 12 L = false := by simp [inB]; omega
      have HIN := hid hin
      clear hg hin
      go_enter Try.func20, Try.ntmps20
      go_wp2_with fail
      refine (rPoint_any _ _ _ _ _ _ _ _ _ _).mono ?_
      rintro r w4 ⟨rfl, hb⟩
      have HB := hid ((by refine Below.trans ?_ (hb.mono ?_); (focus ((repeat' (first | (with_reducible exact Below.refl _ _) | (with_reducible assumption) | (with_reducible refine Below.alloc ?_ ?_ _) | (with_reducible refine Below.drew ?_) | (with_reducible refine below_drewN ?_ _) | (with_reducible refine Below.setCell ?_ ?_ _) | (with_reducible refine below_setRow ?_ ?_ _) | go_size)); done)); (focus (first | (simp; done) | (simp; omega)))) : Below w.heap.size w w4)
      have HR := hid (show w4.heap[w.heap.size + 1]? = some (.cells noKeyC 39) from heap_still hb (heap_alloc_at _ _ _ (by simp)))
      clear hb
      rw [HG.out]
      go_wp2_with fail
      refine (from_any _ _ _ _).mono ?_
      rintro r w5 ⟨rfl, rfl⟩
      rw [HIN.out]
      go_wp2_with (refine wpList_store_at rfl 39 (.tmp 4) (.tmp 13) rfl rfl rfl HR.out size39 rfl rfl rfl ?_)
      refine bodyPost_ret (results_at2 rfl rfl (setRow_heap _ _ _ _ _ _ HR.out) Try.underlying39 rfl size39 rfl) rfl ?_
      exact ⟨by rw [HV.out]; rfl, below_setRow HB.out (by omega) _⟩
set_option maxRecDepth 100000 in
theorem xCellOf_any (id x y zl zh wd nm of cl L : Int) (w : World) :
    Calls Try.prog 19 #[.agg #[.int .i64 id, .int .i64 x, .int .i64 y, .int .i64 zl, .int .i64 zh, .int .i64 wd, .int .i64 nm, .int .i64 of, .int .i64 cl], .int .i64 L] w fun e w' => e = .returned (cellOfV id x y zl zh wd nm of cl L) ∧ Below w.heap.size w w' := by
  cases hg : (pointB id x y zl zh wd nm of && inB 0 255 cl)
  · have HV := hid (show cellOfV id x y zl zh wd nm of cl L = .tuple #[.agg noKeyC, .int .i64 70] by unfold cellOfV; rw [hg]; rfl)
    have HG := hid hg
    clear hg
    go_enter Try.func19, Try.ntmps19
    go_wp2_with fail
    refine (good_any (w.heap.size + 2) 0 1 1 (ptOf id x y zl zh wd nm of cl) _ (by omega) (by unfold maxLen; omega) (by simp) (fun i hi j hj => ?_)).mono ?_
    · obtain rfl : i = 0 := by omega
      rw [cell_row (heap_alloc_at _ _ _ (by simp))]
      match j, hj with
      | 0, _ | 1, _ | 2, _ | 3, _ | 4, _ | 5, _ | 6, _ | 7, _ | 8, _ => rfl
    rintro r w4 ⟨rfl, hb⟩
    have HB := hid ((by refine Below.trans ?_ (hb.mono ?_); (focus ((repeat' (first | (with_reducible exact Below.refl _ _) | (with_reducible assumption) | (with_reducible refine Below.alloc ?_ ?_ _) | (with_reducible refine Below.drew ?_) | (with_reducible refine below_drewN ?_ _) | (with_reducible refine Below.setCell ?_ ?_ _) | (with_reducible refine below_setRow ?_ ?_ _) | go_size)); done)); (focus (first | (simp; done) | (simp; omega)))) : Below w.heap.size w w4)
    have HR := hid (show w4.heap[w.heap.size + 1]? = some (.cells noKeyC 39) from heap_still hb (heap_alloc_past _ _ _ _ (heap_alloc_at _ _ _ (by simp))))
    have HP : w4.heap[w.heap.size]? = some (.cells #[.int .i64 id, .int .i64 x, .int .i64 y, .int .i64 zl, .int .i64 zh, .int .i64 wd, .int .i64 nm, .int .i64 of, .int .i64 cl] 36) := heap_still hb (heap_alloc_past _ _ _ _ (heap_alloc_past _ _ _ _ (heap_alloc_at _ _ _ rfl)))
    have c0 : w4.cell? ⟨w.heap.size, 0, none⟩ = some (.int .i64 id) := (cell_row (j := 0) HP).trans rfl
    have c1 : w4.cell? ⟨w.heap.size, 1, none⟩ = some (.int .i64 x) := (cell_row (j := 1) HP).trans rfl
    have c2 : w4.cell? ⟨w.heap.size, 2, none⟩ = some (.int .i64 y) := (cell_row (j := 2) HP).trans rfl
    have c3 : w4.cell? ⟨w.heap.size, 3, none⟩ = some (.int .i64 zl) := (cell_row (j := 3) HP).trans rfl
    have c4 : w4.cell? ⟨w.heap.size, 4, none⟩ = some (.int .i64 zh) := (cell_row (j := 4) HP).trans rfl
    have c5 : w4.cell? ⟨w.heap.size, 5, none⟩ = some (.int .i64 wd) := (cell_row (j := 5) HP).trans rfl
    have c6 : w4.cell? ⟨w.heap.size, 6, none⟩ = some (.int .i64 nm) := (cell_row (j := 6) HP).trans rfl
    have c7 : w4.cell? ⟨w.heap.size, 7, none⟩ = some (.int .i64 of) := (cell_row (j := 7) HP).trans rfl
    have c8 : w4.cell? ⟨w.heap.size, 8, none⟩ = some (.int .i64 cl) := (cell_row (j := 8) HP).trans rfl
    have hs4 : w.heap.size + 1 < w4.heap.size := (Array.getElem?_eq_some_iff.1 HR.out).1
    clear hb HP
    rw [good_one, HG.out]
    go_wp2_with (refine wpList_store_at rfl 39 (.tmp 4) (.tmp 10) rfl rfl rfl HR.out size39 rfl rfl rfl ?_)
    refine bodyPost_ret (results_at2 rfl rfl (setRow_heap _ _ _ _ _ _ HR.out) Try.underlying39 rfl size39 rfl) rfl ?_
    exact ⟨by rw [HV.out]; rfl, below_setRow HB.out (by omega) _⟩
  · have hpc := point_coords hg
    have HG := hid hg
    by_cases hL : 0 ≤ L ∧ L ≤ 12
    · have HV := hid (show cellOfV id x y zl zh wd nm of cl L = .tuple #[.agg (cellC L.toNat x y zl), .int .i64 0] by unfold cellOfV; rw [hg, if_pos rfl, if_pos hL])
      clear hg
      obtain ⟨l, rfl⟩ := Int.eq_ofNat_of_zero_le hL.1
      have hL0 : ¬ (l : Int) < 0 := by omega
      have hL1 : ¬ 12 < (l : Int) := by omega
      go_enter Try.func19, Try.ntmps19
      go_wp2_with fail
      refine (good_any (w.heap.size + 2) 0 1 1 (ptOf id x y zl zh wd nm of cl) _ (by omega) (by unfold maxLen; omega) (by simp) (fun i hi j hj => ?_)).mono ?_
      · obtain rfl : i = 0 := by omega
        rw [cell_row (heap_alloc_at _ _ _ (by simp))]
        match j, hj with
        | 0, _ | 1, _ | 2, _ | 3, _ | 4, _ | 5, _ | 6, _ | 7, _ | 8, _ => rfl
      rintro r w4 ⟨rfl, hb⟩
      have HB := hid ((by refine Below.trans ?_ (hb.mono ?_); (focus ((repeat' (first | (with_reducible exact Below.refl _ _) | (with_reducible assumption) | (with_reducible refine Below.alloc ?_ ?_ _) | (with_reducible refine Below.drew ?_) | (with_reducible refine below_drewN ?_ _) | (with_reducible refine Below.setCell ?_ ?_ _) | (with_reducible refine below_setRow ?_ ?_ _) | go_size)); done)); (focus (first | (simp; done) | (simp; omega)))) : Below w.heap.size w w4)
      have HR := hid (show w4.heap[w.heap.size + 1]? = some (.cells noKeyC 39) from heap_still hb (heap_alloc_past _ _ _ _ (heap_alloc_at _ _ _ (by simp))))
      have HP : w4.heap[w.heap.size]? = some (.cells #[.int .i64 id, .int .i64 x, .int .i64 y, .int .i64 zl, .int .i64 zh, .int .i64 wd, .int .i64 nm, .int .i64 of, .int .i64 cl] 36) := heap_still hb (heap_alloc_past _ _ _ _ (heap_alloc_past _ _ _ _ (heap_alloc_at _ _ _ rfl)))
      have c0 : w4.cell? ⟨w.heap.size, 0, none⟩ = some (.int .i64 id) := (cell_row (j := 0) HP).trans rfl
      have c1 : w4.cell? ⟨w.heap.size, 1, none⟩ = some (.int .i64 x) := (cell_row (j := 1) HP).trans rfl
      have c2 : w4.cell? ⟨w.heap.size, 2, none⟩ = some (.int .i64 y) := (cell_row (j := 2) HP).trans rfl
      have c3 : w4.cell? ⟨w.heap.size, 3, none⟩ = some (.int .i64 zl) := (cell_row (j := 3) HP).trans rfl
      have c4 : w4.cell? ⟨w.heap.size, 4, none⟩ = some (.int .i64 zh) := (cell_row (j := 4) HP).trans rfl
      have c5 : w4.cell? ⟨w.heap.size, 5, none⟩ = some (.int .i64 wd) := (cell_row (j := 5) HP).trans rfl
      have c6 : w4.cell? ⟨w.heap.size, 6, none⟩ = some (.int .i64 nm) := (cell_row (j := 6) HP).trans rfl
      have c7 : w4.cell? ⟨w.heap.size, 7, none⟩ = some (.int .i64 of) := (cell_row (j := 7) HP).trans rfl
      have c8 : w4.cell? ⟨w.heap.size, 8, none⟩ = some (.int .i64 cl) := (cell_row (j := 8) HP).trans rfl
      have hs4 : w.heap.size + 1 < w4.heap.size := (Array.getElem?_eq_some_iff.1 HR.out).1
      clear hb HP
      rw [good_one, HG.out]
      go_wp2_with fail
      refine (xCell_any _ _ _ _ _ _ _ _ _ l (by omega) hpc.1 hpc.2.1 hpc.2.2 _).mono ?_
      rintro r w6 ⟨rfl, hb⟩
      have HB6 := hid (HB.out.trans (hb.mono (by omega)))
      have HR6 := hid (heap_still hb HR.out)
      clear hb
      go_wp2_with (refine wpList_store_at rfl 39 (.tmp 4) (.tmp 20) rfl rfl rfl HR6.out size39 rfl rfl rfl ?_)
      refine bodyPost_ret (results_at2 rfl rfl (setRow_heap _ _ _ _ _ _ HR6.out) Try.underlying39 rfl size39 rfl) rfl ?_
      exact ⟨by rw [HV.out]; rfl, below_setRow HB6.out (by omega) _⟩
    · have HV := hid (show cellOfV id x y zl zh wd nm of cl L = .tuple #[.agg noKeyC, .int .i64 2] by unfold cellOfV; rw [hg, if_pos rfl, if_neg hL])
      clear hg
      by_cases hL0 : L < 0
      · skip
        go_enter Try.func19, Try.ntmps19
        go_wp2_with fail
        refine (good_any (w.heap.size + 2) 0 1 1 (ptOf id x y zl zh wd nm of cl) _ (by omega) (by unfold maxLen; omega) (by simp) (fun i hi j hj => ?_)).mono ?_
        · obtain rfl : i = 0 := by omega
          rw [cell_row (heap_alloc_at _ _ _ (by simp))]
          match j, hj with
          | 0, _ | 1, _ | 2, _ | 3, _ | 4, _ | 5, _ | 6, _ | 7, _ | 8, _ => rfl
        rintro r w4 ⟨rfl, hb⟩
        have HB := hid ((by refine Below.trans ?_ (hb.mono ?_); (focus ((repeat' (first | (with_reducible exact Below.refl _ _) | (with_reducible assumption) | (with_reducible refine Below.alloc ?_ ?_ _) | (with_reducible refine Below.drew ?_) | (with_reducible refine below_drewN ?_ _) | (with_reducible refine Below.setCell ?_ ?_ _) | (with_reducible refine below_setRow ?_ ?_ _) | go_size)); done)); (focus (first | (simp; done) | (simp; omega)))) : Below w.heap.size w w4)
        have HR := hid (show w4.heap[w.heap.size + 1]? = some (.cells noKeyC 39) from heap_still hb (heap_alloc_past _ _ _ _ (heap_alloc_at _ _ _ (by simp))))
        have HP : w4.heap[w.heap.size]? = some (.cells #[.int .i64 id, .int .i64 x, .int .i64 y, .int .i64 zl, .int .i64 zh, .int .i64 wd, .int .i64 nm, .int .i64 of, .int .i64 cl] 36) := heap_still hb (heap_alloc_past _ _ _ _ (heap_alloc_past _ _ _ _ (heap_alloc_at _ _ _ rfl)))
        have c0 : w4.cell? ⟨w.heap.size, 0, none⟩ = some (.int .i64 id) := (cell_row (j := 0) HP).trans rfl
        have c1 : w4.cell? ⟨w.heap.size, 1, none⟩ = some (.int .i64 x) := (cell_row (j := 1) HP).trans rfl
        have c2 : w4.cell? ⟨w.heap.size, 2, none⟩ = some (.int .i64 y) := (cell_row (j := 2) HP).trans rfl
        have c3 : w4.cell? ⟨w.heap.size, 3, none⟩ = some (.int .i64 zl) := (cell_row (j := 3) HP).trans rfl
        have c4 : w4.cell? ⟨w.heap.size, 4, none⟩ = some (.int .i64 zh) := (cell_row (j := 4) HP).trans rfl
        have c5 : w4.cell? ⟨w.heap.size, 5, none⟩ = some (.int .i64 wd) := (cell_row (j := 5) HP).trans rfl
        have c6 : w4.cell? ⟨w.heap.size, 6, none⟩ = some (.int .i64 nm) := (cell_row (j := 6) HP).trans rfl
        have c7 : w4.cell? ⟨w.heap.size, 7, none⟩ = some (.int .i64 of) := (cell_row (j := 7) HP).trans rfl
        have c8 : w4.cell? ⟨w.heap.size, 8, none⟩ = some (.int .i64 cl) := (cell_row (j := 8) HP).trans rfl
        have hs4 : w.heap.size + 1 < w4.heap.size := (Array.getElem?_eq_some_iff.1 HR.out).1
        clear hb HP
        rw [good_one, HG.out]
        go_wp2_with (refine wpList_store_at rfl 39 (.tmp 4) (.tmp 17) rfl rfl rfl HR.out size39 rfl rfl rfl ?_)
        refine bodyPost_ret (results_at2 rfl rfl (setRow_heap _ _ _ _ _ _ HR.out) Try.underlying39 rfl size39 rfl) rfl ?_
        exact ⟨by rw [HV.out]; rfl, below_setRow HB.out (by omega) _⟩
      · have hL1 : 12 < L := by omega
        go_enter Try.func19, Try.ntmps19
        go_wp2_with fail
        refine (good_any (w.heap.size + 2) 0 1 1 (ptOf id x y zl zh wd nm of cl) _ (by omega) (by unfold maxLen; omega) (by simp) (fun i hi j hj => ?_)).mono ?_
        · obtain rfl : i = 0 := by omega
          rw [cell_row (heap_alloc_at _ _ _ (by simp))]
          match j, hj with
          | 0, _ | 1, _ | 2, _ | 3, _ | 4, _ | 5, _ | 6, _ | 7, _ | 8, _ => rfl
        rintro r w4 ⟨rfl, hb⟩
        have HB := hid ((by refine Below.trans ?_ (hb.mono ?_); (focus ((repeat' (first | (with_reducible exact Below.refl _ _) | (with_reducible assumption) | (with_reducible refine Below.alloc ?_ ?_ _) | (with_reducible refine Below.drew ?_) | (with_reducible refine below_drewN ?_ _) | (with_reducible refine Below.setCell ?_ ?_ _) | (with_reducible refine below_setRow ?_ ?_ _) | go_size)); done)); (focus (first | (simp; done) | (simp; omega)))) : Below w.heap.size w w4)
        have HR := hid (show w4.heap[w.heap.size + 1]? = some (.cells noKeyC 39) from heap_still hb (heap_alloc_past _ _ _ _ (heap_alloc_at _ _ _ (by simp))))
        have HP : w4.heap[w.heap.size]? = some (.cells #[.int .i64 id, .int .i64 x, .int .i64 y, .int .i64 zl, .int .i64 zh, .int .i64 wd, .int .i64 nm, .int .i64 of, .int .i64 cl] 36) := heap_still hb (heap_alloc_past _ _ _ _ (heap_alloc_past _ _ _ _ (heap_alloc_at _ _ _ rfl)))
        have c0 : w4.cell? ⟨w.heap.size, 0, none⟩ = some (.int .i64 id) := (cell_row (j := 0) HP).trans rfl
        have c1 : w4.cell? ⟨w.heap.size, 1, none⟩ = some (.int .i64 x) := (cell_row (j := 1) HP).trans rfl
        have c2 : w4.cell? ⟨w.heap.size, 2, none⟩ = some (.int .i64 y) := (cell_row (j := 2) HP).trans rfl
        have c3 : w4.cell? ⟨w.heap.size, 3, none⟩ = some (.int .i64 zl) := (cell_row (j := 3) HP).trans rfl
        have c4 : w4.cell? ⟨w.heap.size, 4, none⟩ = some (.int .i64 zh) := (cell_row (j := 4) HP).trans rfl
        have c5 : w4.cell? ⟨w.heap.size, 5, none⟩ = some (.int .i64 wd) := (cell_row (j := 5) HP).trans rfl
        have c6 : w4.cell? ⟨w.heap.size, 6, none⟩ = some (.int .i64 nm) := (cell_row (j := 6) HP).trans rfl
        have c7 : w4.cell? ⟨w.heap.size, 7, none⟩ = some (.int .i64 of) := (cell_row (j := 7) HP).trans rfl
        have c8 : w4.cell? ⟨w.heap.size, 8, none⟩ = some (.int .i64 cl) := (cell_row (j := 8) HP).trans rfl
        have hs4 : w.heap.size + 1 < w4.heap.size := (Array.getElem?_eq_some_iff.1 HR.out).1
        clear hb HP
        rw [good_one, HG.out]
        go_wp2_with (refine wpList_store_at rfl 39 (.tmp 4) (.tmp 17) rfl rfl rfl HR.out size39 rfl rfl rfl ?_)
        refine bodyPost_ret (results_at2 rfl rfl (setRow_heap _ _ _ _ _ _ HR.out) Try.underlying39 rfl size39 rfl) rfl ?_
        exact ⟨by rw [HV.out]; rfl, below_setRow HB.out (by omega) _⟩
end Go.Proofs.Yteanlcefdoigcaa
namespace Go.Proofs.Yteanlcefdoigcaa
open Go.RowKit

theorem idx_half (n : Int) (h : -268435456 ≤ n ∧ n ≤ 268435456) (l : Nat) (hl : l < 12) : idxV n (l + 1) / 2 = idxV n l ∧ 0 ≤ idxV n (l + 1) ∧ idxV n (l + 1) ≤ powL ((l + 1 : Nat) : Int) - 1 := by
  match l, hl with
  | 0, _ | 1, _ | 2, _ | 3, _ | 4, _ | 5, _ | 6, _ | 7, _ | 8, _ | 9, _ | 10, _ | 11, _ =>
    simp [idxV, powL]
    omega
  | l + 12, h => omega
theorem key_cell (x y z : Int) (hx : -268435456 ≤ x ∧ x ≤ 268435456) (hy : -268435456 ≤ y ∧ y ≤ 268435456) (hz : -268435456 ≤ z ∧ z ≤ 268435456) (l : Nat) (hl : l < 12) :
    aboveV ((l + 1 : Nat) : Int) (idxV x (l + 1)) (idxV y (l + 1)) (idxV z (l + 1)) = .tuple #[.agg (cellC l x y z), .int .i64 0] := by
  obtain ⟨a1, a2, a3⟩ := idx_half x hx l hl
  obtain ⟨b1, b2, b3⟩ := idx_half y hy l hl
  obtain ⟨c1, c2, c3⟩ := idx_half z hz l hl
  rw [aboveV_yes (by rw [keyB_good (by omega)]; generalize powL ((l + 1 : Nat) : Int) = p at *; simp [inB]; omega) (by omega)]
  unfold aboveC cellC
  rw [a1, b1, c1, show ((l + 1 : Nat) : Int) - 1 = (l : Int) by omega]
end Go.Proofs.Yteanlcefdoigcaa
