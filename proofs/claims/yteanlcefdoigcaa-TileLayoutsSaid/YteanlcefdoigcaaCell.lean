/- The cells of a point: what the program and its reference return. -/
import Derived.Test.YteanlcefdoigcaaPoint
import Derived.Laws.Shifts
import Derived.Lib.QuietBelow
namespace Go.Proofs.Yteanlcefdoigcaa
open Go.RowKit

/-- the index of a coordinate in the cells of a level -/
def idxV (n : Int) (L : Nat) : Int := min ((n + 268435456) / 2 ^ (29 - L)) (2 ^ L - 1)
set_option maxRecDepth 100000 in
theorem index_any (n : Int) (L : Nat) (hL : L ≤ 12) (hn : -268435456 ≤ n ∧ n ≤ 268435456) (w : World) :
    Calls Try.prog 100 #[.int .i64 n, .int .i64 L] w fun e w' => e = .returned (.int .i64 (idxV n L)) ∧ Below w.heap.size w w' := by
  match L, hL with
  | 0, _ =>
    have hv : idxV n 0 = min ((n + 268435456) / 536870912) 0 := rfl
    have HV := hid hv
    clear hv
    go_enter Try.func100, Try.ntmps100
    go_wp2_with fail
    all_goals (go_ret; refine ⟨?_, Below.refl _ _⟩; show Ending.returned (Value.int .i64 _) = Ending.returned (Value.int .i64 _); rw [HV.out]; congr 2; omega)
  | 1, _ =>
    have hv : idxV n 1 = min ((n + 268435456) / 268435456) 1 := rfl
    have HV := hid hv
    clear hv
    go_enter Try.func100, Try.ntmps100
    go_wp2_with fail
    all_goals (go_ret; refine ⟨?_, Below.refl _ _⟩; show Ending.returned (Value.int .i64 _) = Ending.returned (Value.int .i64 _); rw [HV.out]; congr 2; omega)
  | 2, _ =>
    have hv : idxV n 2 = min ((n + 268435456) / 134217728) 3 := rfl
    have HV := hid hv
    clear hv
    go_enter Try.func100, Try.ntmps100
    go_wp2_with fail
    all_goals (go_ret; refine ⟨?_, Below.refl _ _⟩; show Ending.returned (Value.int .i64 _) = Ending.returned (Value.int .i64 _); rw [HV.out]; congr 2; omega)
  | 3, _ =>
    have hv : idxV n 3 = min ((n + 268435456) / 67108864) 7 := rfl
    have HV := hid hv
    clear hv
    go_enter Try.func100, Try.ntmps100
    go_wp2_with fail
    all_goals (go_ret; refine ⟨?_, Below.refl _ _⟩; show Ending.returned (Value.int .i64 _) = Ending.returned (Value.int .i64 _); rw [HV.out]; congr 2; omega)
  | 4, _ =>
    have hv : idxV n 4 = min ((n + 268435456) / 33554432) 15 := rfl
    have HV := hid hv
    clear hv
    go_enter Try.func100, Try.ntmps100
    go_wp2_with fail
    all_goals (go_ret; refine ⟨?_, Below.refl _ _⟩; show Ending.returned (Value.int .i64 _) = Ending.returned (Value.int .i64 _); rw [HV.out]; congr 2; omega)
  | 5, _ =>
    have hv : idxV n 5 = min ((n + 268435456) / 16777216) 31 := rfl
    have HV := hid hv
    clear hv
    go_enter Try.func100, Try.ntmps100
    go_wp2_with fail
    all_goals (go_ret; refine ⟨?_, Below.refl _ _⟩; show Ending.returned (Value.int .i64 _) = Ending.returned (Value.int .i64 _); rw [HV.out]; congr 2; omega)
  | 6, _ =>
    have hv : idxV n 6 = min ((n + 268435456) / 8388608) 63 := rfl
    have HV := hid hv
    clear hv
    go_enter Try.func100, Try.ntmps100
    go_wp2_with fail
    all_goals (go_ret; refine ⟨?_, Below.refl _ _⟩; show Ending.returned (Value.int .i64 _) = Ending.returned (Value.int .i64 _); rw [HV.out]; congr 2; omega)
  | 7, _ =>
    have hv : idxV n 7 = min ((n + 268435456) / 4194304) 127 := rfl
    have HV := hid hv
    clear hv
    go_enter Try.func100, Try.ntmps100
    go_wp2_with fail
    all_goals (go_ret; refine ⟨?_, Below.refl _ _⟩; show Ending.returned (Value.int .i64 _) = Ending.returned (Value.int .i64 _); rw [HV.out]; congr 2; omega)
  | 8, _ =>
    have hv : idxV n 8 = min ((n + 268435456) / 2097152) 255 := rfl
    have HV := hid hv
    clear hv
    go_enter Try.func100, Try.ntmps100
    go_wp2_with fail
    all_goals (go_ret; refine ⟨?_, Below.refl _ _⟩; show Ending.returned (Value.int .i64 _) = Ending.returned (Value.int .i64 _); rw [HV.out]; congr 2; omega)
  | 9, _ =>
    have hv : idxV n 9 = min ((n + 268435456) / 1048576) 511 := rfl
    have HV := hid hv
    clear hv
    go_enter Try.func100, Try.ntmps100
    go_wp2_with fail
    all_goals (go_ret; refine ⟨?_, Below.refl _ _⟩; show Ending.returned (Value.int .i64 _) = Ending.returned (Value.int .i64 _); rw [HV.out]; congr 2; omega)
  | 10, _ =>
    have hv : idxV n 10 = min ((n + 268435456) / 524288) 1023 := rfl
    have HV := hid hv
    clear hv
    go_enter Try.func100, Try.ntmps100
    go_wp2_with fail
    all_goals (go_ret; refine ⟨?_, Below.refl _ _⟩; show Ending.returned (Value.int .i64 _) = Ending.returned (Value.int .i64 _); rw [HV.out]; congr 2; omega)
  | 11, _ =>
    have hv : idxV n 11 = min ((n + 268435456) / 262144) 2047 := rfl
    have HV := hid hv
    clear hv
    go_enter Try.func100, Try.ntmps100
    go_wp2_with fail
    all_goals (go_ret; refine ⟨?_, Below.refl _ _⟩; show Ending.returned (Value.int .i64 _) = Ending.returned (Value.int .i64 _); rw [HV.out]; congr 2; omega)
  | 12, _ =>
    have hv : idxV n 12 = min ((n + 268435456) / 131072) 4095 := rfl
    have HV := hid hv
    clear hv
    go_enter Try.func100, Try.ntmps100
    go_wp2_with fail
    all_goals (go_ret; refine ⟨?_, Below.refl _ _⟩; show Ending.returned (Value.int .i64 _) = Ending.returned (Value.int .i64 _); rw [HV.out]; congr 2; omega)
  | L + 13, h => omega
set_option maxRecDepth 100000 in
theorem step_any (n : Int) (L : Nat) (hL : L ≤ 12) (hn : -268435456 ≤ n ∧ n ≤ 268435456) (w : World) :
    Calls Try.prog 101 #[.int .i64 n, .int .i64 L] w fun e w' => e = .returned (.int .i64 (idxV n L)) ∧ Below w.heap.size w w' := by
  match L, hL with
  | 0, _ =>
    have hv : idxV n 0 = min ((n + 268435456) / 536870912) 0 := rfl
    have HV := hid hv
    clear hv
    go_enter Try.func101, Try.ntmps101
    go_wp2_with fail
    refine wp_region_quiet_below (by kernel_rfl) (by kernel_rfl) ?_
    repeat (first | go_big_quiet_step (fail) | quiet_step (fail))
    refine wpQuiet_nil ?_
    intro _ hw'
    obtain ⟨⟨dq, osq⟩, hw2⟩ := hw'
    subst hw2
    have hbq := below_regrown w dq osq
    go_wp2_with fail
    all_goals (go_ret; refine ⟨?_, hbq⟩; show Ending.returned (Value.int .i64 _) = Ending.returned (Value.int .i64 _); rw [HV.out]; congr 2; omega)
  | 1, _ =>
    have hv : idxV n 1 = min ((n + 268435456) / 268435456) 1 := rfl
    have HV := hid hv
    clear hv
    go_enter Try.func101, Try.ntmps101
    go_wp2_with fail
    refine wp_region_quiet_below (by kernel_rfl) (by kernel_rfl) ?_
    repeat (first | go_big_quiet_step (fail) | quiet_step (fail))
    refine wpQuiet_nil ?_
    intro _ hw'
    obtain ⟨⟨dq, osq⟩, hw2⟩ := hw'
    subst hw2
    have hbq := below_regrown w dq osq
    go_wp2_with fail
    all_goals (go_ret; refine ⟨?_, hbq⟩; show Ending.returned (Value.int .i64 _) = Ending.returned (Value.int .i64 _); rw [HV.out]; congr 2; omega)
  | 2, _ =>
    have hv : idxV n 2 = min ((n + 268435456) / 134217728) 3 := rfl
    have HV := hid hv
    clear hv
    go_enter Try.func101, Try.ntmps101
    go_wp2_with fail
    refine wp_region_quiet_below (by kernel_rfl) (by kernel_rfl) ?_
    repeat (first | go_big_quiet_step (fail) | quiet_step (fail))
    refine wpQuiet_nil ?_
    intro _ hw'
    obtain ⟨⟨dq, osq⟩, hw2⟩ := hw'
    subst hw2
    have hbq := below_regrown w dq osq
    go_wp2_with fail
    all_goals (go_ret; refine ⟨?_, hbq⟩; show Ending.returned (Value.int .i64 _) = Ending.returned (Value.int .i64 _); rw [HV.out]; congr 2; omega)
  | 3, _ =>
    have hv : idxV n 3 = min ((n + 268435456) / 67108864) 7 := rfl
    have HV := hid hv
    clear hv
    go_enter Try.func101, Try.ntmps101
    go_wp2_with fail
    refine wp_region_quiet_below (by kernel_rfl) (by kernel_rfl) ?_
    repeat (first | go_big_quiet_step (fail) | quiet_step (fail))
    refine wpQuiet_nil ?_
    intro _ hw'
    obtain ⟨⟨dq, osq⟩, hw2⟩ := hw'
    subst hw2
    have hbq := below_regrown w dq osq
    go_wp2_with fail
    all_goals (go_ret; refine ⟨?_, hbq⟩; show Ending.returned (Value.int .i64 _) = Ending.returned (Value.int .i64 _); rw [HV.out]; congr 2; omega)
  | 4, _ =>
    have hv : idxV n 4 = min ((n + 268435456) / 33554432) 15 := rfl
    have HV := hid hv
    clear hv
    go_enter Try.func101, Try.ntmps101
    go_wp2_with fail
    refine wp_region_quiet_below (by kernel_rfl) (by kernel_rfl) ?_
    repeat (first | go_big_quiet_step (fail) | quiet_step (fail))
    refine wpQuiet_nil ?_
    intro _ hw'
    obtain ⟨⟨dq, osq⟩, hw2⟩ := hw'
    subst hw2
    have hbq := below_regrown w dq osq
    go_wp2_with fail
    all_goals (go_ret; refine ⟨?_, hbq⟩; show Ending.returned (Value.int .i64 _) = Ending.returned (Value.int .i64 _); rw [HV.out]; congr 2; omega)
  | 5, _ =>
    have hv : idxV n 5 = min ((n + 268435456) / 16777216) 31 := rfl
    have HV := hid hv
    clear hv
    go_enter Try.func101, Try.ntmps101
    go_wp2_with fail
    refine wp_region_quiet_below (by kernel_rfl) (by kernel_rfl) ?_
    repeat (first | go_big_quiet_step (fail) | quiet_step (fail))
    refine wpQuiet_nil ?_
    intro _ hw'
    obtain ⟨⟨dq, osq⟩, hw2⟩ := hw'
    subst hw2
    have hbq := below_regrown w dq osq
    go_wp2_with fail
    all_goals (go_ret; refine ⟨?_, hbq⟩; show Ending.returned (Value.int .i64 _) = Ending.returned (Value.int .i64 _); rw [HV.out]; congr 2; omega)
  | 6, _ =>
    have hv : idxV n 6 = min ((n + 268435456) / 8388608) 63 := rfl
    have HV := hid hv
    clear hv
    go_enter Try.func101, Try.ntmps101
    go_wp2_with fail
    refine wp_region_quiet_below (by kernel_rfl) (by kernel_rfl) ?_
    repeat (first | go_big_quiet_step (fail) | quiet_step (fail))
    refine wpQuiet_nil ?_
    intro _ hw'
    obtain ⟨⟨dq, osq⟩, hw2⟩ := hw'
    subst hw2
    have hbq := below_regrown w dq osq
    go_wp2_with fail
    all_goals (go_ret; refine ⟨?_, hbq⟩; show Ending.returned (Value.int .i64 _) = Ending.returned (Value.int .i64 _); rw [HV.out]; congr 2; omega)
  | 7, _ =>
    have hv : idxV n 7 = min ((n + 268435456) / 4194304) 127 := rfl
    have HV := hid hv
    clear hv
    go_enter Try.func101, Try.ntmps101
    go_wp2_with fail
    refine wp_region_quiet_below (by kernel_rfl) (by kernel_rfl) ?_
    repeat (first | go_big_quiet_step (fail) | quiet_step (fail))
    refine wpQuiet_nil ?_
    intro _ hw'
    obtain ⟨⟨dq, osq⟩, hw2⟩ := hw'
    subst hw2
    have hbq := below_regrown w dq osq
    go_wp2_with fail
    all_goals (go_ret; refine ⟨?_, hbq⟩; show Ending.returned (Value.int .i64 _) = Ending.returned (Value.int .i64 _); rw [HV.out]; congr 2; omega)
  | 8, _ =>
    have hv : idxV n 8 = min ((n + 268435456) / 2097152) 255 := rfl
    have HV := hid hv
    clear hv
    go_enter Try.func101, Try.ntmps101
    go_wp2_with fail
    refine wp_region_quiet_below (by kernel_rfl) (by kernel_rfl) ?_
    repeat (first | go_big_quiet_step (fail) | quiet_step (fail))
    refine wpQuiet_nil ?_
    intro _ hw'
    obtain ⟨⟨dq, osq⟩, hw2⟩ := hw'
    subst hw2
    have hbq := below_regrown w dq osq
    go_wp2_with fail
    all_goals (go_ret; refine ⟨?_, hbq⟩; show Ending.returned (Value.int .i64 _) = Ending.returned (Value.int .i64 _); rw [HV.out]; congr 2; omega)
  | 9, _ =>
    have hv : idxV n 9 = min ((n + 268435456) / 1048576) 511 := rfl
    have HV := hid hv
    clear hv
    go_enter Try.func101, Try.ntmps101
    go_wp2_with fail
    refine wp_region_quiet_below (by kernel_rfl) (by kernel_rfl) ?_
    repeat (first | go_big_quiet_step (fail) | quiet_step (fail))
    refine wpQuiet_nil ?_
    intro _ hw'
    obtain ⟨⟨dq, osq⟩, hw2⟩ := hw'
    subst hw2
    have hbq := below_regrown w dq osq
    go_wp2_with fail
    all_goals (go_ret; refine ⟨?_, hbq⟩; show Ending.returned (Value.int .i64 _) = Ending.returned (Value.int .i64 _); rw [HV.out]; congr 2; omega)
  | 10, _ =>
    have hv : idxV n 10 = min ((n + 268435456) / 524288) 1023 := rfl
    have HV := hid hv
    clear hv
    go_enter Try.func101, Try.ntmps101
    go_wp2_with fail
    refine wp_region_quiet_below (by kernel_rfl) (by kernel_rfl) ?_
    repeat (first | go_big_quiet_step (fail) | quiet_step (fail))
    refine wpQuiet_nil ?_
    intro _ hw'
    obtain ⟨⟨dq, osq⟩, hw2⟩ := hw'
    subst hw2
    have hbq := below_regrown w dq osq
    go_wp2_with fail
    all_goals (go_ret; refine ⟨?_, hbq⟩; show Ending.returned (Value.int .i64 _) = Ending.returned (Value.int .i64 _); rw [HV.out]; congr 2; omega)
  | 11, _ =>
    have hv : idxV n 11 = min ((n + 268435456) / 262144) 2047 := rfl
    have HV := hid hv
    clear hv
    go_enter Try.func101, Try.ntmps101
    go_wp2_with fail
    refine wp_region_quiet_below (by kernel_rfl) (by kernel_rfl) ?_
    repeat (first | go_big_quiet_step (fail) | quiet_step (fail))
    refine wpQuiet_nil ?_
    intro _ hw'
    obtain ⟨⟨dq, osq⟩, hw2⟩ := hw'
    subst hw2
    have hbq := below_regrown w dq osq
    go_wp2_with fail
    all_goals (go_ret; refine ⟨?_, hbq⟩; show Ending.returned (Value.int .i64 _) = Ending.returned (Value.int .i64 _); rw [HV.out]; congr 2; omega)
  | 12, _ =>
    have hv : idxV n 12 = min ((n + 268435456) / 131072) 4095 := rfl
    have HV := hid hv
    clear hv
    go_enter Try.func101, Try.ntmps101
    go_wp2_with fail
    refine wp_region_quiet_below (by kernel_rfl) (by kernel_rfl) ?_
    repeat (first | go_big_quiet_step (fail) | quiet_step (fail))
    refine wpQuiet_nil ?_
    intro _ hw'
    obtain ⟨⟨dq, osq⟩, hw2⟩ := hw'
    subst hw2
    have hbq := below_regrown w dq osq
    go_wp2_with fail
    all_goals (go_ret; refine ⟨?_, hbq⟩; show Ending.returned (Value.int .i64 _) = Ending.returned (Value.int .i64 _); rw [HV.out]; congr 2; omega)
  | L + 13, h => omega
-- CELLS
theorem size39 : (Try.prog.info? 39).map (·.size) = some 4 := by kernel_rfl
/-- the four numbers of a cell's key -/
def cellC (L : Nat) (x y z : Int) : Array Value := #[.int .i64 (L : Int), .int .i64 (idxV x L), .int .i64 (idxV y L), .int .i64 (idxV z L)]
set_option maxRecDepth 100000 in
theorem xCell_any (id x y zl zh wd nm of cl : Int) (L : Nat) (hL : L ≤ 12) (hx : -268435456 ≤ x ∧ x ≤ 268435456) (hy : -268435456 ≤ y ∧ y ≤ 268435456) (hz : -268435456 ≤ zl ∧ zl ≤ 268435456) (w : World) :
    Calls Try.prog 52 #[.agg #[.int .i64 id, .int .i64 x, .int .i64 y, .int .i64 zl, .int .i64 zh, .int .i64 wd, .int .i64 nm, .int .i64 of, .int .i64 cl], .int .i64 L] w fun e w' => e = .returned (.agg (cellC L x y zl)) ∧ Below w.heap.size w w' := by
  have HIX := hid (fun W => index_any x L hL hx W)
  have HIY := hid (fun W => index_any y L hL hy W)
  have HIZ := hid (fun W => index_any zl L hL hz W)
  go_enter Try.func52, Try.ntmps52
  go_wp2_with fail
  refine gen_world (fun V hV => ?_)
  have YP := hid (show V.heap[w.heap.size]? = some (.cells #[.int .i64 id, .int .i64 x, .int .i64 y, .int .i64 zl, .int .i64 zh, .int .i64 wd, .int .i64 nm, .int .i64 of, .int .i64 cl] 36) by rw [hV]; exact heap_alloc_past _ _ _ _ (heap_alloc_at _ _ _ rfl))
  have YK := hid (show V.heap[w.heap.size + 1]? = some (.cells #[.int .i64 0, .int .i64 0, .int .i64 0, .int .i64 0] 39) by rw [hV]; exact heap_alloc_at _ _ _ (by simp))
  have YW := hid (show Below w.heap.size w V by rw [hV]; (repeat' (first | (with_reducible exact Below.refl _ _) | (with_reducible assumption) | (with_reducible refine Below.alloc ?_ ?_ _) | (with_reducible refine Below.drew ?_) | (with_reducible refine below_drewN ?_ _) | (with_reducible refine Below.setCell ?_ ?_ _) | (with_reducible refine below_setRow ?_ ?_ _) | go_size)))
  have YZ : V.heap.size = w.heap.size + 1 + 1 := by rw [hV]; simp
  clear hV
  refine gen_act (fun A0 hA => ?_)
  refine wp_region_last (by kernel_rfl) (by kernel_rfl) [some 5, some 6, some 7, some 8, some 9, some 10, some 11, some 12, some 13, some 14, some 15, some 16, some 17, some 18, some 19, none] rfl (by decide) 15 rfl (by kernel_rfl) (by kernel_rfl)
    [IsV (.int .i64 (L : Int)), IsV (.pointer (some ⟨w.heap.size, 1, none⟩)), IsV (.int .i64 x), IsV (.int .i64 (L : Int)), IsV (.int .i64 (idxV x L)), IsV (.pointer (some ⟨w.heap.size, 2, none⟩)), IsV (.int .i64 y), IsV (.int .i64 (L : Int)), IsV (.int .i64 (idxV y L)), IsV (.pointer (some ⟨w.heap.size, 3, none⟩)), IsV (.pointer (some ⟨w.heap.size, 3, none⟩)), IsV (.int .i64 zl), IsV (.int .i64 (L : Int)), IsV (.int .i64 (idxV zl L)), IsV (.agg #[.int .i64 (L : Int), .int .i64 (idxV x L), .int .i64 (idxV y L), .int .i64 (idxV zl L)])]
    ⟨IsV.stb _, IsV.stb _, IsV.stb _, IsV.stb _, IsV.stb _, IsV.stb _, IsV.stb _, IsV.stb _, IsV.stb _, IsV.stb _, IsV.stb _, IsV.stb _, IsV.stb _, IsV.stb _, IsV.stb _, trivial⟩ ?hs1_1_V7 ?hlast_1_V7
  case hs1_1_V7 =>
    refine ⟨?_, ?_, ?_, ?_, ?_, ?_, ?_, ?_, ?_, ?_, ?_, ?_, ?_, ?_, ?_, trivial⟩
    · intro K us W hK0 hB hd
      have hK := hid hK0; clear hK0
      have HBW := hid hB
      have hsW := hB.size
      have GB := hid (YW.out.trans (hB.mono YW.out.size))
      clear hd
      simp only [putF]
      rw [hA]
      go_frame
      go_wp2_with fail
      exact hK.out _ _ _ (by rw [hA]; simp only [putF]; kernel_rfl) (Below.refl _ _) rfl
    · intro K us W hK0 hB hd
      have hK := hid hK0; clear hK0
      have HBW := hid hB
      have hsW := hB.size
      have GB := hid (YW.out.trans (hB.mono YW.out.size))
      clear hd
      simp only [putF]
      rw [hA]
      go_frame
      go_wp2_with fail
      exact hK.out _ _ _ (by rw [hA]; simp only [putF]; kernel_rfl) (Below.refl _ _) rfl
    · intro K us W hK0 hB hd
      have hK := hid hK0; clear hK0
      have HBW := hid hB
      have hsW := hB.size
      have GB := hid (YW.out.trans (hB.mono YW.out.size))
      have e1 : us 1 = .pointer (some ⟨w.heap.size, 1, none⟩) := hd ⟨1, Ground.data⟩ (by simp) rfl
      clear hd
      have G0 := hid (heap_still hB YP.out)
      have c0 : W.cell? ⟨w.heap.size, 1, none⟩ = some (.int .i64 x) := (cell_row (j := 1) G0.out).trans rfl
      simp only [putF]
      rw [hA, e1]
      go_frame
      go_wp2_with fail
      exact hK.out _ _ _ (by rw [hA]; simp only [putF]; rw [e1]; kernel_rfl) (Below.refl _ _) rfl
    · intro K us W hK0 hB hd
      have hK := hid hK0; clear hK0
      have HBW := hid hB
      have hsW := hB.size
      have GB := hid (YW.out.trans (hB.mono YW.out.size))
      clear hd
      simp only [putF]
      rw [hA]
      go_frame
      go_wp2_with fail
      exact hK.out _ _ _ (by rw [hA]; simp only [putF]; kernel_rfl) (Below.refl _ _) rfl
    · intro K us W hK0 hB hd
      have hK := hid hK0; clear hK0
      have HBW := hid hB
      have hsW := hB.size
      have GB := hid (YW.out.trans (hB.mono YW.out.size))
      have e2 : us 2 = .int .i64 x := hd ⟨2, Ground.data⟩ (by simp) rfl
      have e3 : us 3 = .int .i64 (L : Int) := hd ⟨3, Ground.data⟩ (by simp) rfl
      clear hd
      simp only [putF]
      rw [hA, e2, e3]
      go_frame
      go_wp2_with fail
      refine (HIX.out W).mono ?_
      rintro r W' ⟨rfl, hb⟩
      go_wp2_with fail
      exact hK.out _ _ _ (by rw [hA]; simp only [putF]; rw [e2, e3]; kernel_rfl) hb rfl
    · intro K us W hK0 hB hd
      have hK := hid hK0; clear hK0
      have HBW := hid hB
      have hsW := hB.size
      have GB := hid (YW.out.trans (hB.mono YW.out.size))
      clear hd
      simp only [putF]
      rw [hA]
      go_frame
      go_wp2_with fail
      exact hK.out _ _ _ (by rw [hA]; simp only [putF]; kernel_rfl) (Below.refl _ _) rfl
    · intro K us W hK0 hB hd
      have hK := hid hK0; clear hK0
      have HBW := hid hB
      have hsW := hB.size
      have GB := hid (YW.out.trans (hB.mono YW.out.size))
      have e5 : us 5 = .pointer (some ⟨w.heap.size, 2, none⟩) := hd ⟨5, Ground.data⟩ (by simp) rfl
      clear hd
      have G0 := hid (heap_still hB YP.out)
      have c0 : W.cell? ⟨w.heap.size, 2, none⟩ = some (.int .i64 y) := (cell_row (j := 2) G0.out).trans rfl
      simp only [putF]
      rw [hA, e5]
      go_frame
      go_wp2_with fail
      exact hK.out _ _ _ (by rw [hA]; simp only [putF]; rw [e5]; kernel_rfl) (Below.refl _ _) rfl
    · intro K us W hK0 hB hd
      have hK := hid hK0; clear hK0
      have HBW := hid hB
      have hsW := hB.size
      have GB := hid (YW.out.trans (hB.mono YW.out.size))
      clear hd
      simp only [putF]
      rw [hA]
      go_frame
      go_wp2_with fail
      exact hK.out _ _ _ (by rw [hA]; simp only [putF]; kernel_rfl) (Below.refl _ _) rfl
    · intro K us W hK0 hB hd
      have hK := hid hK0; clear hK0
      have HBW := hid hB
      have hsW := hB.size
      have GB := hid (YW.out.trans (hB.mono YW.out.size))
      have e6 : us 6 = .int .i64 y := hd ⟨6, Ground.data⟩ (by simp) rfl
      have e7 : us 7 = .int .i64 (L : Int) := hd ⟨7, Ground.data⟩ (by simp) rfl
      clear hd
      simp only [putF]
      rw [hA, e6, e7]
      go_frame
      go_wp2_with fail
      refine (HIY.out W).mono ?_
      rintro r W' ⟨rfl, hb⟩
      go_wp2_with fail
      exact hK.out _ _ _ (by rw [hA]; simp only [putF]; rw [e6, e7]; kernel_rfl) hb rfl
    · intro K us W hK0 hB hd
      have hK := hid hK0; clear hK0
      have HBW := hid hB
      have hsW := hB.size
      have GB := hid (YW.out.trans (hB.mono YW.out.size))
      clear hd
      simp only [putF]
      rw [hA]
      go_frame
      go_wp2_with fail
      exact hK.out _ _ _ (by rw [hA]; simp only [putF]; kernel_rfl) (Below.refl _ _) rfl
    · intro K us W hK0 hB hd
      have hK := hid hK0; clear hK0
      have HBW := hid hB
      have hsW := hB.size
      have GB := hid (YW.out.trans (hB.mono YW.out.size))
      have e9 : us 9 = .pointer (some ⟨w.heap.size, 3, none⟩) := hd ⟨9, Ground.data⟩ (by simp) rfl
      clear hd
      simp only [putF]
      rw [hA, e9]
      go_frame
      go_wp2_with fail
      exact hK.out _ _ _ (by rw [hA]; simp only [putF]; rw [e9]; kernel_rfl) (Below.refl _ _) rfl
    · intro K us W hK0 hB hd
      have hK := hid hK0; clear hK0
      have HBW := hid hB
      have hsW := hB.size
      have GB := hid (YW.out.trans (hB.mono YW.out.size))
      have e10 : us 10 = .pointer (some ⟨w.heap.size, 3, none⟩) := hd ⟨10, Ground.data⟩ (by simp) rfl
      clear hd
      have G0 := hid (heap_still hB YP.out)
      have c0 : W.cell? ⟨w.heap.size, 3, none⟩ = some (.int .i64 zl) := (cell_row (j := 3) G0.out).trans rfl
      simp only [putF]
      rw [hA, e10]
      go_frame
      go_wp2_with fail
      exact hK.out _ _ _ (by rw [hA]; simp only [putF]; rw [e10]; kernel_rfl) (Below.refl _ _) rfl
    · intro K us W hK0 hB hd
      have hK := hid hK0; clear hK0
      have HBW := hid hB
      have hsW := hB.size
      have GB := hid (YW.out.trans (hB.mono YW.out.size))
      clear hd
      simp only [putF]
      rw [hA]
      go_frame
      go_wp2_with fail
      exact hK.out _ _ _ (by rw [hA]; simp only [putF]; kernel_rfl) (Below.refl _ _) rfl
    · intro K us W hK0 hB hd
      have hK := hid hK0; clear hK0
      have HBW := hid hB
      have hsW := hB.size
      have GB := hid (YW.out.trans (hB.mono YW.out.size))
      have e11 : us 11 = .int .i64 zl := hd ⟨11, Ground.data⟩ (by simp) rfl
      have e12 : us 12 = .int .i64 (L : Int) := hd ⟨12, Ground.data⟩ (by simp) rfl
      clear hd
      simp only [putF]
      rw [hA, e11, e12]
      go_frame
      go_wp2_with fail
      refine (HIZ.out W).mono ?_
      rintro r W' ⟨rfl, hb⟩
      go_wp2_with fail
      exact hK.out _ _ _ (by rw [hA]; simp only [putF]; rw [e11, e12]; kernel_rfl) hb rfl
    · intro K us W hK0 hB hd
      have hK := hid hK0; clear hK0
      have HBW := hid hB
      have hsW := hB.size
      have GB := hid (YW.out.trans (hB.mono YW.out.size))
      have e0 : us 0 = .int .i64 (L : Int) := hd ⟨0, Ground.data⟩ (by simp) rfl
      have e4 : us 4 = .int .i64 (idxV x L) := hd ⟨4, Ground.data⟩ (by simp) rfl
      have e8 : us 8 = .int .i64 (idxV y L) := hd ⟨8, Ground.data⟩ (by simp) rfl
      have e13 : us 13 = .int .i64 (idxV zl L) := hd ⟨13, Ground.data⟩ (by simp) rfl
      clear hd
      simp only [putF]
      rw [hA, e0, e4, e8, e13]
      go_frame
      go_wp2_with fail
      exact hK.out _ _ _ (by rw [hA]; simp only [putF]; rw [e0, e4, e8, e13]; kernel_rfl) (Below.refl _ _) rfl
  intro K us V7 hK0 hB hp
  have hK := hid hK0
  clear hK0
  have e14 : us 14 = .agg #[.int .i64 (L : Int), .int .i64 (idxV x L), .int .i64 (idxV y L), .int .i64 (idxV zl L)] := hp 14 (by decide)
  have HBV7 := hid (YW.out.trans (hB.mono YW.out.size))
  have HSV7 := hid (fun n x => @heap_still _ _ n x hB)
  have hzV7 := hB.size
  have hbV7 := hid hB
  clear hp
  simp only [putF]
  rw [hA, e14]
  skip
  go_frame
  go_wp2_with (refine wpList_store_at rfl 39 (.tmp 4) (.tmp 19) rfl rfl rfl (HSV7.out _ _ YK.out) size39 rfl rfl rfl ?_)
  refine hK.out undef _ _ (by rw [hA]; simp only [putF]; rw [e14]; kernel_rfl) ?_
  clear hK hB hA e14
  go_wp2_with fail
  refine bodyPost_ret (results_at1 rfl rfl (setRow_heap _ _ _ _ _ _ (HSV7.out _ _ YK.out)) Try.underlying39 rfl size39 rfl) rfl ⟨rfl, below_setRow HBV7.out (by omega) _⟩
set_option maxRecDepth 100000 in
theorem rCell_any (id x y zl zh wd nm of cl : Int) (L : Nat) (hL : L ≤ 12) (hx : -268435456 ≤ x ∧ x ≤ 268435456) (hy : -268435456 ≤ y ∧ y ≤ 268435456) (hz : -268435456 ≤ zl ∧ zl ≤ 268435456) (w : World) :
    Calls Try.prog 53 #[.agg #[.int .i64 id, .int .i64 x, .int .i64 y, .int .i64 zl, .int .i64 zh, .int .i64 wd, .int .i64 nm, .int .i64 of, .int .i64 cl], .int .i64 L] w fun e w' => e = .returned (.agg (cellC L x y zl)) ∧ Below w.heap.size w w' := by
  have HIX := hid (fun W => step_any x L hL hx W)
  have HIY := hid (fun W => step_any y L hL hy W)
  have HIZ := hid (fun W => step_any zl L hL hz W)
  go_enter Try.func53, Try.ntmps53
  go_wp2_with fail
  refine gen_world (fun V hV => ?_)
  have YP := hid (show V.heap[w.heap.size]? = some (.cells #[.int .i64 id, .int .i64 x, .int .i64 y, .int .i64 zl, .int .i64 zh, .int .i64 wd, .int .i64 nm, .int .i64 of, .int .i64 cl] 36) by rw [hV]; exact heap_alloc_past _ _ _ _ (heap_alloc_at _ _ _ rfl))
  have YK := hid (show V.heap[w.heap.size + 1]? = some (.cells #[.int .i64 0, .int .i64 0, .int .i64 0, .int .i64 0] 39) by rw [hV]; exact heap_alloc_at _ _ _ (by simp))
  have YW := hid (show Below w.heap.size w V by rw [hV]; (repeat' (first | (with_reducible exact Below.refl _ _) | (with_reducible assumption) | (with_reducible refine Below.alloc ?_ ?_ _) | (with_reducible refine Below.drew ?_) | (with_reducible refine below_drewN ?_ _) | (with_reducible refine Below.setCell ?_ ?_ _) | (with_reducible refine below_setRow ?_ ?_ _) | go_size)))
  have YZ : V.heap.size = w.heap.size + 1 + 1 := by rw [hV]; simp
  clear hV
  refine gen_act (fun A0 hA => ?_)
  refine wp_region_last (by kernel_rfl) (by kernel_rfl) [some 5, some 6, some 7, some 8, some 9, some 10, some 11, some 12, some 13, some 14, some 15, some 16, some 17, some 18, some 19, none] rfl (by decide) 15 rfl (by kernel_rfl) (by kernel_rfl)
    [IsV (.int .i64 (L : Int)), IsV (.pointer (some ⟨w.heap.size, 1, none⟩)), IsV (.int .i64 x), IsV (.int .i64 (L : Int)), IsV (.int .i64 (idxV x L)), IsV (.pointer (some ⟨w.heap.size, 2, none⟩)), IsV (.int .i64 y), IsV (.int .i64 (L : Int)), IsV (.int .i64 (idxV y L)), IsV (.pointer (some ⟨w.heap.size, 3, none⟩)), IsV (.pointer (some ⟨w.heap.size, 3, none⟩)), IsV (.int .i64 zl), IsV (.int .i64 (L : Int)), IsV (.int .i64 (idxV zl L)), IsV (.agg #[.int .i64 (L : Int), .int .i64 (idxV x L), .int .i64 (idxV y L), .int .i64 (idxV zl L)])]
    ⟨IsV.stb _, IsV.stb _, IsV.stb _, IsV.stb _, IsV.stb _, IsV.stb _, IsV.stb _, IsV.stb _, IsV.stb _, IsV.stb _, IsV.stb _, IsV.stb _, IsV.stb _, IsV.stb _, IsV.stb _, trivial⟩ ?hs1_1_V7 ?hlast_1_V7
  case hs1_1_V7 =>
    refine ⟨?_, ?_, ?_, ?_, ?_, ?_, ?_, ?_, ?_, ?_, ?_, ?_, ?_, ?_, ?_, trivial⟩
    · intro K us W hK0 hB hd
      have hK := hid hK0; clear hK0
      have HBW := hid hB
      have hsW := hB.size
      have GB := hid (YW.out.trans (hB.mono YW.out.size))
      clear hd
      simp only [putF]
      rw [hA]
      go_frame
      go_wp2_with fail
      exact hK.out _ _ _ (by rw [hA]; simp only [putF]; kernel_rfl) (Below.refl _ _) rfl
    · intro K us W hK0 hB hd
      have hK := hid hK0; clear hK0
      have HBW := hid hB
      have hsW := hB.size
      have GB := hid (YW.out.trans (hB.mono YW.out.size))
      clear hd
      simp only [putF]
      rw [hA]
      go_frame
      go_wp2_with fail
      exact hK.out _ _ _ (by rw [hA]; simp only [putF]; kernel_rfl) (Below.refl _ _) rfl
    · intro K us W hK0 hB hd
      have hK := hid hK0; clear hK0
      have HBW := hid hB
      have hsW := hB.size
      have GB := hid (YW.out.trans (hB.mono YW.out.size))
      have e1 : us 1 = .pointer (some ⟨w.heap.size, 1, none⟩) := hd ⟨1, Ground.data⟩ (by simp) rfl
      clear hd
      have G0 := hid (heap_still hB YP.out)
      have c0 : W.cell? ⟨w.heap.size, 1, none⟩ = some (.int .i64 x) := (cell_row (j := 1) G0.out).trans rfl
      simp only [putF]
      rw [hA, e1]
      go_frame
      go_wp2_with fail
      exact hK.out _ _ _ (by rw [hA]; simp only [putF]; rw [e1]; kernel_rfl) (Below.refl _ _) rfl
    · intro K us W hK0 hB hd
      have hK := hid hK0; clear hK0
      have HBW := hid hB
      have hsW := hB.size
      have GB := hid (YW.out.trans (hB.mono YW.out.size))
      clear hd
      simp only [putF]
      rw [hA]
      go_frame
      go_wp2_with fail
      exact hK.out _ _ _ (by rw [hA]; simp only [putF]; kernel_rfl) (Below.refl _ _) rfl
    · intro K us W hK0 hB hd
      have hK := hid hK0; clear hK0
      have HBW := hid hB
      have hsW := hB.size
      have GB := hid (YW.out.trans (hB.mono YW.out.size))
      have e2 : us 2 = .int .i64 x := hd ⟨2, Ground.data⟩ (by simp) rfl
      have e3 : us 3 = .int .i64 (L : Int) := hd ⟨3, Ground.data⟩ (by simp) rfl
      clear hd
      simp only [putF]
      rw [hA, e2, e3]
      go_frame
      go_wp2_with fail
      refine (HIX.out W).mono ?_
      rintro r W' ⟨rfl, hb⟩
      go_wp2_with fail
      exact hK.out _ _ _ (by rw [hA]; simp only [putF]; rw [e2, e3]; kernel_rfl) hb rfl
    · intro K us W hK0 hB hd
      have hK := hid hK0; clear hK0
      have HBW := hid hB
      have hsW := hB.size
      have GB := hid (YW.out.trans (hB.mono YW.out.size))
      clear hd
      simp only [putF]
      rw [hA]
      go_frame
      go_wp2_with fail
      exact hK.out _ _ _ (by rw [hA]; simp only [putF]; kernel_rfl) (Below.refl _ _) rfl
    · intro K us W hK0 hB hd
      have hK := hid hK0; clear hK0
      have HBW := hid hB
      have hsW := hB.size
      have GB := hid (YW.out.trans (hB.mono YW.out.size))
      have e5 : us 5 = .pointer (some ⟨w.heap.size, 2, none⟩) := hd ⟨5, Ground.data⟩ (by simp) rfl
      clear hd
      have G0 := hid (heap_still hB YP.out)
      have c0 : W.cell? ⟨w.heap.size, 2, none⟩ = some (.int .i64 y) := (cell_row (j := 2) G0.out).trans rfl
      simp only [putF]
      rw [hA, e5]
      go_frame
      go_wp2_with fail
      exact hK.out _ _ _ (by rw [hA]; simp only [putF]; rw [e5]; kernel_rfl) (Below.refl _ _) rfl
    · intro K us W hK0 hB hd
      have hK := hid hK0; clear hK0
      have HBW := hid hB
      have hsW := hB.size
      have GB := hid (YW.out.trans (hB.mono YW.out.size))
      clear hd
      simp only [putF]
      rw [hA]
      go_frame
      go_wp2_with fail
      exact hK.out _ _ _ (by rw [hA]; simp only [putF]; kernel_rfl) (Below.refl _ _) rfl
    · intro K us W hK0 hB hd
      have hK := hid hK0; clear hK0
      have HBW := hid hB
      have hsW := hB.size
      have GB := hid (YW.out.trans (hB.mono YW.out.size))
      have e6 : us 6 = .int .i64 y := hd ⟨6, Ground.data⟩ (by simp) rfl
      have e7 : us 7 = .int .i64 (L : Int) := hd ⟨7, Ground.data⟩ (by simp) rfl
      clear hd
      simp only [putF]
      rw [hA, e6, e7]
      go_frame
      go_wp2_with fail
      refine (HIY.out W).mono ?_
      rintro r W' ⟨rfl, hb⟩
      go_wp2_with fail
      exact hK.out _ _ _ (by rw [hA]; simp only [putF]; rw [e6, e7]; kernel_rfl) hb rfl
    · intro K us W hK0 hB hd
      have hK := hid hK0; clear hK0
      have HBW := hid hB
      have hsW := hB.size
      have GB := hid (YW.out.trans (hB.mono YW.out.size))
      clear hd
      simp only [putF]
      rw [hA]
      go_frame
      go_wp2_with fail
      exact hK.out _ _ _ (by rw [hA]; simp only [putF]; kernel_rfl) (Below.refl _ _) rfl
    · intro K us W hK0 hB hd
      have hK := hid hK0; clear hK0
      have HBW := hid hB
      have hsW := hB.size
      have GB := hid (YW.out.trans (hB.mono YW.out.size))
      have e9 : us 9 = .pointer (some ⟨w.heap.size, 3, none⟩) := hd ⟨9, Ground.data⟩ (by simp) rfl
      clear hd
      simp only [putF]
      rw [hA, e9]
      go_frame
      go_wp2_with fail
      exact hK.out _ _ _ (by rw [hA]; simp only [putF]; rw [e9]; kernel_rfl) (Below.refl _ _) rfl
    · intro K us W hK0 hB hd
      have hK := hid hK0; clear hK0
      have HBW := hid hB
      have hsW := hB.size
      have GB := hid (YW.out.trans (hB.mono YW.out.size))
      have e10 : us 10 = .pointer (some ⟨w.heap.size, 3, none⟩) := hd ⟨10, Ground.data⟩ (by simp) rfl
      clear hd
      have G0 := hid (heap_still hB YP.out)
      have c0 : W.cell? ⟨w.heap.size, 3, none⟩ = some (.int .i64 zl) := (cell_row (j := 3) G0.out).trans rfl
      simp only [putF]
      rw [hA, e10]
      go_frame
      go_wp2_with fail
      exact hK.out _ _ _ (by rw [hA]; simp only [putF]; rw [e10]; kernel_rfl) (Below.refl _ _) rfl
    · intro K us W hK0 hB hd
      have hK := hid hK0; clear hK0
      have HBW := hid hB
      have hsW := hB.size
      have GB := hid (YW.out.trans (hB.mono YW.out.size))
      clear hd
      simp only [putF]
      rw [hA]
      go_frame
      go_wp2_with fail
      exact hK.out _ _ _ (by rw [hA]; simp only [putF]; kernel_rfl) (Below.refl _ _) rfl
    · intro K us W hK0 hB hd
      have hK := hid hK0; clear hK0
      have HBW := hid hB
      have hsW := hB.size
      have GB := hid (YW.out.trans (hB.mono YW.out.size))
      have e11 : us 11 = .int .i64 zl := hd ⟨11, Ground.data⟩ (by simp) rfl
      have e12 : us 12 = .int .i64 (L : Int) := hd ⟨12, Ground.data⟩ (by simp) rfl
      clear hd
      simp only [putF]
      rw [hA, e11, e12]
      go_frame
      go_wp2_with fail
      refine (HIZ.out W).mono ?_
      rintro r W' ⟨rfl, hb⟩
      go_wp2_with fail
      exact hK.out _ _ _ (by rw [hA]; simp only [putF]; rw [e11, e12]; kernel_rfl) hb rfl
    · intro K us W hK0 hB hd
      have hK := hid hK0; clear hK0
      have HBW := hid hB
      have hsW := hB.size
      have GB := hid (YW.out.trans (hB.mono YW.out.size))
      have e0 : us 0 = .int .i64 (L : Int) := hd ⟨0, Ground.data⟩ (by simp) rfl
      have e4 : us 4 = .int .i64 (idxV x L) := hd ⟨4, Ground.data⟩ (by simp) rfl
      have e8 : us 8 = .int .i64 (idxV y L) := hd ⟨8, Ground.data⟩ (by simp) rfl
      have e13 : us 13 = .int .i64 (idxV zl L) := hd ⟨13, Ground.data⟩ (by simp) rfl
      clear hd
      simp only [putF]
      rw [hA, e0, e4, e8, e13]
      go_frame
      go_wp2_with fail
      exact hK.out _ _ _ (by rw [hA]; simp only [putF]; rw [e0, e4, e8, e13]; kernel_rfl) (Below.refl _ _) rfl
  intro K us V7 hK0 hB hp
  have hK := hid hK0
  clear hK0
  have e14 : us 14 = .agg #[.int .i64 (L : Int), .int .i64 (idxV x L), .int .i64 (idxV y L), .int .i64 (idxV zl L)] := hp 14 (by decide)
  have HBV7 := hid (YW.out.trans (hB.mono YW.out.size))
  have HSV7 := hid (fun n x => @heap_still _ _ n x hB)
  have hzV7 := hB.size
  have hbV7 := hid hB
  clear hp
  simp only [putF]
  rw [hA, e14]
  skip
  go_frame
  go_wp2_with (refine wpList_store_at rfl 39 (.tmp 4) (.tmp 19) rfl rfl rfl (HSV7.out _ _ YK.out) size39 rfl rfl rfl ?_)
  refine hK.out undef _ _ (by rw [hA]; simp only [putF]; rw [e14]; kernel_rfl) ?_
  clear hK hB hA e14
  go_wp2_with fail
  refine bodyPost_ret (results_at1 rfl rfl (setRow_heap _ _ _ _ _ _ (HSV7.out _ _ YK.out)) Try.underlying39 rfl size39 rfl) rfl ⟨rfl, below_setRow HBV7.out (by omega) _⟩
end Go.Proofs.Yteanlcefdoigcaa
