/- SortFunc at one element (points and tiles): nothing moves. -/
import Derived.Test.YteanlcefdoigcaaPoint
import Derived.Lib.BitFns
namespace Go.Proofs.Yteanlcefdoigcaa
open Go.RowKit

set_option maxRecDepth 100000 in
theorem len64_one (w : World) : Calls Try.prog 134 #[.int .u64 1] w fun e w' => e = .returned (.int .i64 1) ∧ w = w' := by
  go_enter Try.func134, Try.ntmps134
  go_wp2_with fail
  go_ret
  exact ⟨congrArg Ending.returned (congrArg (Value.int IntKind.i64) (by kernel_rfl)), rfl⟩
set_option maxRecDepth 100000 in
theorem len_one (w : World) : Calls Try.prog 103 #[.int .u64 1] w fun e w' => e = .returned (.int .i64 1) ∧ w = w' := by
  go_enter Try.func103, Try.ntmps103
  go_wp2_with fail
  refine (len64_one _).mono ?_
  rintro r w1 ⟨rfl, rfl⟩
  go_wp2_with fail
  go_ret
  exact ⟨rfl, rfl⟩
set_option maxRecDepth 100000 in
theorem ins1_point (a : Option Addr) (c : Nat) (f : Value) (w : World) : Calls Try.prog 125 #[.slice a 1 c, .int .i64 0, .int .i64 1, f] w fun e w' => e = .returned (.tuple #[]) ∧ Below w.heap.size w w' := by
  go_enter Try.func125, Try.ntmps125
  go_wp2_with fail
  refine wp_loop_rounds 1 ?_
  rw [rounds_succ]
  go_wp2_with fail
  go_end0
  exact ⟨rfl, by (repeat' (first | (with_reducible exact Below.refl _ _) | (with_reducible assumption) | (with_reducible refine Below.alloc ?_ ?_ _) | (with_reducible refine Below.drew ?_) | (with_reducible refine below_drewN ?_ _) | (with_reducible refine Below.setCell ?_ ?_ _) | (with_reducible refine below_setRow ?_ ?_ _) | go_size))⟩
set_option maxRecDepth 100000 in
theorem ins1_tile (a : Option Addr) (c : Nat) (f : Value) (w : World) : Calls Try.prog 143 #[.slice a 1 c, .int .i64 0, .int .i64 1, f] w fun e w' => e = .returned (.tuple #[]) ∧ Below w.heap.size w w' := by
  go_enter Try.func143, Try.ntmps143
  go_wp2_with fail
  refine wp_loop_rounds 1 ?_
  rw [rounds_succ]
  go_wp2_with fail
  go_end0
  exact ⟨rfl, by (repeat' (first | (with_reducible exact Below.refl _ _) | (with_reducible assumption) | (with_reducible refine Below.alloc ?_ ?_ _) | (with_reducible refine Below.drew ?_) | (with_reducible refine below_drewN ?_ _) | (with_reducible refine Below.setCell ?_ ?_ _) | (with_reducible refine below_setRow ?_ ?_ _) | go_size))⟩
set_option maxRecDepth 100000 in
theorem pdq1_point (a : Option Addr) (c : Nat) (f : Value) (w : World) : Calls Try.prog 102 #[.slice a 1 c, .int .i64 0, .int .i64 1, .int .i64 1, f] w fun e w' => e = .returned (.tuple #[]) ∧ Below w.heap.size w w' := by
  go_enter Try.func102, Try.ntmps102
  go_wp2_with fail
  refine wp_loop_rounds 1 ?_
  rw [rounds_succ]
  go_wp2_with fail
  refine (ins1_point _ _ _ _).mono ?_
  rintro r w1 ⟨rfl, hb⟩
  go_wp2_with fail
  refine bodyPost_ret (results_none rfl _ _ _) rfl ?_
  exact ⟨rfl, by (repeat' (first | (with_reducible exact Below.refl _ _) | (with_reducible assumption) | (with_reducible refine Below.alloc ?_ ?_ _) | (with_reducible refine Below.drew ?_) | (with_reducible refine below_drewN ?_ _) | (with_reducible refine Below.setCell ?_ ?_ _) | (with_reducible refine below_setRow ?_ ?_ _) | go_size))⟩
set_option maxRecDepth 100000 in
theorem pdq1_tile (a : Option Addr) (c : Nat) (f : Value) (w : World) : Calls Try.prog 124 #[.slice a 1 c, .int .i64 0, .int .i64 1, .int .i64 1, f] w fun e w' => e = .returned (.tuple #[]) ∧ Below w.heap.size w w' := by
  go_enter Try.func124, Try.ntmps124
  go_wp2_with fail
  refine wp_loop_rounds 1 ?_
  rw [rounds_succ]
  go_wp2_with fail
  refine (ins1_tile _ _ _ _).mono ?_
  rintro r w1 ⟨rfl, hb⟩
  go_wp2_with fail
  refine bodyPost_ret (results_none rfl _ _ _) rfl ?_
  exact ⟨rfl, by (repeat' (first | (with_reducible exact Below.refl _ _) | (with_reducible assumption) | (with_reducible refine Below.alloc ?_ ?_ _) | (with_reducible refine Below.drew ?_) | (with_reducible refine below_drewN ?_ _) | (with_reducible refine Below.setCell ?_ ?_ _) | (with_reducible refine below_setRow ?_ ?_ _) | go_size))⟩
set_option maxRecDepth 100000 in
theorem sort1_point (a : Option Addr) (c : Nat) (f : Value) (w : World) : Calls Try.prog 60 #[.slice a 1 c, f] w fun e w' => e = .returned (.tuple #[]) ∧ Below w.heap.size w w' := by
  go_enter Try.func60, Try.ntmps60
  go_wp2_with fail
  refine (len_one _).mono ?_
  rintro r w1 ⟨rfl, rfl⟩
  go_wp2_with fail
  refine (pdq1_point _ _ _ _).mono ?_
  rintro r w1 ⟨rfl, hb⟩
  go_wp2_with fail
  go_end0
  exact ⟨rfl, by (repeat' (first | (with_reducible exact Below.refl _ _) | (with_reducible assumption) | (with_reducible refine Below.alloc ?_ ?_ _) | (with_reducible refine Below.drew ?_) | (with_reducible refine below_drewN ?_ _) | (with_reducible refine Below.setCell ?_ ?_ _) | (with_reducible refine below_setRow ?_ ?_ _) | go_size))⟩
set_option maxRecDepth 100000 in
theorem sort1_tile (a : Option Addr) (c : Nat) (f : Value) (w : World) : Calls Try.prog 96 #[.slice a 1 c, f] w fun e w' => e = .returned (.tuple #[]) ∧ Below w.heap.size w w' := by
  go_enter Try.func96, Try.ntmps96
  go_wp2_with fail
  refine (len_one _).mono ?_
  rintro r w1 ⟨rfl, rfl⟩
  go_wp2_with fail
  refine (pdq1_tile _ _ _ _).mono ?_
  rintro r w1 ⟨rfl, hb⟩
  go_wp2_with fail
  go_end0
  exact ⟨rfl, by (repeat' (first | (with_reducible exact Below.refl _ _) | (with_reducible assumption) | (with_reducible refine Below.alloc ?_ ?_ _) | (with_reducible refine Below.drew ?_) | (with_reducible refine below_drewN ?_ _) | (with_reducible refine Below.setCell ?_ ?_ _) | (with_reducible refine below_setRow ?_ ?_ _) | go_size))⟩
end Go.Proofs.Yteanlcefdoigcaa
