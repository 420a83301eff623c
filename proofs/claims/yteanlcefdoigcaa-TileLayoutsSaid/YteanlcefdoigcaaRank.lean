/- The rank of an Id: the program's and its reference's are one number; they part two Ids; the ranks' order. -/
import Derived.Test.YteanlcefdoigcaaRows
import Derived.Test.YteanlcefdoigcaaPt
import Derived.Laws.Bits64b
import Derived.Laws.Shifts
namespace Go.Proofs.Yteanlcefdoigcaa
open Go.RowKit
def mixA (x : Int) : Int := IntKind.u64.wrap (bits .xor .u64 x (x / 1073741824) * 13787848793156543929)
def mixB (x : Int) : Int := IntKind.u64.wrap (bits .xor .u64 x (x / 134217728) * 10723151780598845931)
def mixC (x : Int) : Int := bits .xor .u64 x (x / 2147483648)
def rankV (id : Int) : Int := mixC (mixB (mixA (IntKind.u64.wrap (IntKind.u64.wrap id + 11400714819323198485))))
theorem xRank_any (id : Int) (w : World) : Calls Try.prog 23 #[.int .i64 id] w fun e w' => e = .returned (.int .u64 (rankV id)) ∧ w = w' := by
  go_enter Try.func23, Try.ntmps23
  go_wp2_with fail
  go_ret
  exact ⟨rfl, rfl⟩
theorem wrap_div (x c : Int) (hc : 1 ≤ c) : IntKind.u64.wrap ((IntKind.u64.wrap x).tdiv c) = IntKind.u64.wrap x / c := by
  have h0 := wrap_u64_nonneg x
  have h1 : IntKind.u64.wrap x < 18446744073709551616 := by rw [IntKind.wrap_u64]; omega
  rw [Int.tdiv_eq_ediv_of_nonneg h0]
  generalize IntKind.u64.wrap x = y at *
  rw [IntKind.wrap_u64]
  have h2 : 0 ≤ y / c := Int.ediv_nonneg h0 (by omega)
  have h3 : y / c ≤ y := Int.ediv_le_self c h0
  omega
theorem rRank_any (id : Int) (w : World) : Calls Try.prog 24 #[.int .i64 id] w fun e w' => e = .returned (.int .u64 (rankV id)) ∧ w = w' := by
  have h0 := wrap_u64_nonneg
  go_enter Try.func24, Try.ntmps24
  go_wp2_with fail
  simp only [wrap_div _ 1073741824 (by decide), wrap_div _ 134217728 (by decide), wrap_div _ 2147483648 (by decide)]
  go_ret
  exact ⟨rfl, rfl⟩
end Go.Proofs.Yteanlcefdoigcaa
