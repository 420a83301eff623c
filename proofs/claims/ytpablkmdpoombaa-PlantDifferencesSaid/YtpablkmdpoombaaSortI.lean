/- slices.Sort at []int (67): the shelf's contract laid over this seat's numbers. (Printed by wip/gen_sorti.py.) -/
import Derived.Test.YtpablkmdpoombaaSrt
import Derived.Shelf.Sort.Plain
import Derived.Shelf.Slices.In.SortNone
import Derived.Sort.OwnSortedInts
namespace Go.Proofs.Ytpablkmdpoombaa
open Go.RowKit Go.Sort Go.Shelf Go.Proofs

def sortI_ren : Go.Shelf.Ren := ⟨fun | 125 => 72 | 128 => 117 | 129 => 118 | 189 => 67 | 215 => 157 | 216 => 139 | 257 => 107 | 294 => 133 | 295 => 134 | 296 => 135 | 297 => 136 | 298 => 137 | 299 => 138 | 300 => 140 | 301 => 141 | 328 => 154 | 329 => 143 | 330 => 144 | 331 => 155 | 332 => 156 | 343 => 162 | n => n, fun | 28 => 36 | 51 => 121 | 131 => 148 | 182 => 143 | 183 => 144 | 218 => 168 | 222 => 172 | 228 => 183 | 229 => 184 | 46 => 32 | 53 => 125 | 0 => 0 | 3 => 3 | 4 => 4 | 5 => 5 | 9 => 9 | n => n, fun | n => n⟩
theorem sortIL : Lays.n189 Try.prog sortI_ren := {
  mixed := by kernel_rfl
  f125 := Try.func72.trans (congrArg some (by kernel_rfl))
  f128 := Try.func117.trans (congrArg some (by kernel_rfl))
  f129 := Try.func118.trans (congrArg some (by kernel_rfl))
  f189 := Try.func67.trans (congrArg some (by kernel_rfl))
  f215 := Try.func157.trans (congrArg some (by kernel_rfl))
  f216 := Try.func139.trans (congrArg some (by kernel_rfl))
  f257 := Try.func107.trans (congrArg some (by kernel_rfl))
  f294 := Try.func133.trans (congrArg some (by kernel_rfl))
  f295 := Try.func134.trans (congrArg some (by kernel_rfl))
  f296 := Try.func135.trans (congrArg some (by kernel_rfl))
  f297 := Try.func136.trans (congrArg some (by kernel_rfl))
  f298 := Try.func137.trans (congrArg some (by kernel_rfl))
  f299 := Try.func138.trans (congrArg some (by kernel_rfl))
  f300 := Try.func140.trans (congrArg some (by kernel_rfl))
  f301 := Try.func141.trans (congrArg some (by kernel_rfl))
  f328 := Try.func154.trans (congrArg some (by kernel_rfl))
  f329 := Try.func143.trans (congrArg some (by kernel_rfl))
  f330 := Try.func144.trans (congrArg some (by kernel_rfl))
  f331 := Try.func155.trans (congrArg some (by kernel_rfl))
  f332 := Try.func156.trans (congrArg some (by kernel_rfl))
  f343 := Try.func162.trans (congrArg some (by kernel_rfl))
  t0 := Try.underlying0
  a0 := Try.isAgg0
  z0 := Try.sizeOf0
  v0 := Try.zeroValue0
  t3 := Try.underlying3
  a3 := Try.isAgg3
  z3 := Try.sizeOf3
  v3 := Try.zeroValue3
  t4 := Try.underlying4
  a4 := Try.isAgg4
  z4 := Try.sizeOf4
  v4 := Try.zeroValue4
  t5 := Try.underlying5
  a5 := Try.isAgg5
  z5 := Try.sizeOf5
  v5 := Try.zeroValue5
  t9 := Try.underlying9
  a9 := Try.isAgg9
  z9 := Try.sizeOf9
  v9 := Try.zeroValue9
  t28 := Try.underlying36
  a28 := Try.isAgg36
  z28 := Try.sizeOf36
  v28 := Try.zeroValue36
  t46 := Try.underlying32
  a46 := Try.isAgg32
  z46 := Try.sizeOf32
  v46 := Try.zeroValue32
  t51 := Try.underlying121
  a51 := Try.isAgg121
  z51 := Try.sizeOf121
  v51 := Try.zeroValue121
  t53 := Try.underlying125
  a53 := Try.isAgg125
  z53 := Try.sizeOf125
  v53 := Try.zeroValue125
  t131 := Try.underlying148
  a131 := Try.isAgg148
  z131 := Try.sizeOf148
  v131 := Try.zeroValue148
  t182 := Try.underlying143
  a182 := Try.isAgg143
  z182 := Try.sizeOf143
  v182 := Try.zeroValue143
  t183 := Try.underlying144
  a183 := Try.isAgg144
  z183 := Try.sizeOf144
  v183 := Try.zeroValue144
  t218 := Try.underlying168
  a218 := Try.isAgg168
  z218 := Try.sizeOf168
  v218 := Try.zeroValue168
  t222 := Try.underlying172
  a222 := Try.isAgg172
  z222 := Try.sizeOf172
  v222 := Try.zeroValue172
  t228 := Try.underlying183
  a228 := Try.isAgg183
  z228 := Try.sizeOf183
  v228 := Try.zeroValue183
  t229 := Try.underlying184
  a229 := Try.isAgg184
  z229 := Try.sizeOf184
  v229 := Try.zeroValue184 }
theorem iRow_flat (l : List Int) : (l.map iRow).flatten = l.map (Value.int .i64) := by
  induction l with
  | nil => rfl
  | cons z l ih => simp [iRow] at ih ⊢; exact ih
theorem iRow_wide (l : List Int) : Wide 1 (l.map iRow) := fun r hr => by
  obtain ⟨z, _, rfl⟩ := List.mem_map.1 hr
  exact ⟨rfl, iRow_one z⟩
/-- slices.Sort of an own slice of numbers: the numbers in ascending order, in the same block -/
theorem sortI_any (W : World) (base : Nat) (v : Value) (l : List Int) (h : OwnI W base v l) (hsz : l.length < 4611686018427387904) :
    Calls Try.prog 67 #[v] W fun e w' => e = .returned (.tuple #[]) ∧ OwnI w' base v (l.mergeSort fun x y => decide (x ≤ y)) ∧ W.grownBy w' v.ownBlock := by
  obtain ⟨a, cap, hv⟩ := OwnR.slice h
  rw [List.length_map] at hv
  subst hv
  have hrow := h.2
  rw [List.length_map, iRow_flat] at hrow
  by_cases hl : l.length = 0
  · obtain rfl := List.eq_nil_of_length_eq_zero hl
    refine (Any.slices_Sort_int_none sortIL a cap W).mono ?_
    rintro e w' ⟨rfl, rfl⟩
    exact ⟨rfl, by rw [List.mergeSort_nil]; exact h, ⟨rfl, rfl, rfl, Nat.le_refl _, fun _ _ _ => rfl⟩⟩
  · rcases hrow.2 with ⟨_, h0⟩ | ⟨g, cap', cur, h1, hB, hc, h2, h3, h4, h5⟩
    · exact absurd h0 hl
    injection h1 with h1 _ h6
    subst h1 h6
    rw [Nat.mul_one] at h5
    refine (Any.slices_Sort_int sortIL g 0 cap l W (holds_of_blockI hc h5) (Array.getElem?_eq_some_iff.1 hc).1 hsz).mono ?_
    rintro e w' ⟨rfl, n, os, rfl⟩
    have hlen : (l.mergeSort fun x y => decide (x ≤ y)).length = l.length := List.length_mergeSort _
    refine ⟨rfl, ⟨iRow_wide _, ?_⟩, grownBy_sortedI _⟩
    rw [List.length_map, iRow_flat, hlen]
    exact ownsRow_sortedI hlen hB hc h2 h3 h4
end Go.Proofs.Ytpablkmdpoombaa
