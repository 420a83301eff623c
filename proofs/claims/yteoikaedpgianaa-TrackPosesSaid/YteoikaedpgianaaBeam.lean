/- Beams of quaternions, and the sanity check of the laws. -/
import Derived.Test.YteoikaedpgianaaProd
import Derived.Test.YteoikaedpgianaaFlat
import Derived.Test.YteoikaedpgianaaReg
namespace Go.Proofs.Yteoikaedpgianaa
open Go.RowKit
theorem flat22 : flatOf Try.prog 10 22 = some [some .i64, some .i64, some .i64, some .i64] := by kernel_rfl
theorem size26 : (Try.prog.info? 26).map (·.size) = some 3 := by kernel_rfl
theorem eq22 (a b c d e f g h : Int) (W : World) : (Op.equalIn 10000 22 (.agg #[.int .i64 a, .int .i64 b, .int .i64 c, .int .i64 d]) (.agg #[.int .i64 e, .int .i64 f, .int .i64 g, .int .i64 h])).run Try.prog W = .ok ([a, b, c, d] == [e, f, g, h]) W := by
  rw [equal_array Try.underlying22 flat22 [.int .i64 a, .int .i64 b, .int .i64 c, .int .i64 d] [.int .i64 e, .int .i64 f, .int .i64 g, .int .i64 h] rfl rfl W]
  rw [show sameL [.int .i64 a, .int .i64 b, .int .i64 c, .int .i64 d] [.int .i64 e, .int .i64 f, .int .i64 g, .int .i64 h] = ([a, b, c, d] == [e, f, g, h]) from sameL_ints (a := [a, b, c, d]) (b := [e, f, g, h]) rfl]
theorem nz_any {a b c d : Int} : [a, b, c, d].any nz = !([a, b, c, d] == [0, 0, 0, 0]) := by
  simp [nz]
theorem turnB_zero {l a b c d : Int} (h : ([a, b, c, d] == [0, 0, 0, 0]) = true) : turnB l a b c d = false := by
  unfold turnB; rw [nz_any, h, Bool.not_true, Bool.and_false]
theorem turnB_ok {l a b c d : Int} (h : ([a, b, c, d] == [0, 0, 0, 0]) = false) : turnB l a b c d = ok4 l a b c d := by
  unfold turnB ok4; rw [nz_any, h, Bool.not_false, Bool.and_true]

theorem bcell {W w1 : World} (hb : Below W.heap.size W w1) : (∀ b o, b < W.heap.size → w1.cell? ⟨b, o, none⟩ = W.cell? ⟨b, o, none⟩) ∧ (∀ b o, b < W.heap.size → w1.frozen? ⟨b, o, none⟩ = W.frozen? ⟨b, o, none⟩) :=
  ⟨fun b o h => hb.cell (p := ⟨b, o, none⟩) h, fun b o h => hb.frozen (p := ⟨b, o, none⟩) h⟩
end Go.Proofs.Yteoikaedpgianaa
