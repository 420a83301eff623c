/- A key as a key of a map: every small one is one, and they are told apart. -/
import Derived.Test.YteanlcefdoigcaaSortF
import Derived.Test.YteanlcefdoigcaaLay1
namespace Go.Proofs.Yteanlcefdoigcaa
open Go.RowKit Go.Maps

theorem cells39 : Try.prog.cellsOf 39 = 4 := by kernel_rfl
theorem cells3 : Try.prog.cellsOf 3 = 1 := by kernel_rfl
theorem keyType39 : Try.prog.keyType 39 = true := by kernel_rfl
theorem keyLits_i64 (d : Nat) (n : Int) (h : (Lit.int .i64 n).wf = true) : Try.prog.keyLits (d + 1) 3 [.int .i64 n] = some [.int .i64 n] := by
  unfold Program.keyLits
  rw [Try.underlying3]
  simp [h]
def kLit (k : Ky) : Lit := .string (keyBytes [.int .i64 k.L, .int .i64 k.x, .int .i64 k.y, .int .i64 k.z])
set_option maxRecDepth 100000 in
theorem key_lit (k : Ky) (h : k.small) : keyOf Try.prog 39 (.agg k.row.toArray) = some (kLit k) := by
  obtain ⟨a, b, c, d⟩ := k
  simp only [Ky.small] at h
  have h0 : (Lit.int .i64 a).wf = true := WalkArith.wf_i64 (by omega)
  have h1 : (Lit.int .i64 b).wf = true := WalkArith.wf_i64 (by omega)
  have h2 : (Lit.int .i64 c).wf = true := WalkArith.wf_i64 (by omega)
  have h3 : (Lit.int .i64 d).wf = true := WalkArith.wf_i64 (by omega)
  obtain ⟨n, hn⟩ : ∃ n, Try.prog.types.size = n + 1 := ⟨Try.prog.types.size - 1, by have : 39 < Try.prog.types.size := of_decide_eq_true (by kernel_rfl); omega⟩
  unfold keyOf kLit Ky.row
  rw [Try.underlying39]
  simp only [keyType39, Value.formed, Try.underlying39, cells39, Bool.true_and, Value.cells, hn]
  have e : Try.prog.keyLits (n + 1 + 1) 39 [.int .i64 a, .int .i64 b, .int .i64 c, .int .i64 d] = some [.int .i64 a, .int .i64 b, .int .i64 c, .int .i64 d] := by
    unfold Program.keyLits
    rw [Try.underlying39]
    simp [cells39, cells3, keyLits_i64, h0, h1, h2, h3]
  simp [e]
theorem kLit_inj {a b : Ky} (ha : a.small) (hb : b.small) (h : kLit a = kLit b) : a = b := by
  have h1 := key_lit a ha
  rw [h] at h1
  have := law39.inj h1 (key_lit b hb)
  obtain ⟨a1, a2, a3, a4⟩ := a
  obtain ⟨b1, b2, b3, b4⟩ := b
  simp [Ky.row] at this
  obtain ⟨rfl, rfl, rfl, rfl⟩ := this
  rfl
end Go.Proofs.Yteanlcefdoigcaa
