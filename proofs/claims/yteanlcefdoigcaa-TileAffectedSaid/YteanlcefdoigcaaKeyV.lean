/- Slices of keys, as they lie in memory and as a call owns them. -/
import Derived.Test.YteanlcefdoigcaaTileM
namespace Go.Proofs.Yteanlcefdoigcaa
open Go.RowKit Go.Maps

def OwnK (W : World) (base : Nat) (v : Value) (K : List Ky) : Prop := OwnR W base 39 4 v (K.map Ky.row)
def KeysV (W : World) (v : Value) (K : List Ky) : Prop := ∃ a cap, v = .slice a K.length cap ∧ (K = [] ∨ ∃ b off, a = some ⟨b, off, none⟩ ∧ b < W.heap.size ∧ RowsAt W b off 4 (K.map Ky.row))
theorem Ky.row_one (k : Ky) : ∀ v ∈ k.row, v.oneCell' = true := fun v hv => by
  simp [Ky.row] at hv
  rcases hv with rfl | rfl | rfl | rfl <;> rfl
theorem OwnK.nil (W : World) (base : Nat) : OwnK W base (.slice none 0 0) [] := OwnR.nil _ _ _ _
theorem OwnK.slice {W : World} {base : Nat} {v : Value} {K : List Ky} (h : OwnK W base v K) : ∃ a cap, v = .slice a K.length cap := by
  have := OwnR.slice h
  rwa [List.length_map] at this
theorem OwnK.keysV {W : World} {base : Nat} {v : Value} {K : List Ky} (h : OwnK W base v K) : KeysV W v K := by
  by_cases hl : K = []
  · obtain ⟨a, cap, hv⟩ := h.slice
    exact ⟨a, cap, hv, Or.inl hl⟩
  · have hp : 0 < K.length := List.length_pos_iff.2 hl
    obtain ⟨g, cap, cur, h1, hb, h2, h3, _⟩ := OwnR.rows h (by simpa using hp)
    rw [List.length_map] at h1
    exact ⟨_, cap, h1, Or.inr ⟨g, 0, rfl, (Array.getElem?_eq_some_iff.1 h2).1, h3⟩⟩
theorem KeysV.nil (W : World) : KeysV W (.slice none 0 0) [] := ⟨none, 0, rfl, Or.inl rfl⟩
theorem KeysV.still {W W' : World} {v : Value} {K : List Ky} (h : KeysV W v K) (hb : Below W.heap.size W W') : KeysV W' v K := by
  obtain ⟨a, cap, h1, h2⟩ := h
  refine ⟨a, cap, h1, ?_⟩
  rcases h2 with h2 | ⟨b, off, h3, h4, h5⟩
  · exact Or.inl h2
  · exact Or.inr ⟨b, off, h3, Nat.lt_of_lt_of_le h4 hb.size, h5.still hb h4⟩
theorem OwnK.cells {W : World} {base : Nat} {v : Value} {K : List Ky} (h : OwnK W base v K) (hn : 0 < K.length) :
    ∃ g cap, v = .slice (some ⟨g, 0, none⟩) K.length cap ∧ base ≤ g ∧ g < W.heap.size ∧ ∀ i k, K[i]? = some k → ∀ j, j < 4 → W.cell? ⟨g, i * 4 + j, none⟩ = k.row[j]? := by
  obtain ⟨g, cap, cur, h1, hb, h2, h3, _⟩ := OwnR.rows h (by simpa using hn)
  rw [List.length_map] at h1
  refine ⟨g, cap, h1, hb, (Array.getElem?_eq_some_iff.1 h2).1, fun i k hi j hj => ?_⟩
  have := h3 i k.row (by rw [List.getElem?_map, hi]; rfl) j hj
  rwa [Nat.zero_add] at this
theorem wide4 (a b c d : Int) : Wide 4 [[Value.int .i64 a, .int .i64 b, .int .i64 c, .int .i64 d]] := Wide.one rfl (Ky.row_one ⟨a, b, c, d⟩)
theorem info39 : (Try.prog.info? 39).map (fun i => (i.zero, i.size, i.bytes)) = some (some (.agg #[.int .i64 0, .int .i64 0, .int .i64 0, .int .i64 0]), 4, 32) := by kernel_rfl
end Go.Proofs.Yteanlcefdoigcaa
