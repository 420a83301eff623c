/- Arguments that are tracks: what their cells are. -/
import Derived.Test.YteoikaedpgianaaTrack
import Derived.Deep.Slices
namespace Go.Proofs.Yteoikaedpgianaa
open Go.ChangeShapes Go.WideShapes Go.ChangeAt Go.RowKit Go.Deep
section
variable {H : Type} {enc : TypeId × Value → H} {P : Program} {w : World} {base : Nat} {spare : Nat → Bool} {held : Bool}

/-- A slice of flat structs, arrays or integers, in a cell. -/
theorem open_cell_rows {f fuel : Nat} {t e : TypeId} {ks : List (Option IntKind)} {v : Value} {x : DataW H × List MemPlace} (ht : P.underlying t = some (.slice e)) (hf : flatOf P f e = some ks) (hs : (P.info? e).map (·.size) = some ks.length) (hz : 0 < ks.length)
    (hx : DataW.trod enc P w base spare held fuel t [v] = some x) :
    ∃ a len cap, v = .slice a len cap ∧ len ≤ maxLen ∧ (0 < len → ∃ (b off : Nat), a = some ⟨b, off, none⟩ ∧ b < w.heap.size ∧ rows w b off ks.length len ks) := by
  rcases open_slice ht hx with ⟨h0, _⟩ | ⟨a, len, cap, m, n, D, Pl, h1, hb, hl, hm, hmm, _, hall⟩
  · exact ⟨none, 0, 0, by simpa using h0, by omega, fun h => by omega⟩
  · refine ⟨some a, len, cap, by simpa using h1, by omega, fun hpos => ?_⟩
    have hle : len ≤ m := by rw [hmm]; split <;> omega
    rw [cellsOf_of hs] at hall
    have key : ∀ i, i < len → ∃ cs : List Value, fitsW ks cs ∧ cs.length = ks.length ∧ ∀ j, j < ks.length → w.cell? ((a.add (i * ks.length)).add j) = cs[j]? := by
      intro i hi
      obtain ⟨cs, hc, ht⟩ := hall i (by omega)
      obtain ⟨_, hlen, hcell⟩ := World.cells?_some hc
      exact ⟨cs, trod_flat f e ks n cs _ hf hlen ht, hlen, hcell⟩
    obtain ⟨b, off, spot⟩ := a
    have hspot : spot = none := by
      obtain ⟨cs, _, hlen, hcell⟩ := key 0 (by omega)
      have h0 := hcell 0 (by omega)
      rw [List.getElem?_eq_getElem (by omega)] at h0
      simpa [Addr.add] using World.cell?_spot h0
    subst hspot
    have hr : rows w b off ks.length len ks := by
      intro i hi
      obtain ⟨cs, hfit, hlen, hcell⟩ := key i hi
      refine ⟨cs, hfit, fun j v hj => ?_⟩
      have hj' : j < ks.length := by rw [← hlen]; exact (List.getElem?_eq_some_iff.1 hj).1
      rw [← hj, ← hcell j hj', ← Go.WideShapes.add_plain, ← Go.WideShapes.add_plain]
    refine ⟨b, off, rfl, ?_, hr⟩
    obtain ⟨cs, _, hlen, hcell⟩ := key 0 hpos
    have h0 := hcell 0 hz
    rw [List.getElem?_eq_getElem (by omega), Go.WideShapes.add_plain, Go.WideShapes.add_plain] at h0
    exact cell_lt h0
/-- A struct or an array, by value, as an argument. -/
theorem open_agg {r : Reach} {b0 : Nat} {t : TypeId} {n : Nat} {v : Value} (hs : P.cellsOf t = n) (hagg : (match P.underlying t with | some (.struct _) => true | some (.array _ _) => true | _ => false) = true) (hv : Value.okWide P w r b0 t v) :
    ∃ cs : List Value, v = .agg cs.toArray ∧ cs.length = n := by
  obtain ⟨cs, rfl, hsz⟩ : ∃ cs, v = .agg cs ∧ cs.size = P.cellsOf t := by
    unfold Value.okWide at hv
    split at hv
    · obtain ⟨cs, rfl, h, _⟩ := hv; exact ⟨cs, rfl, h⟩
    · obtain ⟨cs, rfl, h, _⟩ := hv; exact ⟨cs, rfl, h⟩
    · rename_i h1 h2
      split at hagg
      · rename_i fs he; exact absurd he (h1 fs)
      · rename_i n e he; exact absurd he (h2 n e)
      · simp at hagg
  exact ⟨cs.toList, by simp, by simpa [hs] using hsz⟩
theorem one_cell {cs : List Value} (h : cs.length = 1) : ∃ v, cs = [v] := by
  match cs, h with
  | [v], _ => exact ⟨v, rfl⟩
end

theorem flat55 : flatOf Try.prog 10 55 = some (List.replicate 10 (some .i64)) := by kernel_rfl
theorem ints10 {cs : List Value} : ∀ {n : Nat}, fitsW (List.replicate n (some .i64)) cs → ∃ g : Nat → Int, ∀ j, j < n → cs[j]? = some (.int .i64 (g j))
  | 0, _ => ⟨fun _ => 0, fun j h => by omega⟩
  | n + 1, h => by
    obtain ⟨z, vs, rfl, _, h2⟩ := fits_int (show fitsW (some .i64 :: List.replicate n (some .i64)) cs from h)
    obtain ⟨g, hg⟩ := ints10 h2
    refine ⟨fun j => match j with | 0 => z | k + 1 => g k, fun j hj => ?_⟩
    match j, hj with
    | 0, _ => rfl
    | k + 1, h => exact hg k (by omega)
theorem rows10 {w : World} {b off n : Nat} (h : rows w b off 10 n (List.replicate 10 (some .i64))) : ∃ F : Nat → Nat → Int, recs10 w b off n F := by
  have each : ∀ i, i < n → ∃ g : Nat → Int, ∀ j, j < 10 → w.cell? ⟨b, off + i * 10 + j, none⟩ = some (.int .i64 (g j)) := by
    intro i hi
    obtain ⟨cs, hf, hc⟩ := h i hi
    obtain ⟨g, hg⟩ := ints10 hf
    exact ⟨g, fun j hj => hc j _ (hg j hj)⟩
  obtain ⟨F, hF⟩ := choose_lt each
  exact ⟨F, hF⟩

section
variable {H : Type} {enc : TypeId × Value → H} {w : World} {base : Nat} {spare : Nat → Bool} {held : Bool}
theorem cells106 : Try.prog.cellsOf 106 = 1 := by kernel_rfl
theorem cells62 : Try.prog.cellsOf 62 = 1 := by kernel_rfl
theorem cells64 : Try.prog.cellsOf 64 = 1 := by kernel_rfl

set_option maxRecDepth 100000 in
/-- A track, as an argument. -/
theorem open_track {r : Reach} {b0 : Nat} {v : Value} {d : DataW H} {p : List MemPlace} (hv : Value.okWide Try.prog w r b0 64 v) (h : DataW.Trod enc Try.prog w base spare held 64 v d p) :
    ∃ (a : Option Addr) (n c : Nat), v = .agg #[.slice a n c] ∧ n ≤ maxLen ∧ (n = 0 ∨ ∃ (b off : Nat) (A : Nat → Option Addr) (L C : Nat → Nat) (F : Nat → Nat → Nat → Int), a = some ⟨b, off, none⟩ ∧ b < w.heap.size ∧ (∀ p, L p ≤ maxLen) ∧ trackAt w b off n A L C F) := by
  obtain ⟨cs, rfl, hsz⟩ := open_agg cells64 (by kernel_rfl) hv
  clear hv
  obtain ⟨fuel, hx⟩ := h
  obtain ⟨v0, rfl⟩ := one_cell hsz
  clear hsz
  obtain ⟨xs, m, _, _, _, hxl, hf⟩ := DataW.trod_struct Try.underlying64 hx
  obtain ⟨y, hy⟩ : ∃ y, DataW.trod enc Try.prog w base spare held m 62 [v0] = some y := by
    have h1 := hf 0 _ rfl
    rw [List.getElem?_eq_getElem (by rw [hxl]; decide)] at h1
    exact ⟨_, by simpa [Value.cells, cells62] using h1⟩
  rcases open_slice1 Try.underlying62 cells106 hy with ⟨h0, _⟩ | ⟨a, len, cap, m', n', V, D, Pl, h1, hb, hl, hm, hmm, _, hall⟩
  · have h0' : v0 = .slice none 0 0 := by simpa using h0
    exact ⟨none, 0, 0, by rw [h0'], by omega, Or.inl rfl⟩
  · have h1' : v0 = .slice (some a) len cap := by simpa using h1
    refine ⟨some a, len, cap, by rw [h1'], by omega, ?_⟩
    by_cases hz : len = 0
    · exact Or.inl hz
    right
    have hle : len ≤ m' := by rw [hmm]; split <;> omega
    obtain ⟨b, off, spot⟩ := a
    have hspot : spot = none := by simpa [Addr.add] using World.cell?_spot (hall 0 (by omega)).1
    subst hspot
    have each : ∀ i, i < len → ∃ q : Option Addr × Nat × Nat × (Nat → Nat → Int), V i = .slice q.1 q.2.1 q.2.2.1 ∧ q.2.1 ≤ maxLen ∧ (0 < q.2.1 → ∃ b' o', q.1 = some ⟨b', o', none⟩ ∧ b' < w.heap.size ∧ recs10 w b' o' q.2.1 q.2.2.2) := by
      intro i hi
      obtain ⟨a', len', cap', hv', hm', hr'⟩ := open_cell_rows Try.underlying106 flat55 size55 (by decide) (hall i (by omega)).2
      by_cases h0 : len' = 0
      · exact ⟨(a', len', cap', fun _ _ => 0), hv', hm', fun h => by simp only at h; omega⟩
      · obtain ⟨b', o', ha', hb', hrows⟩ := hr' (by omega)
        obtain ⟨F, hF⟩ := rows10 hrows
        exact ⟨(a', len', cap', F), hv', hm', fun _ => ⟨b', o', ha', hb', hF⟩⟩
    obtain ⟨q, hq⟩ := choose_lt each
    refine ⟨b, off, fun p => (q p).1, fun p => if p < len then (q p).2.1 else 0, fun p => (q p).2.2.1, fun p => (q p).2.2.2, rfl, ?_, ?_, ?_⟩
    · have := (hall 0 (by omega)).1
      rw [Go.WideShapes.add_plain] at this
      exact cell_lt this
    · intro p
      show (if p < len then (q p).2.1 else 0) ≤ maxLen
      split
      · exact (hq p (by assumption)).2.1
      · omega
    · intro p hp
      have h2 := (hall p (by omega)).1
      rw [Go.WideShapes.add_plain] at h2
      obtain ⟨g1, g2, g3⟩ := hq p hp
      simp only [if_pos hp]
      exact ⟨by rw [h2, g1], g3⟩
end
end Go.Proofs.Yteoikaedpgianaa
