/- TrackCleans: the reference's Clean and Parts answer as the program's. Every input, no condition. -/
import Derived.Test.YteoikaedpgianaaRStI
namespace Go.Proofs.Yteoikaedpgianaa
open Go.ChangeShapes Go.WideShapes Go.ChangeAt Go.RowKit Go.Sort Go.Lib Go.Shelf Go.Proofs

theorem list_of {α : Type} {R : Nat → α → Prop} : ∀ n, (∀ i, i < n → ∃ x, R i x) → ∃ l : List α, l.length = n ∧ ∀ i x, l[i]? = some x → R i x
  | 0, _ => ⟨[], rfl, fun i x h => by simp at h⟩
  | n + 1, h => by
    obtain ⟨l, h1, h2⟩ := list_of n (fun i hi => h i (by omega))
    obtain ⟨x, hx⟩ := h n (by omega)
    refine ⟨l ++ [x], by simp [h1], fun i y hy => ?_⟩
    by_cases hi : i < n
    · exact h2 i y (by rw [List.getElem?_append_left (by omega)] at hy; exact hy)
    · have hil : i < (l ++ [x]).length := (List.getElem?_eq_some_iff.1 hy).1
      simp [h1] at hil
      obtain rfl : i = n := by omega
      rw [List.getElem?_append_right (by omega)] at hy
      simp [h1] at hy
      subst hy
      exact hx

theorem rows_fx {w : World} {b off n : Nat} (h : rows w b off 10 n (List.replicate 10 (some .i64))) : ∃ L : List Fx, L.length = n ∧ RowsAt w b off 10 (L.map Fx.row) := by
  obtain ⟨L, h1, h2⟩ := list_of (R := fun i (x : Fx) => ∀ j, j < 10 → w.cell? ⟨b, off + i * 10 + j, none⟩ = x.row[j]?) n (fun i hi => by
    obtain ⟨cs, hf, hc⟩ := h i hi
    obtain ⟨zs, hl, rfl⟩ := lawCells (n := 10) hf
    match zs, hl with
    | [z0, z1, z2, z3, z4, z5, z6, z7, z8, z9], _ =>
      refine ⟨⟨z0, z1, z2, z3, z4, z5, z6, z7, z8, z9⟩, fun j hj => ?_⟩
      match j, hj with
      | 0, _ | 1, _ | 2, _ | 3, _ | 4, _ | 5, _ | 6, _ | 7, _ | 8, _ | 9, _ => exact hc _ _ rfl)
  refine ⟨L, h1, fun i r hi j hj => ?_⟩
  rw [List.getElem?_map] at hi
  obtain ⟨x, hx, rfl⟩ := Option.map_eq_some_iff.1 hi
  exact h2 i x hx j hj
section
variable {H : Type} {enc : TypeId × Value → H} {w : World} {base : Nat} {spare : Nat → Bool} {held : Bool}
set_option maxRecDepth 100000 in
theorem open_fixes {r : Reach} {b0 : Nat} {v : Value} {d : DataW H} {p : List MemPlace} (hv : Value.okWide Try.prog w r b0 106 v) (h : DataW.Trod enc Try.prog w base spare held 106 v d p) : ∃ S : List Fx, FxV w v S ∧ S.length ≤ maxLen := by
  rcases open_rows Try.underlying106 lawFlat55 lawSize55 (by decide) hv h with rfl | ⟨a, c, rfl⟩ | ⟨b, off, n, c, rfl, hn, hc, hm, hr⟩
  · exact ⟨[], .inl ⟨rfl, rfl⟩, by simp⟩
  · exact ⟨[], .inr ⟨a, c, rfl, .inl rfl⟩, by simp⟩
  · obtain ⟨S, h1, h2⟩ := rows_fx hr
    have hb : b < w.heap.size := by
      obtain ⟨x, hx⟩ : ∃ x, S[0]? = some x := ⟨_, List.getElem?_eq_getElem (by omega)⟩
      exact block_lt_of_cell ((h2 0 x.row (by rw [List.getElem?_map, hx]; rfl) 0 (by decide)).trans (x.row_at 0 (by decide)))
    subst h1
    exact ⟨S, .inr ⟨_, c, rfl, .inr ⟨b, off, rfl, hb, h2⟩⟩, by omega⟩
end
set_option maxRecDepth 100000 in
theorem trackCleans_lifted (os : Os) (started : os.Started) (H : Type) (enc : TypeId × Value → H) :
    ReturnsInHanded {} Try.checked os 17 .any (Rows.trackCleansSpec.pre6 enc Try.prog Try.f17 Rows.trackCleansRow.domain false) (Rows.trackCleansSpec.post enc Try.prog Try.f17 false true false false) := by
  refine law_lifted (C := Try.checked) (tb := 4) lawOwn started (by kernel_rfl) Try.func17 rfl ?_ (show Try.f17.resultTypes = #[4] by kernel_rfl) Try.underlying4 lawLaid ?_
    (ChangeSpec.witness6 (enc := enc) (C := Try.checked) false ⟨#[], #[.slice none 0 0, .agg #[.int .i64 0, .int .i64 0, .int .i64 0, .int .i64 0]], []⟩ 8 (by kernel_rfl) (by kernel_rfl) (by kernel_rfl) (by kernel_rfl)) ?_
  · intro ds hds
    match ds, hds with
    | [d1, d2], _ => exact ⟨rfl, rfl, rfl⟩
  · rw [Try.params17]
    intro t ht
    simp at ht
    rcases ht with rfl | rfl
    all_goals exact ⟨by kernel_rfl, of_decide_eq_true (by kernel_rfl)⟩
  · intro W base args ds p hval hA hlt _
    change DataW.TrodAll enc Try.prog W 0 (fun _ => true) true Try.f17.params.toList args.toList ds p at hA
    change ∀ (j : Nat) t v, Try.f17.params[j]? = some t → args[j]? = some v → Value.okWide Try.prog W .any base t v at hval
    rw [Try.params17] at hA hval
    obtain ⟨v0, vs0, d0, ds0, p0, q0, hargs, rfl, rfl, h0, r0⟩ := trodAll_cons hA
    obtain ⟨v1, vs1, d1, ds1, p1, q1, rfl, rfl, rfl, h1, r1⟩ := trodAll_cons r0
    obtain ⟨rfl, rfl, rfl⟩ := trodAll_nil r1
    obtain rfl : args = #[v0, v1] := by cases args; simp_all
    obtain ⟨xs, hX, hXn⟩ := open_fixes (hval 0 106 v0 rfl rfl) h0
    obtain ⟨c1, e1, f1⟩ := open_flat lawFlat61 lawSize61 (by kernel_rfl) (hval 1 61 v1 rfl rfl) h1
    subst e1
    obtain ⟨ms, hl, rfl⟩ := lawCells (n := 4) f1
    match ms, hl with
    | [m0, m1, m2, m3], _ => exact trackcleans_law v0 xs m0 m1 m2 m3 W hX hXn
/-- TrackCleans, whatever the input. -/
theorem trackCleans_holds : Rows.TrackCleansSaid :=
  OpenClaim.holds_of_wide 17 Try.f17 rfl rfl rfl rfl rfl rfl rfl ⟨rfl, rfl, rfl, rfl, rfl⟩ rfl rfl rfl rfl rfl (by kernel_rfl) Try.func17 (by kernel_rfl)
    (of_decide_eq_true (by kernel_rfl)) (by unfold Func.isWrapper; rw [if_neg (of_decide_eq_false (by kernel_rfl))]; exact ⟨rfl, rfl⟩)
    (fun os started H enc _ => trackCleans_lifted os started H enc)
#print axioms trackCleans_holds
end Go.Proofs.Yteoikaedpgianaa
