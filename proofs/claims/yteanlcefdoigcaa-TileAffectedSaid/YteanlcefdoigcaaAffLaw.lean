/- TileAffected: adding or removing one point changes at most one tile of each level, each in the cell of the one above it, for at most 50 points; for others the law answers by itself. Every input, no condition but the form's own reach. -/
import Derived.Test.YteanlcefdoigcaaAffR
import Derived.SizedLaws
namespace Go.Proofs.Yteanlcefdoigcaa
open Go.ChangeShapes Go.WideShapes Go.ChangeAt Go.RowKit Go.Maps Go.Sort

theorem bytes36 : Try.prog.bytesOf 36 = 72 := by kernel_rfl
section
variable {H : Type} {enc : TypeId × Value → H} {w : World} {base : Nat} {spare : Nat → Bool} {held : Bool}
/-- a slice of points that was handed in takes no more memory than there are addresses -/
theorem pts_sized {v : Value} {d : DataW H} {p : List MemPlace} {S : List Pt} {W : World} {ts : List TypeId} {ds : List (DataW H)} {j : Nat} (h : DataW.Trod enc Try.prog w base spare held 22 v d p) (hS : PtsV W v S)
    (hz : (DataW.weightsEach Try.prog ts ds).all (· ≤ reachBytes) = true) (ht : ts[j]? = some 22) (hd : ds[j]? = some d) : S.length * 72 ≤ 140737488351232 := by
  obtain ⟨a0, c0, rfl, _⟩ := hS
  obtain ⟨fuel, hx⟩ := h
  rcases Go.Deep.open_slice Try.underlying22 hx with ⟨h0, _⟩ | ⟨a, len, cap, m, n, D, Pl, h1, hb, hl, hm, hmm, hx1, hall⟩
  · simp [Value.cells] at h0
    obtain ⟨_, h2, _⟩ := h0
    subst h2
    simp
  · simp [Value.cells] at h1
    obtain ⟨_, h2, _⟩ := h1
    injection hx1 with hx1 _
    subst hx1
    have h3 := sized_slice hz ht hd Try.underlying22
    rw [List.length_map, List.length_range, bytes36] at h3
    have h4 : len * 72 ≤ (len + ((List.range (m - len)).map fun j => D (len + j)).length) * 72 := Nat.mul_le_mul_right 72 (Nat.le_add_right _ _)
    have h5 : reachBytes = 140737488351232 := rfl
    omega
end
theorem affected_args (W : World) (v0 v1 : Value) (S : List Pt) (ps : List Int) (c : Int) (hp : PtsV W v0 S) (hp0 : NilV v0) (hn : S.length * 72 ≤ 140737488351232) (hl : ps.length = 9) (h1 : v1 = .agg (ps.map (Value.int .i64)).toArray) :
    Calls Try.prog 9 #[v0, v1, .int .i64 c] W fun e w' => e = .returned (.bool true) ∧ Below W.heap.size W w' := by
  subst h1
  match ps, hl with
  | [a, b, c0, d, e, f, g, h, i], _ => exact affected_law v0 S ⟨a, b, c0, d, e, f, g, h, i⟩ c W hp hp0 hn
set_option maxRecDepth 100000 in
theorem tileAffected_lifted (os : Os) (started : os.Started) (H : Type) (enc : TypeId × Value → H) :
    ReturnsInHanded {} Try.checked os 9 .any (Rows.tileAffectedSpec.pre6 enc Try.prog Try.f9 Rows.tileAffectedRow.domain false) (Rows.tileAffectedSpec.post enc Try.prog Try.f9 false true false false) := by
  refine law_lifted (C := Try.checked) (tb := 4) lawOwn started (by kernel_rfl) Try.func9 rfl ?_ (show Try.f9.resultTypes = #[4] by kernel_rfl) Try.underlying4 lawLaid ?_
    (ChangeSpec.witness6 (enc := enc) (C := Try.checked) false ⟨#[], #[.slice none 0 0, .agg #[.int .i64 0, .int .i64 0, .int .i64 0, .int .i64 0, .int .i64 0, .int .i64 0, .int .i64 0, .int .i64 0, .int .i64 0], .int .i64 0], []⟩ 8 (by kernel_rfl) (by kernel_rfl) (by kernel_rfl) (by kernel_rfl)) ?_
  · intro ds hds
    match ds, hds with
    | [d1, d2, d3], _ => exact ⟨rfl, rfl, rfl⟩
  · rw [Try.params9]
    intro t ht
    simp at ht
    rcases ht with rfl | rfl | rfl
    all_goals exact ⟨by kernel_rfl, of_decide_eq_true (by kernel_rfl)⟩
  · intro W base args ds p hval hA hlt hsz
    change DataW.TrodAll enc Try.prog W 0 (fun _ => true) true Try.f9.params.toList args.toList ds p at hA
    change ∀ (j : Nat) t v, Try.f9.params[j]? = some t → args[j]? = some v → Value.okWide Try.prog W .any base t v at hval
    rw [Try.params9] at hA hval
    obtain ⟨v0, vs0, d0, ds0, p0, q0, hargs, rfl, rfl, h0, r0⟩ := trodAll_cons hA
    obtain ⟨v1, vs1, d1, ds1, p1, q1, rfl, rfl, rfl, h1, r1⟩ := trodAll_cons r0
    obtain ⟨v2, vs2, d2, ds2, p2, q2, rfl, rfl, rfl, h2, r2⟩ := trodAll_cons r1
    obtain ⟨rfl, rfl, rfl⟩ := trodAll_nil r2
    obtain rfl : args = #[v0, v1, v2] := by cases args; simp_all
    obtain ⟨S, hS, hS0, hSn⟩ := open_pts (hval 0 22 v0 rfl rfl) h0
    have hS72 := pts_sized (j := 0) h0 hS hsz rfl rfl
    obtain ⟨c0, e0, f0⟩ := open_flat lawFlat36 lawSize36 (by kernel_rfl) (hval 1 36 v1 rfl rfl) h1
    obtain ⟨n, rfl, _, _⟩ := open_int Try.underlying3 (hval 2 3 v2 rfl rfl) h2
    obtain ⟨xs, ha, rfl⟩ := lawCells f0
    exact affected_args W v0 v1 S xs n hS hS0 hS72 ha e0
/-- TileAffected, whatever the input. -/
theorem tileAffected_holds : Rows.TileAffectedSaid :=
  OpenClaim.holds_of_wide 9 Try.f9 rfl rfl rfl rfl rfl rfl rfl ⟨rfl, rfl, rfl, rfl, rfl⟩ rfl rfl rfl rfl rfl (by kernel_rfl) Try.func9 (by kernel_rfl)
    (of_decide_eq_true (by kernel_rfl)) (by unfold Func.isWrapper; rw [if_neg (of_decide_eq_false (by kernel_rfl))]; exact ⟨rfl, rfl⟩)
    (fun os started H enc _ => tileAffected_lifted os started H enc)
#print axioms tileAffected_holds
end Go.Proofs.Yteanlcefdoigcaa
