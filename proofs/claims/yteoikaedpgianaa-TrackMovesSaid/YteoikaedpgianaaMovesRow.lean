/- TrackMoves: a motion with a constant acceleration within the rules, whose places at two fixes are within their errors, is within the pose at every time between them. Every input, no condition. -/
import Derived.Test.YteoikaedpgianaaMovesLaw
import Derived.Test.YteoikaedpgianaaLawKit
namespace Go.Proofs.Yteoikaedpgianaa
open Go.ChangeShapes Go.WideShapes Go.ChangeAt Go.RowKit Limb

theorem moves_args (W : World) (xs : List Int) (hx : xs.length = 27) :
    Calls Try.prog 14 #[.agg (xs.map (Value.int .i64)).toArray] W fun r w' => r = .returned (.bool true) ∧ Below W.heap.size W w' := by
  match xs, hx with
  | [x0, x1, x2, x3, x4, x5, x6, x7, x8, x9, x10, x11, x12, x13, x14, x15, x16, x17, x18, x19, x20, x21, x22, x23, x24, x25, x26], _ => exact moves_law (fun i => [x0, x1, x2, x3, x4, x5, x6, x7, x8, x9].getD i 0) (fun i => [x10, x11, x12, x13, x14, x15, x16, x17, x18, x19].getD i 0) x20 x21 x22 x23 x24 x25 x26 W
set_option maxRecDepth 100000 in
theorem trackMoves_lifted (os : Os) (started : os.Started) (H : Type) (enc : TypeId × Value → H) :
    ReturnsInHanded {} Try.checked os 14 .any (Rows.trackMovesSpec.pre6 enc Try.prog Try.f14 Rows.trackMovesRow.domain false) (Rows.trackMovesSpec.post enc Try.prog Try.f14 false true false false) := by
  refine law_lifted (C := Try.checked) (tb := 4) lawOwn started (by kernel_rfl) Try.func14 rfl ?_ (show Try.f14.resultTypes = #[4] by kernel_rfl) Try.underlying4 lawLaid ?_
    (ChangeSpec.witness6 (enc := enc) (C := Try.checked) false ⟨#[], #[.agg #[.int .i64 0, .int .i64 0, .int .i64 0, .int .i64 0, .int .i64 0, .int .i64 0, .int .i64 0, .int .i64 0, .int .i64 0, .int .i64 0, .int .i64 0, .int .i64 0, .int .i64 0, .int .i64 0, .int .i64 0, .int .i64 0, .int .i64 0, .int .i64 0, .int .i64 0, .int .i64 0, .int .i64 0, .int .i64 0, .int .i64 0, .int .i64 0, .int .i64 0, .int .i64 0, .int .i64 0]], []⟩ 8 (by kernel_rfl) (by kernel_rfl) (by kernel_rfl) (by kernel_rfl)) ?_
  · intro ds hds
    match ds, hds with
    | [d1], _ => exact ⟨rfl, rfl, rfl⟩
  · rw [Try.params14]
    intro t ht
    simp at ht
    subst ht
    exact ⟨by kernel_rfl, of_decide_eq_true (by kernel_rfl)⟩
  · intro W base args ds p hval hA hlt _
    change DataW.TrodAll enc Try.prog W 0 (fun _ => true) true Try.f14.params.toList args.toList ds p at hA
    change ∀ (j : Nat) t v, Try.f14.params[j]? = some t → args[j]? = some v → Value.okWide Try.prog W .any base t v at hval
    rw [Try.params14] at hA hval
    obtain ⟨v0, vs0, d0, ds0, p0, q0, hargs, rfl, rfl, h0, r0⟩ := trodAll_cons hA
    obtain ⟨rfl, rfl, rfl⟩ := trodAll_nil r0
    obtain rfl : args = #[v0] := by cases args; simp_all
    obtain ⟨c0, e0, f0⟩ := open_flat lawFlat103 lawSize103 (by kernel_rfl) (hval 0 103 v0 rfl rfl) h0
    obtain ⟨xs, hx, rfl⟩ := lawCells f0
    subst e0
    exact moves_args W xs hx

/-- TrackMoves, whatever the input. -/
theorem trackMoves_holds : Rows.TrackMovesSaid :=
  OpenClaim.holds_of_wide 14 Try.f14 rfl rfl rfl rfl rfl rfl rfl ⟨rfl, rfl, rfl, rfl, rfl⟩ rfl rfl rfl rfl rfl (by kernel_rfl) Try.func14 (by kernel_rfl)
    (of_decide_eq_true (by kernel_rfl)) (by unfold Func.isWrapper; rw [if_neg (of_decide_eq_false (by kernel_rfl))]; exact ⟨rfl, rfl⟩)
    (fun os started H enc _ => trackMoves_lifted os started H enc)
#print axioms trackMoves_holds
end Go.Proofs.Yteoikaedpgianaa
