/- TileLayouts: the program's layout of any points is the document's, with the same error, for at most 80 points; for more the law answers by itself. Every input, no condition. -/
import Derived.Test.YteanlcefdoigcaaLaysC
import Derived.Test.YteanlcefdoigcaaOpenP
import Derived.Test.YteanlcefdoigcaaAwake
namespace Go.Proofs.Yteanlcefdoigcaa
open Go.ChangeShapes Go.WideShapes Go.ChangeAt Go.RowKit

set_option maxRecDepth 100000 in
theorem lays_law (pv : Value) (S : List Pt) (c : Int) (w : World) (hp : PtsV w pv S) (hp0 : NilV pv) (hn : S.length ≤ maxLen) :
    Calls Try.prog 3 #[pv, .int .i64 c] w fun r w' => r = .returned (.bool true) ∧ Below w.heap.size w w' := by
  have HP := hid hp
  have HP0 := hid hp0
  obtain ⟨pa, pc, rfl, _⟩ := hp
  obtain ⟨n, hnl⟩ : ∃ n, n = S.length := ⟨_, rfl⟩
  rw [← hnl] at HP HP0 hn ⊢
  have HN := hid hnl
  have HNM := hid hn
  clear hp0 hn hnl
  by_cases h80 : 80 < n
  · have d1 : decide ((80 : Int) < (n : Int)) = true := decide_eq_true (by omega)
    go_enter Try.func3, Try.ntmps3
    go_wp2_with fail
    refine (awake_any _).mono ?_
    rintro r w9 ⟨rfl, hb⟩
    have HB9 := hid (show Below w.heap.size w w9 from (Below.refl w.heap.size w).trans (hb.mono (Below.refl w.heap.size w).size))
    clear hb
    go_wp2_with fail
    go_ret
    exact ⟨rfl, HB9.out⟩
  · have d1 : decide ((80 : Int) < (n : Int)) = false := decide_eq_false (by omega)
    go_enter Try.func3, Try.ntmps3
    go_wp2_with fail
    refine (xlayout_any _ S c w HP.out (by rw [← HN.out]; exact HNM.out)).mono ?_
    rintro r w1 ⟨⟨va, ea, E, rfl, hta, hla⟩, hb1⟩
    have HB1 := hid hb1
    have HTA := hid hta
    have HLA := hid hla
    have HP1 := hid (HP.out.still hb1)
    clear hta hla hb1
    go_wp2_with fail
    refine (rlayout_any _ S c w1 HP1.out HP0.out).mono ?_
    rintro r w2 ⟨⟨vb, eb, F, rfl, htb, hlb⟩, hb2⟩
    obtain rfl : ea = eb := HLA.out.err.trans hlb.err.symm
    have HB2 := hid (HB1.out.trans (hb2.mono HB1.out.size))
    have HTA2 := hid (TilesV.still HTA.out hb2)
    have HTB := hid htb
    have HEQ := hid (HLA.out.same hlb)
    clear htb hlb hb2
    go_wp2_with fail
    refine (same_tiles va vb E F w2 HTA2.out HTB.out HEQ.out (by have := HLA.out.len; omega) (fun e he => by have := HLA.out.pts e he; omega)).mono ?_
    rintro r w3 ⟨rfl, hb3⟩
    have HB3 := hid (HB2.out.trans (hb3.mono HB2.out.size))
    clear hb3
    go_wp2_with fail
    refine (awake_any _).mono ?_
    rintro r w9 ⟨rfl, hb⟩
    have HB9 := hid (show Below w.heap.size w w9 from HB3.out.trans (hb.mono HB3.out.size))
    clear hb
    go_wp2_with fail
    go_ret
    exact ⟨rfl, HB9.out⟩
set_option maxRecDepth 100000 in
theorem tileLayouts_lifted (os : Os) (started : os.Started) (H : Type) (enc : TypeId × Value → H) :
    ReturnsInHanded {} Try.checked os 3 .any (Rows.tileLayoutsSpec.pre6 enc Try.prog Try.f3 Rows.tileLayoutsRow.domain false) (Rows.tileLayoutsSpec.post enc Try.prog Try.f3 false true false false) := by
  refine law_lifted (C := Try.checked) (tb := 4) lawOwn started (by kernel_rfl) Try.func3 rfl ?_ (show Try.f3.resultTypes = #[4] by kernel_rfl) Try.underlying4 lawLaid ?_
    (ChangeSpec.witness6 (enc := enc) (C := Try.checked) false ⟨#[], #[.slice none 0 0, .int .i64 0], []⟩ 8 (by kernel_rfl) (by kernel_rfl) (by kernel_rfl) (by kernel_rfl)) ?_
  · intro ds hds
    match ds, hds with
    | [d1, d2], _ => exact ⟨rfl, rfl, rfl⟩
  · rw [Try.params3]
    intro t ht
    simp at ht
    rcases ht with rfl | rfl
    all_goals exact ⟨by kernel_rfl, of_decide_eq_true (by kernel_rfl)⟩
  · intro W base args ds p hval hA hlt _
    change DataW.TrodAll enc Try.prog W 0 (fun _ => true) true Try.f3.params.toList args.toList ds p at hA
    change ∀ (j : Nat) t v, Try.f3.params[j]? = some t → args[j]? = some v → Value.okWide Try.prog W .any base t v at hval
    rw [Try.params3] at hA hval
    obtain ⟨v0, vs0, d0, ds0, p0, q0, hargs, rfl, rfl, h0, r0⟩ := trodAll_cons hA
    obtain ⟨v1, vs1, d1, ds1, p1, q1, rfl, rfl, rfl, h1, r1⟩ := trodAll_cons r0
    obtain ⟨rfl, rfl, rfl⟩ := trodAll_nil r1
    obtain rfl : args = #[v0, v1] := by cases args; simp_all
    obtain ⟨S, hS, hS0, hSn⟩ := open_pts (hval 0 22 v0 rfl rfl) h0
    obtain ⟨n, rfl, _, _⟩ := open_int Try.underlying3 (hval 1 3 v1 rfl rfl) h1
    exact lays_law v0 S n W hS hS0 hSn
/-- TileLayouts, whatever the input. -/
theorem tileLayouts_holds : Rows.TileLayoutsSaid :=
  OpenClaim.holds_of_wide 3 Try.f3 rfl rfl rfl rfl rfl rfl rfl ⟨rfl, rfl, rfl, rfl, rfl⟩ rfl rfl rfl rfl rfl (by kernel_rfl) Try.func3 (by kernel_rfl)
    (of_decide_eq_true (by kernel_rfl)) (by unfold Func.isWrapper; rw [if_neg (of_decide_eq_false (by kernel_rfl))]; exact ⟨rfl, rfl⟩)
    (fun os started H enc _ => tileLayouts_lifted os started H enc)
#print axioms tileLayouts_holds
end Go.Proofs.Yteanlcefdoigcaa
