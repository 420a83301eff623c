/- TileCells: the rank of an Id, the cells of a point and the cell above a key are the reference's, and the key above a point's cell is its cell one level above. Every input, no condition. -/
import Derived.Test.YteanlcefdoigcaaCellsM
import Derived.Test.YteanlcefdoigcaaAwake
import Derived.Test.YteanlcefdoigcaaLawKit
namespace Go.Proofs.Yteanlcefdoigcaa
open Go.ChangeShapes Go.WideShapes Go.ChangeAt Go.RowKit

theorem cellOf_form (id x y zl zh wd nm of cl L : Int) : ∃ (a b c d e : Int), cellOfV id x y zl zh wd nm of cl L = .tuple #[.agg #[.int .i64 a, .int .i64 b, .int .i64 c, .int .i64 d], .int .i64 e] := by
  unfold cellOfV
  split
  · split
    · exact ⟨_, _, _, _, _, rfl⟩
    · exact ⟨_, _, _, _, _, rfl⟩
  · exact ⟨_, _, _, _, _, rfl⟩
theorem above_form (L x y z : Int) : ∃ (a b c d e : Int), aboveV L x y z = .tuple #[.agg #[.int .i64 a, .int .i64 b, .int .i64 c, .int .i64 d], .int .i64 e] := by
  unfold aboveV
  split
  · exact ⟨_, _, _, _, _, rfl⟩
  · exact ⟨_, _, _, _, _, rfl⟩
theorem size36 : (Try.prog.info? 36).map (·.size) = some 9 := by kernel_rfl
theorem cellsR {w : World} {b t : Nat} {fr : Nat × Nat} {C : Array Value} (h : w.heap[b]? = some (.cells C t fr)) (j : Nat) (v : Value) (hj : C[j]? = some v) (d : Nat) (os : Array Obj) : (Sort.grow (redrawn w d) os).cell? ⟨b, j, none⟩ = some v :=
  cell_regrown (by rw [cell_row h, hj]) d os
theorem flat39e : flatOf Try.prog 10 39 = some [some .i64, some .i64, some .i64, some .i64] := by kernel_rfl
theorem eq39 (a b c d e f g h : Int) (W : World) : (Op.equalIn 10000 39 (.agg #[.int .i64 a, .int .i64 b, .int .i64 c, .int .i64 d]) (.agg #[.int .i64 e, .int .i64 f, .int .i64 g, .int .i64 h])).run Try.prog W = .ok ([a, b, c, d] == [e, f, g, h]) W := by
  rw [equal_struct Try.underlying39 flat39e [.int .i64 a, .int .i64 b, .int .i64 c, .int .i64 d] [.int .i64 e, .int .i64 f, .int .i64 g, .int .i64 h] rfl rfl W]
  exact congrArg (fun b => Result.ok b W) (sameL_ints (a := [a, b, c, d]) (b := [e, f, g, h]) rfl)
theorem eq39s (a b c d : Int) (W : World) : (Op.equalIn 10000 39 (.agg #[.int .i64 a, .int .i64 b, .int .i64 c, .int .i64 d]) (.agg #[.int .i64 a, .int .i64 b, .int .i64 c, .int .i64 d])).run Try.prog W = .ok true W := by
  rw [eq39]; simp
theorem xRank_below (id : Int) (w : World) : Calls Try.prog 23 #[.int .i64 id] w fun e w' => e = .returned (.int .u64 (rankV id)) ∧ Below w.heap.size w w' :=
  (xRank_any id w).mono (by rintro r w' ⟨h, rfl⟩; exact ⟨h, Below.refl _ _⟩)
theorem rRank_below (id : Int) (w : World) : Calls Try.prog 24 #[.int .i64 id] w fun e w' => e = .returned (.int .u64 (rankV id)) ∧ Below w.heap.size w w' :=
  (rRank_any id w).mono (by rintro r w' ⟨h, rfl⟩; exact ⟨h, Below.refl _ _⟩)
theorem cells_up {id x y zl zh wd nm of cl L a0 a1 a2 a3 ae : Int} (h : cellOfV id x y zl zh wd nm of cl L = .tuple #[.agg #[.int .i64 a0, .int .i64 a1, .int .i64 a2, .int .i64 a3], .int .i64 ae]) (he : ae = 0) (hL : 0 < L) :
    ∃ u0 u1 u2 u3 : Int, aboveV a0 a1 a2 a3 = .tuple #[.agg #[.int .i64 u0, .int .i64 u1, .int .i64 u2, .int .i64 u3], .int .i64 0] ∧ cellOfV id x y zl zh wd nm of cl (L - 1) = .tuple #[.agg #[.int .i64 u0, .int .i64 u1, .int .i64 u2, .int .i64 u3], .int .i64 0] ∧ L ≤ 12 := by
  subst he
  unfold cellOfV at h
  split at h
  · rename_i hp
    split at h
    · rename_i hl
      obtain ⟨hx, hy, hz⟩ := point_coords hp
      obtain ⟨l, rfl⟩ : ∃ l : Nat, L = ((l + 1 : Nat) : Int) := ⟨(L - 1).toNat, by omega⟩
      have hk := key_cell x y zl hx hy hz l (by omega)
      have e1 : (((l + 1 : Nat) : Int)).toNat = l + 1 := by omega
      rw [e1] at h
      injection h with h
      have h0 := congrArg (fun (a : Array Value) => a[0]?) h
      simp [cellC] at h0
      obtain ⟨g0, g1, g2, g3⟩ := h0
      refine ⟨(l : Int), idxV x l, idxV y l, idxV zl l, ?_, ?_, by omega⟩
      · rw [← g0, ← g1, ← g2, ← g3]
        exact hk
      · unfold cellOfV
        rw [if_pos hp, if_pos (by omega), show (((l + 1 : Nat) : Int) - 1).toNat = l by omega]
        rfl
    · injection h with h
      have h0 := congrArg (fun (a : Array Value) => a[1]?) h
      simp at h0
  · injection h with h
    have h0 := congrArg (fun (a : Array Value) => a[1]?) h
    simp at h0
set_option maxRecDepth 100000 in
set_option maxHeartbeats 3200000 in
theorem cells_law (id x y zl zh wd nm of cl L k0 k1 k2 k3 : Int) (w : World) :
    Calls Try.prog 5 #[.agg #[.int .i64 id, .int .i64 x, .int .i64 y, .int .i64 zl, .int .i64 zh, .int .i64 wd, .int .i64 nm, .int .i64 of, .int .i64 cl], .int .i64 L, .agg #[.int .i64 k0, .int .i64 k1, .int .i64 k2, .int .i64 k3]] w fun e w' => e = .returned (.bool true) ∧ Below w.heap.size w w' := by
  obtain ⟨a0, a1, a2, a3, ae, ha⟩ := cellOf_form id x y zl zh wd nm of cl L
  obtain ⟨b0, b1, b2, b3, be, hb⟩ := above_form k0 k1 k2 k3
  have HA := hid ha
  have HBV := hid hb
  clear ha hb
  go_enter Try.func5, Try.ntmps5
  go_wp2_with fail
  refine (xCellOf_any _ _ _ _ _ _ _ _ _ _ _).mono ?_
  rintro r w1 ⟨rfl, hb⟩
  rw [HA.out]
  have HBw1 := hid ((by refine Below.trans ?_ (hb.mono ?_); (focus ((repeat' (first | (with_reducible exact Below.refl _ _) | (with_reducible assumption) | (with_reducible refine Below.alloc ?_ ?_ _) | (with_reducible refine Below.drew ?_) | (with_reducible refine below_drewN ?_ _) | (with_reducible refine Below.setCell ?_ ?_ _) | (with_reducible refine below_setRow ?_ ?_ _) | go_size)); done)); (focus (first | (simp; done) | (simp; omega)))) : Below w.heap.size w w1)
  have VPw1 := hid (show w1.heap[w.heap.size]? = some (.cells #[.int .i64 id, .int .i64 x, .int .i64 y, .int .i64 zl, .int .i64 zh, .int .i64 wd, .int .i64 nm, .int .i64 of, .int .i64 cl] 36) from heap_still hb (heap_alloc_past _ _ _ _ (heap_alloc_at _ _ _ rfl)))
  have VKw1 := hid (show w1.heap[w.heap.size + 1]? = some (.cells #[.int .i64 k0, .int .i64 k1, .int .i64 k2, .int .i64 k3] 39) from heap_still hb (heap_alloc_at _ _ _ (by simp)))
  clear hb
  go_wp2_with (first
    | (refine wpList_load_at rfl 36 (.tmp 3) rfl rfl (heap_alloc_past _ _ _ _ VPw1.out) Try.underlying36 rfl size36 rfl ?_)
    | (refine wpList_load_at rfl 39 (.tmp 5) rfl rfl (heap_alloc_past _ _ _ _ VKw1.out) Try.underlying39 rfl size39 rfl ?_))
  refine (rCellOf_any _ _ _ _ _ _ _ _ _ _ _).mono ?_
  rintro r w2 ⟨rfl, hb⟩
  rw [HA.out]
  have HBw2 := hid (show Below w.heap.size w w2 from (HBw1.out.alloc HBw1.out.size _).trans (hb.mono (by have := HBw1.out.size; simp; omega)))
  have VPw2 := hid (heap_still hb (heap_alloc_past _ _ _ _ VPw1.out))
  have VKw2 := hid (heap_still hb (heap_alloc_past _ _ _ _ VKw1.out))
  have A2 := hid (heap_still hb (heap_alloc_at _ _ _ rfl))
  clear hb
  go_wp2_with (first
    | (refine wpList_load_at rfl 36 (.tmp 3) rfl rfl (heap_alloc_past _ _ _ _ VPw2.out) Try.underlying36 rfl size36 rfl ?_)
    | (refine wpList_load_at rfl 39 (.tmp 5) rfl rfl (heap_alloc_past _ _ _ _ VKw2.out) Try.underlying39 rfl size39 rfl ?_))
  refine (xAbove_any _ _ _ _ _).mono ?_
  rintro r w3 ⟨rfl, hb⟩
  rw [HBV.out]
  have HBw3 := hid (show Below w.heap.size w w3 from (HBw2.out.alloc HBw2.out.size _).trans (hb.mono (by have := HBw2.out.size; simp; omega)))
  have VPw3 := hid (heap_still hb (heap_alloc_past _ _ _ _ VPw2.out))
  have VKw3 := hid (heap_still hb (heap_alloc_past _ _ _ _ VKw2.out))
  have A3 := hid (heap_still hb (heap_alloc_past _ _ _ _ A2.out))
  have B3 := hid (heap_still hb (heap_alloc_at _ _ _ rfl))
  clear hb A2
  go_wp2_with (first
    | (refine wpList_load_at rfl 36 (.tmp 3) rfl rfl (heap_alloc_past _ _ _ _ VPw3.out) Try.underlying36 rfl size36 rfl ?_)
    | (refine wpList_load_at rfl 39 (.tmp 5) rfl rfl (heap_alloc_past _ _ _ _ VKw3.out) Try.underlying39 rfl size39 rfl ?_))
  refine (rAbove_any _ _ _ _ _).mono ?_
  rintro r w4 ⟨rfl, hb⟩
  rw [HBV.out]
  have HBw4 := hid (show Below w.heap.size w w4 from (HBw3.out.alloc HBw3.out.size _).trans (hb.mono (by have := HBw3.out.size; simp; omega)))
  have VPw4 := hid (heap_still hb (heap_alloc_past _ _ _ _ VPw3.out))
  have VKw4 := hid (heap_still hb (heap_alloc_past _ _ _ _ VKw3.out))
  have A4 := hid (heap_still hb (heap_alloc_past _ _ _ _ A3.out))
  have B4 := hid (heap_still hb (heap_alloc_past _ _ _ _ B3.out))
  have C4 := hid (heap_still hb (heap_alloc_at _ _ _ rfl))
  clear hb A3 B3
  go_wp2_with fail
  refine gen_world (fun W5 hW5 => ?_)
  have HB5 := hid (show Below w.heap.size w W5 by rw [hW5]; exact HBw4.out.alloc HBw4.out.size _)
  have VP5 := hid (show W5.heap[w.heap.size]? = some _ by rw [hW5]; exact heap_alloc_past _ _ _ _ VPw4.out)
  have A5 := hid (show W5.heap[w1.heap.size]? = some _ by rw [hW5]; exact heap_alloc_past _ _ _ _ A4.out)
  have B5 := hid (show W5.heap[w2.heap.size]? = some _ by rw [hW5]; exact heap_alloc_past _ _ _ _ B4.out)
  have C5 := hid (show W5.heap[w3.heap.size]? = some _ by rw [hW5]; exact heap_alloc_past _ _ _ _ C4.out)
  have D5 := hid (show W5.heap[w4.heap.size]? = some (.cells #[.int .i64 b0, .int .i64 b1, .int .i64 b2, .int .i64 b3] 39) by rw [hW5]; exact heap_alloc_at _ _ _ rfl)
  clear hW5
  have q0 := cellsR VP5.out 0 _ rfl
  have k7a := cellsR A5.out 0 _ rfl
  have k7b := cellsR A5.out 1 _ rfl
  have k7c := cellsR A5.out 2 _ rfl
  have k7d := cellsR A5.out 3 _ rfl
  have k9a := cellsR B5.out 0 _ rfl
  have k9b := cellsR B5.out 1 _ rfl
  have k9c := cellsR B5.out 2 _ rfl
  have k9d := cellsR B5.out 3 _ rfl
  have k11a := cellsR C5.out 0 _ rfl
  have k11b := cellsR C5.out 1 _ rfl
  have k11c := cellsR C5.out 2 _ rfl
  have k11d := cellsR C5.out 3 _ rfl
  have k13a := cellsR D5.out 0 _ rfl
  have k13b := cellsR D5.out 1 _ rfl
  have k13c := cellsR D5.out 2 _ rfl
  have k13d := cellsR D5.out 3 _ rfl
  have heq := eq39s
  refine wp_region_quiet_below (by kernel_rfl) (by kernel_rfl) ?_
  repeat (first | go_big_quiet_step (first | (go_at_call 23; exact Calls.regrown_of (xRank_below _ _)) | (go_at_call 24; exact Calls.regrown_of (rRank_below _ _))) | quiet_step (first | (go_at_call 23; exact Calls.regrown_of (xRank_below _ _)) | (go_at_call 24; exact Calls.regrown_of (rRank_below _ _))))
  refine wpQuiet_nil ?_
  intro _ hw'
  obtain ⟨⟨dq, osq⟩, hw2⟩ := hw'
  subst hw2
  have hbq := below_regrown W5 dq osq
  generalize hW6 : Sort.grow (redrawn W5 dq) osq = W6
  rw [hW6] at hbq
  have HB6 := hid (HB5.out.trans (hbq.mono HB5.out.size))
  have VP6 := hid (heap_still hbq VP5.out)
  have A6 := hid (heap_still hbq A5.out)
  clear hbq hW6 q0 k7a k7b k7c k7d k9a k9b k9c k9d k11a k11b k11c k11d k13a k13b k13c k13d VP5 A5 B5 C5 D5 HB5
  by_cases hup : ae = 0 ∧ 0 < L
  · obtain ⟨h0, hL⟩ := hup
    obtain ⟨u0, u1, u2, u3, hu, hd, hL12⟩ := cells_up HA.out h0 hL
    have HU := hid hu
    have HD := hid hd
    subst h0
    clear hu hd
    have dL : decide (0 < L) = true := decide_eq_true hL
    go_wp2_with (first
      | (refine wpList_load_at rfl 39 (.tmp 7) rfl rfl A6.out Try.underlying39 rfl size39 rfl ?_))
    refine (xAbove_any _ _ _ _ _).mono ?_
    rintro r w7 ⟨rfl, hb⟩
    rw [HU.out]
    have HB7 := hid (HB6.out.trans (hb.mono HB6.out.size))
    have VP7 := hid (heap_still hb VP6.out)
    clear hb
    go_wp2_with (first
      | (refine wpList_load_at rfl 36 (.tmp 3) rfl rfl (heap_alloc_past _ _ _ _ VP7.out) Try.underlying36 rfl size36 rfl ?_))
    refine (xCellOf_any _ _ _ _ _ _ _ _ _ _ _).mono ?_
    rintro r w8 ⟨rfl, hb⟩
    rw [HD.out]
    have HB8 := hid (show Below w.heap.size w w8 from (HB7.out.alloc HB7.out.size _).trans (hb.mono (by have := HB7.out.size; simp; omega)))
    have U8 := hid (heap_still hb (heap_alloc_at w7 (.cells #[.int .i64 u0, .int .i64 u1, .int .i64 u2, .int .i64 u3] 39) _ rfl))
    clear hb
    go_wp2_with (first
      | (refine wpList_load_at rfl 39 (.tmp 15) rfl rfl (heap_alloc_past _ _ _ _ U8.out) Try.underlying39 rfl size39 rfl ?_)
      | (refine wpList_load_at rfl 39 (.tmp 17) rfl rfl (heap_alloc_at w8 _ _ rfl) Try.underlying39 rfl size39 rfl ?_))
    refine (awake_any _).mono ?_
    rintro r w9 ⟨rfl, hb⟩
    have HB9 := hid (show Below w.heap.size w w9 from (HB8.out.alloc HB8.out.size _).trans (hb.mono (by have := HB8.out.size; simp; omega)))
    clear hb
    go_wp2_with fail
    go_ret
    exact ⟨rfl, HB9.out⟩
  · by_cases h0 : ae = 0
    · subst h0
      have hL : ¬ 0 < L := fun h => hup ⟨rfl, h⟩
      have dL : decide (0 < L) = false := decide_eq_false hL
      clear hup
      go_wp2_with fail
      refine (awake_any _).mono ?_
      rintro r w9 ⟨rfl, hb⟩
      have HB9 := hid (HB6.out.trans (hb.mono HB6.out.size))
      clear hb
      go_wp2_with fail
      go_ret
      exact ⟨rfl, HB9.out⟩
    · have d0 : (ae == 0) = false := by simp [h0]
      clear hup
      go_wp2_with fail
      refine (awake_any _).mono ?_
      rintro r w9 ⟨rfl, hb⟩
      have HB9 := hid (HB6.out.trans (hb.mono HB6.out.size))
      clear hb
      go_wp2_with fail
      go_ret
      exact ⟨rfl, HB9.out⟩
theorem cells_args (W : World) (v0 v1 v2 : Value) (ps ns ks : List Int) (hp : ps.length = 9) (hk : ks.length = 4) (h0 : v0 = .agg (ps.map (Value.int .i64)).toArray) (h1 : v1 = .int .i64 (ns.getD 0 0)) (h2 : v2 = .agg (ks.map (Value.int .i64)).toArray) :
    Calls Try.prog 5 #[v0, v1, v2] W fun e w' => e = .returned (.bool true) ∧ Below W.heap.size W w' := by
  subst h0 h1 h2
  match ps, hp, ks, hk with
  | [a, b, c, d, e, f, g, h, i], _, [k0, k1, k2, k3], _ => exact cells_law a b c d e f g h i _ k0 k1 k2 k3 W
set_option maxRecDepth 100000 in
theorem tileCells_lifted (os : Os) (started : os.Started) (H : Type) (enc : TypeId × Value → H) :
    ReturnsInHanded {} Try.checked os 5 .any (Rows.tileCellsSpec.pre6 enc Try.prog Try.f5 Rows.tileCellsRow.domain false) (Rows.tileCellsSpec.post enc Try.prog Try.f5 false true false false) := by
  refine law_lifted (C := Try.checked) (tb := 4) lawOwn started (by kernel_rfl) Try.func5 rfl ?_ (show Try.f5.resultTypes = #[4] by kernel_rfl) Try.underlying4 lawLaid ?_
    (ChangeSpec.witness6 (enc := enc) (C := Try.checked) false ⟨#[], #[.agg #[.int .i64 0, .int .i64 0, .int .i64 0, .int .i64 0, .int .i64 0, .int .i64 0, .int .i64 0, .int .i64 0, .int .i64 0], .int .i64 0, .agg #[.int .i64 0, .int .i64 0, .int .i64 0, .int .i64 0]], []⟩ 8 (by kernel_rfl) (by kernel_rfl) (by kernel_rfl) (by kernel_rfl)) ?_
  · intro ds hds
    match ds, hds with
    | [d1, d2, d3], _ => exact ⟨rfl, rfl, rfl⟩
  · rw [Try.params5]
    intro t ht
    simp at ht
    rcases ht with rfl | rfl | rfl
    all_goals exact ⟨by kernel_rfl, of_decide_eq_true (by kernel_rfl)⟩
  · intro W base args ds p hval hA hlt _
    change DataW.TrodAll enc Try.prog W 0 (fun _ => true) true Try.f5.params.toList args.toList ds p at hA
    change ∀ (j : Nat) t v, Try.f5.params[j]? = some t → args[j]? = some v → Value.okWide Try.prog W .any base t v at hval
    rw [Try.params5] at hA hval
    obtain ⟨v0, vs0, d0, ds0, p0, q0, hargs, rfl, rfl, h0, r0⟩ := trodAll_cons hA
    obtain ⟨v1, vs1, d1, ds1, p1, q1, rfl, rfl, rfl, h1, r1⟩ := trodAll_cons r0
    obtain ⟨v2, vs2, d2, ds2, p2, q2, rfl, rfl, rfl, h2, r2⟩ := trodAll_cons r1
    obtain ⟨rfl, rfl, rfl⟩ := trodAll_nil r2
    obtain rfl : args = #[v0, v1, v2] := by cases args; simp_all
    obtain ⟨c0, e0, f0⟩ := open_flat lawFlat36 lawSize36 (by kernel_rfl) (hval 0 36 v0 rfl rfl) h0
    obtain ⟨n, rfl, _, _⟩ := open_int Try.underlying3 (hval 1 3 v1 rfl rfl) h1
    obtain ⟨c2, e2, f2⟩ := open_flat lawFlat39 lawSize39 (by kernel_rfl) (hval 2 39 v2 rfl rfl) h2
    obtain ⟨xs, ha, rfl⟩ := lawCells f0
    obtain ⟨ks, hk, rfl⟩ := lawCells f2
    exact cells_args W v0 _ v2 xs [n] ks ha hk e0 rfl e2
/-- TileCells, whatever the input. -/
theorem tileCells_holds : Rows.TileCellsSaid :=
  OpenClaim.holds_of_wide 5 Try.f5 rfl rfl rfl rfl rfl rfl rfl ⟨rfl, rfl, rfl, rfl, rfl⟩ rfl rfl rfl rfl rfl (by kernel_rfl) Try.func5 (by kernel_rfl)
    (of_decide_eq_true (by kernel_rfl)) (by unfold Func.isWrapper; rw [if_neg (of_decide_eq_false (by kernel_rfl))]; exact ⟨rfl, rfl⟩)
    (fun os started H enc _ => tileCells_lifted os started H enc)
#print axioms tileCells_holds
end Go.Proofs.Yteanlcefdoigcaa
