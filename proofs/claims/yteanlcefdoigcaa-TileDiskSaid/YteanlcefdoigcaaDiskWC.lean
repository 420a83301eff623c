/- A call of both disks: call 38. (Printed by wip/gen_diskwc.py.) -/
import Derived.Test.YteanlcefdoigcaaDiskW
namespace Go.Proofs.Yteanlcefdoigcaa
open Go.RowKit

theorem keep_block {F : Nat → Prop} {w W W' : World} {C : Array Value} {t k : Nat} (hf : Fr F W W') (hk : W.heap[k]? = some (.cells C t)) (hF : ∀ j, F j → j < w.heap.size) (hw : w.heap.size ≤ k) : W'.heap[k]? = some (.cells C t) :=
  (hf.block k (Array.getElem?_eq_some_iff.1 hk).1 (fun e => by have := hF k e; omega)).trans hk
set_option maxRecDepth 100000 in
set_option maxHeartbeats 3200000 in
theorem call_any (B ga gb n : Nat) (kd fi nn k0 k1 : Int) (bv : Value) (bs : List Nat) (w : World) (h : PairN w B n ga gb) (hn : n ≤ 100000) (hnn : nn ≤ 9223372036854775807) (hbs : ByB w B bv bs) (hl : bs.length ≤ 64) (hB : B ≤ w.heap.size) :
    Calls Try.prog 38 #[.pointer (some ⟨ga, 0, none⟩), .pointer (some ⟨gb, 0, none⟩), .agg #[.int .i64 kd, .int .i64 fi, .int .i64 nn, bv, .int .i64 k0, .int .i64 k1]] w fun r w' => r = .returned (.bool true) ∧ PairN w' B (n + 64) ga gb ∧ Below B w w' := by
  obtain ⟨dn, lf, am, x0, x1, y0, y1, hp, hn0, hn1⟩ := h
  have HP := hid hp
  have HFX := hid (Dsk.foot_lt hp.x)
  have HFY := hid (Dsk.foot_lt hp.y)
  have HM0 := hid (show y0.b.length ≤ n by rw [hp.b0]; exact hn0)
  have HM1 := hid (show y1.b.length ≤ n by rw [hp.b1]; exact hn1)
  have HG0 := hid (show y0.s ≤ y0.b.length by rw [hp.b0, hp.s0]; exact hp.f0)
  have HG1 := hid (show y1.s ≤ y1.b.length by rw [hp.b1, hp.s1]; exact hp.f1)
  have HN0 := hid hn0
  have HN1 := hid hn1
  have HBS := hid hbs
  have HEV := hid (ev_same (i := fi) hp.la)
  obtain ⟨K, hK⟩ : ∃ K, (IntKind.u64.wrap kd).tmod 8 = K := ⟨_, rfl⟩
  clear hp hbs hn0 hn1
  by_cases e0 : K = 0
  · subst e0
    go_enter Try.func38, Try.ntmps38
    go_upto_region 1 with fail
    refine gen_world (fun W0 hW0 => ?_)
    have KW := hid (show W0.heap[w.heap.size]? = some (.cells #[.int .i64 kd, .int .i64 fi, .int .i64 nn, bv, .int .i64 k0, .int .i64 k1] 76) by rw [hW0]; exact heap_alloc_at _ _ _ rfl)
    have HB0 := hid (show Below w.heap.size w W0 by rw [hW0]; exact (Below.refl _ _).alloc (Nat.le_refl _) _)
    clear hW0
    have c0 : W0.cell? ⟨w.heap.size, 0, none⟩ = some (.int .i64 kd) := (cell_row (j := 0) KW.out).trans rfl
    go_upto_region 2 with fail
    (try rw [hK])
    clear c0 hK
    have HPW := hid (HP.out.still HB0.out)
    have hz0 := HB0.out.size
    have HGE := hid (Dsk.foot_ge HP.out.x)
    go_wp2_with fail
    refine gen_act (fun A0 hA => ?_)
    refine wp_region_by (by kernel_rfl) (by kernel_rfl) [some 13, some 14, some 15, some 16, some 17, some 18, some 19, some 20, some 21, some 22, some 23, some 24, some 25, some 6] rfl (by decide) (StR (fun j => ([.pointer (some ⟨ga, 0, none⟩), .pointer (some ⟨w.heap.size, 1, none⟩), .int .i64 fi, .pointer (some ⟨w.heap.size, 3, none⟩), bv, undef, .pointer (some ⟨gb, 0, none⟩), .pointer (some ⟨w.heap.size, 1, none⟩), .int .i64 fi, .pointer (some ⟨w.heap.size, 3, none⟩), bv, undef, undef, undef] : List Value).getD j undef) [5, 11, 12, 13] (fun kk vv WW => WW.heap[w.heap.size]? = some (.cells #[.int .i64 kd, .int .i64 fi, .int .i64 nn, bv, .int .i64 k0, .int .i64 k1] 76) ∧ (match kk with | 0 => Below w.heap.size w WW | 1 => vv 0 = .int .i64 (errV fi dn lf) ∧ OpX w WW B ga x0 x1 (chgA fi dn lf x0 x1 bs) | 2 => (vv 0 = .int .i64 (errV fi dn lf) ∧ vv 1 = .int .i64 (errV fi dn lf)) ∧ PairN WW B (n + 64) ga gb ∧ Below B w WW | 3 => vv 2 = .bool true ∧ PairN WW B (n + 64) ga gb ∧ Below B w WW | _ => vv 3 = .bool true ∧ PairN WW B (n + 64) ga gb ∧ Below B w WW))) (selfF A0 _) (putF_self A0 _)
      (StR.start ⟨(((Below.refl _ _).drew).block _ (Array.getElem?_eq_some_iff.1 KW.out).1).trans KW.out, HB0.out.drew⟩ (fun _ => rfl)) ?hsK0 ?htK0
    case hsK0 =>
      refine ⟨?_, ?_, ?_, ?_, ?_, ?_, ?_, ?_, ?_, ?_, ?_, ?_, ?_, ?_, trivial⟩
      · intro K L us W hK0 hL hd hR
        have hK := hid (fun v9 A9 h1 (h3 : v9 = .pointer (some ⟨ga, 0, none⟩)) => hK0 v9 A9 W h1 (hR.pure (by decide) h3)); clear hK0
        clear hd
        simp only [putF]
        rw [hA]
        go_frame
        go_wp2_with fail
        exact hK.out _ _ (by rw [hA]; simp only [putF]; kernel_rfl) rfl
      · intro K L us W hK0 hL hd hR
        have hK := hid (fun v9 A9 h1 (h3 : v9 = .pointer (some ⟨w.heap.size, 1, none⟩)) => hK0 v9 A9 W h1 (hR.pure (by decide) h3)); clear hK0
        clear hd
        simp only [putF]
        rw [hA]
        go_frame
        go_wp2_with fail
        exact hK.out _ _ (by rw [hA]; simp only [putF]; kernel_rfl) rfl
      · intro K L us W hK0 hL hd hR
        have e1 : us 1 = .pointer (some ⟨w.heap.size, 1, none⟩) := hR.vals 1 (by decide) (all_on hd ⟨1, Ground.data⟩ (by simp) rfl)
        have hK := hid (fun v9 A9 h1 (h3 : v9 = .int .i64 fi) => hK0 v9 A9 W h1 (hR.pure (by decide) h3)); clear hK0
        have z1 : W.cell? ⟨w.heap.size, 1, none⟩ = some (.int .i64 fi) := (cell_row (j := 1) (show W.heap[w.heap.size]? = some (.cells #[.int .i64 kd, .int .i64 fi, .int .i64 nn, bv, .int .i64 k0, .int .i64 k1] 76) from by obtain ⟨_, _, _, hSq⟩ := hR.st; exact hSq.1)).trans rfl
        clear hd
        simp only [putF]
        rw [hA, e1]
        go_frame
        go_wp2_with fail
        exact hK.out _ _ (by rw [hA]; simp only [putF]; rw [e1]; kernel_rfl) rfl
      · intro K L us W hK0 hL hd hR
        have hK := hid (fun v9 A9 h1 (h3 : v9 = .pointer (some ⟨w.heap.size, 3, none⟩)) => hK0 v9 A9 W h1 (hR.pure (by decide) h3)); clear hK0
        clear hd
        simp only [putF]
        rw [hA]
        go_frame
        go_wp2_with fail
        exact hK.out _ _ (by rw [hA]; simp only [putF]; kernel_rfl) rfl
      · intro K L us W hK0 hL hd hR
        have e3 : us 3 = .pointer (some ⟨w.heap.size, 3, none⟩) := hR.vals 3 (by decide) (all_on hd ⟨3, Ground.data⟩ (by simp) rfl)
        have hK := hid (fun v9 A9 h1 (h3 : v9 = bv) => hK0 v9 A9 W h1 (hR.pure (by decide) h3)); clear hK0
        have z3 : W.cell? ⟨w.heap.size, 3, none⟩ = some (bv) := (cell_row (j := 3) (show W.heap[w.heap.size]? = some (.cells #[.int .i64 kd, .int .i64 fi, .int .i64 nn, bv, .int .i64 k0, .int .i64 k1] 76) from by obtain ⟨_, _, _, hSq⟩ := hR.st; exact hSq.1)).trans rfl
        clear hd
        simp only [putF]
        rw [hA, e3]
        go_frame
        go_wp2_with fail
        exact hK.out _ _ (by rw [hA]; simp only [putF]; rw [e3]; kernel_rfl) rfl
      · intro K L us W hK0 hL hd hR
        have e0 : us 0 = .pointer (some ⟨ga, 0, none⟩) := hR.vals 0 (by decide) (all_on hd ⟨0, Ground.data⟩ (by simp) rfl)
        have e2 : us 2 = .int .i64 fi := hR.vals 2 (by decide) (all_on hd ⟨2, Ground.data⟩ (by simp) rfl)
        have e4 : us 4 = bv := hR.vals 4 (by decide) (all_on hd ⟨4, Ground.data⟩ (by simp) rfl)
        have hS := hR.at 0 (by decide) (.inl rfl) hL
        have hK := hid (fun v9 A9 W9 h1 (hS' : (fun kk vv WW => WW.heap[w.heap.size]? = some (.cells #[.int .i64 kd, .int .i64 fi, .int .i64 nn, bv, .int .i64 k0, .int .i64 k1] 76) ∧ (match kk with | 0 => Below w.heap.size w WW | 1 => vv 0 = .int .i64 (errV fi dn lf) ∧ OpX w WW B ga x0 x1 (chgA fi dn lf x0 x1 bs) | 2 => (vv 0 = .int .i64 (errV fi dn lf) ∧ vv 1 = .int .i64 (errV fi dn lf)) ∧ PairN WW B (n + 64) ga gb ∧ Below B w WW | 3 => vv 2 = .bool true ∧ PairN WW B (n + 64) ga gb ∧ Below B w WW | _ => vv 3 = .bool true ∧ PairN WW B (n + 64) ga gb ∧ Below B w WW)) 1 (fun j => if j = 0 then v9 else selV [5, 11, 12, 13] us j) W9) => hK0 v9 A9 W9 h1 (hR.next (by decide) 0 (by decide) (.inl rfl) hL hS')); clear hK0
        obtain ⟨hK4, hB4⟩ := hS
        have K4 := hid hK4
        have B4 := hid (show Below w.heap.size w W from hB4)
        have P4 := hid (HP.out.still hB4)
        clear hK4 hB4
        clear hd
        simp only [putF]
        rw [hA, e0, e2, e4]
        go_frame
        go_wp2_with fail
        refine (xappend_any ga B dn lf fi x0 x1 bv bs _ P4.out.x P4.out.l0 P4.out.l1 (HBS.out.frame (Fr.of_below (F := fun _ => False) B4.out) (fun _ h => h.elim)) (by have := HN0.out; omega) (by have := HN1.out; omega) (by omega) (by have := B4.out.size; omega)).mono ?_
        rintro r w1 ⟨rfl, hq⟩
        have hx : OpX W w1 B ga x0 x1 (chgA fi dn lf x0 x1 bs) := opX_A hq
        have HX := hid hx
        clear hx hq
        go_wp2_with fail
        refine hK.out (.int .i64 (errV fi dn lf)) _ _ (by rw [hA]; simp only [putF]; rw [e0, e2, e4]; kernel_rfl) ?_
        have hx := HX.out
        obtain ⟨x0', x1', r1, r2, r3, r4, r5, r6, r7⟩ := hx
        refine ⟨keep_block r6 K4.out HFX.out (Nat.le_refl _), rfl, x0', x1', r1, r2, r3, r4, r5, (Fr.of_below (F := foot ga x0 x1) B4.out).trans r6 (fun _ _ h => h), fun k hk hf => r7 k (by have := B4.out.size; omega) hf⟩
      · intro K L us W hK0 hL hd hR
        have hK := hid (fun v9 A9 h1 (h3 : v9 = .pointer (some ⟨gb, 0, none⟩)) => hK0 v9 A9 W h1 (hR.pure (by decide) h3)); clear hK0
        clear hd
        simp only [putF]
        rw [hA]
        go_frame
        go_wp2_with fail
        exact hK.out _ _ (by rw [hA]; simp only [putF]; kernel_rfl) rfl
      · intro K L us W hK0 hL hd hR
        have hK := hid (fun v9 A9 h1 (h3 : v9 = .pointer (some ⟨w.heap.size, 1, none⟩)) => hK0 v9 A9 W h1 (hR.pure (by decide) h3)); clear hK0
        clear hd
        simp only [putF]
        rw [hA]
        go_frame
        go_wp2_with fail
        exact hK.out _ _ (by rw [hA]; simp only [putF]; kernel_rfl) rfl
      · intro K L us W hK0 hL hd hR
        have e7 : us 7 = .pointer (some ⟨w.heap.size, 1, none⟩) := hR.vals 7 (by decide) (all_on hd ⟨7, Ground.data⟩ (by simp) rfl)
        have hK := hid (fun v9 A9 h1 (h3 : v9 = .int .i64 fi) => hK0 v9 A9 W h1 (hR.pure (by decide) h3)); clear hK0
        have z1 : W.cell? ⟨w.heap.size, 1, none⟩ = some (.int .i64 fi) := (cell_row (j := 1) (show W.heap[w.heap.size]? = some (.cells #[.int .i64 kd, .int .i64 fi, .int .i64 nn, bv, .int .i64 k0, .int .i64 k1] 76) from by obtain ⟨_, _, _, hSq⟩ := hR.st; exact hSq.1)).trans rfl
        clear hd
        simp only [putF]
        rw [hA, e7]
        go_frame
        go_wp2_with fail
        exact hK.out _ _ (by rw [hA]; simp only [putF]; rw [e7]; kernel_rfl) rfl
      · intro K L us W hK0 hL hd hR
        have hK := hid (fun v9 A9 h1 (h3 : v9 = .pointer (some ⟨w.heap.size, 3, none⟩)) => hK0 v9 A9 W h1 (hR.pure (by decide) h3)); clear hK0
        clear hd
        simp only [putF]
        rw [hA]
        go_frame
        go_wp2_with fail
        exact hK.out _ _ (by rw [hA]; simp only [putF]; kernel_rfl) rfl
      · intro K L us W hK0 hL hd hR
        have e9 : us 9 = .pointer (some ⟨w.heap.size, 3, none⟩) := hR.vals 9 (by decide) (all_on hd ⟨9, Ground.data⟩ (by simp) rfl)
        have hK := hid (fun v9 A9 h1 (h3 : v9 = bv) => hK0 v9 A9 W h1 (hR.pure (by decide) h3)); clear hK0
        have z3 : W.cell? ⟨w.heap.size, 3, none⟩ = some (bv) := (cell_row (j := 3) (show W.heap[w.heap.size]? = some (.cells #[.int .i64 kd, .int .i64 fi, .int .i64 nn, bv, .int .i64 k0, .int .i64 k1] 76) from by obtain ⟨_, _, _, hSq⟩ := hR.st; exact hSq.1)).trans rfl
        clear hd
        simp only [putF]
        rw [hA, e9]
        go_frame
        go_wp2_with fail
        exact hK.out _ _ (by rw [hA]; simp only [putF]; rw [e9]; kernel_rfl) rfl
      · intro K L us W hK0 hL hd hR
        have e6 : us 6 = .pointer (some ⟨gb, 0, none⟩) := hR.vals 6 (by decide) (all_on hd ⟨6, Ground.data⟩ (by simp) rfl)
        have e8 : us 8 = .int .i64 fi := hR.vals 8 (by decide) (all_on hd ⟨8, Ground.data⟩ (by simp) rfl)
        have e10 : us 10 = bv := hR.vals 10 (by decide) (all_on hd ⟨10, Ground.data⟩ (by simp) rfl)
        have hS := hR.at 1 (by decide) (.inr ⟨by decide, all_on hd ⟨5, Ground.chain⟩ (by simp) rfl⟩) hL
        have hK := hid (fun v9 A9 W9 h1 (hS' : (fun kk vv WW => WW.heap[w.heap.size]? = some (.cells #[.int .i64 kd, .int .i64 fi, .int .i64 nn, bv, .int .i64 k0, .int .i64 k1] 76) ∧ (match kk with | 0 => Below w.heap.size w WW | 1 => vv 0 = .int .i64 (errV fi dn lf) ∧ OpX w WW B ga x0 x1 (chgA fi dn lf x0 x1 bs) | 2 => (vv 0 = .int .i64 (errV fi dn lf) ∧ vv 1 = .int .i64 (errV fi dn lf)) ∧ PairN WW B (n + 64) ga gb ∧ Below B w WW | 3 => vv 2 = .bool true ∧ PairN WW B (n + 64) ga gb ∧ Below B w WW | _ => vv 3 = .bool true ∧ PairN WW B (n + 64) ga gb ∧ Below B w WW)) 2 (fun j => if j = 1 then v9 else selV [5, 11, 12, 13] us j) W9) => hK0 v9 A9 W9 h1 (hR.next (by decide) 1 (by decide) (.inr ⟨by decide, all_on hd ⟨5, Ground.chain⟩ (by simp) rfl⟩) hL hS')); clear hK0
        obtain ⟨hK4, hE4, hX4⟩ := hS
        have K4 := hid hK4
        have X4 := hid (show OpX w W B ga x0 x1 (chgA fi dn lf x0 x1 bs) from hX4)
        have E4 := hid (show us 5 = .int .i64 (errV fi dn lf) from hE4)
        have M4 := hid (HP.out.mid X4.out)
        have F4 := hid (show Fr (foot ga x0 x1) w W from by obtain ⟨_, _, _, _, _, _, _, r6, _⟩ := hX4; exact r6)
        clear hK4 hE4 hX4
        clear hd
        simp only [putF]
        rw [hA, e6, e8, e10]
        go_frame
        go_wp2_with fail
        refine (rappend_any gb B dn am fi y0 y1 bv bs _ M4.out HP.out.a0 HP.out.a1 (HBS.out.frame F4.out HGE.out) (by have := HM0.out; omega) (by have := HM1.out; omega) (by omega) (by have := F4.out.size; omega)).mono ?_
        rintro r w2 ⟨rfl, hq⟩
        have hy : OpR W w2 B gb y0 y1 (chgA fi dn am y0 y1 bs) := opR_A hq
        have HY := hid hy
        clear hy hq
        go_wp2_with fail
        refine hK.out (.int .i64 (errV fi dn am)) _ _ (by rw [hA]; simp only [putF]; rw [e6, e8, e10]; kernel_rfl) ?_
        have h9 := HP.out.stepA fi bs X4.out HY.out HN0.out HN1.out hl
        refine ⟨?_, ⟨E4.out, by rw [HEV.out]; rfl⟩, h9⟩
        obtain ⟨y0', y1', r1, r2, r3, r4, r5, r6, r7⟩ := HY.out
        exact keep_block r6 K4.out HFY.out (Nat.le_refl _)
      · intro K L us W hK0 hL hd hR
        have hS := hR.at 2 (by decide) (.inr ⟨by decide, all_on hd ⟨11, Ground.data⟩ (by simp) rfl⟩) hL
        have hK := hid (fun v9 A9 W9 h1 (hS' : (fun kk vv WW => WW.heap[w.heap.size]? = some (.cells #[.int .i64 kd, .int .i64 fi, .int .i64 nn, bv, .int .i64 k0, .int .i64 k1] 76) ∧ (match kk with | 0 => Below w.heap.size w WW | 1 => vv 0 = .int .i64 (errV fi dn lf) ∧ OpX w WW B ga x0 x1 (chgA fi dn lf x0 x1 bs) | 2 => (vv 0 = .int .i64 (errV fi dn lf) ∧ vv 1 = .int .i64 (errV fi dn lf)) ∧ PairN WW B (n + 64) ga gb ∧ Below B w WW | 3 => vv 2 = .bool true ∧ PairN WW B (n + 64) ga gb ∧ Below B w WW | _ => vv 3 = .bool true ∧ PairN WW B (n + 64) ga gb ∧ Below B w WW)) 3 (fun j => if j = 2 then v9 else selV [5, 11, 12, 13] us j) W9) => hK0 v9 A9 W9 h1 (hR.next (by decide) 2 (by decide) (.inr ⟨by decide, all_on hd ⟨11, Ground.data⟩ (by simp) rfl⟩) hL hS')); clear hK0
        obtain ⟨hK4, ⟨hE4, hE5⟩, hF4⟩ := hS
        have K4 := hid hK4
        have e5 : us 5 = .int .i64 (errV fi dn lf) := hE4
        have e11 : us 11 = .int .i64 (errV fi dn lf) := hE5
        have F4 := hid hF4
        clear hK4 hE4 hE5 hF4 hR
        clear hd
        simp only [putF]
        rw [hA, e5, e11]
        go_frame
        go_wp2_with fail
        refine hK.out (.bool true) _ _ (by rw [hA]; simp only [putF]; rw [e5, e11]; kernel_rfl) ?_
        exact ⟨K4.out, rfl, F4.out⟩
      · intro K L us W hK0 hL hd hR
        have hS := hR.at 3 (by decide) (.inr ⟨by decide, all_on hd ⟨12, Ground.data⟩ (by simp) rfl⟩) hL
        have hK := hid (fun v9 A9 W9 h1 (hS' : (fun kk vv WW => WW.heap[w.heap.size]? = some (.cells #[.int .i64 kd, .int .i64 fi, .int .i64 nn, bv, .int .i64 k0, .int .i64 k1] 76) ∧ (match kk with | 0 => Below w.heap.size w WW | 1 => vv 0 = .int .i64 (errV fi dn lf) ∧ OpX w WW B ga x0 x1 (chgA fi dn lf x0 x1 bs) | 2 => (vv 0 = .int .i64 (errV fi dn lf) ∧ vv 1 = .int .i64 (errV fi dn lf)) ∧ PairN WW B (n + 64) ga gb ∧ Below B w WW | 3 => vv 2 = .bool true ∧ PairN WW B (n + 64) ga gb ∧ Below B w WW | _ => vv 3 = .bool true ∧ PairN WW B (n + 64) ga gb ∧ Below B w WW)) 4 (fun j => if j = 3 then v9 else selV [5, 11, 12, 13] us j) W9) => hK0 v9 A9 W9 h1 (hR.next (by decide) 3 (by decide) (.inr ⟨by decide, all_on hd ⟨12, Ground.data⟩ (by simp) rfl⟩) hL hS')); clear hK0
        obtain ⟨hK4, hE4, hF4⟩ := hS
        have K4 := hid hK4
        have e12 : us 12 = .bool true := hE4
        have F4 := hid hF4
        clear hK4 hE4 hF4 hR
        clear hd
        simp only [putF]
        rw [hA, e12]
        go_frame
        go_wp2_with fail
        refine hK.out (.bool true) _ _ (by rw [hA]; simp only [putF]; rw [e12]; kernel_rfl) ?_
        exact ⟨K4.out, rfl, F4.out⟩
    case htK0 =>
      intro L us W5 hall hR
      have hS := hR.last (fun i hi => match i, hi with | 0, _ => hall 5 (by decide) | 1, _ => hall 11 (by decide) | 2, _ => hall 12 (by decide) | 3, _ => hall 13 (by decide))
      have e0 : us 0 = .pointer (some ⟨ga, 0, none⟩) := hR.vals 0 (by decide) (hall 0 (by decide))
      have e1 : us 1 = .pointer (some ⟨w.heap.size, 1, none⟩) := hR.vals 1 (by decide) (hall 1 (by decide))
      have e2 : us 2 = .int .i64 fi := hR.vals 2 (by decide) (hall 2 (by decide))
      have e3 : us 3 = .pointer (some ⟨w.heap.size, 3, none⟩) := hR.vals 3 (by decide) (hall 3 (by decide))
      have e4 : us 4 = bv := hR.vals 4 (by decide) (hall 4 (by decide))
      have e6 : us 6 = .pointer (some ⟨gb, 0, none⟩) := hR.vals 6 (by decide) (hall 6 (by decide))
      have e7 : us 7 = .pointer (some ⟨w.heap.size, 1, none⟩) := hR.vals 7 (by decide) (hall 7 (by decide))
      have e8 : us 8 = .int .i64 fi := hR.vals 8 (by decide) (hall 8 (by decide))
      have e9 : us 9 = .pointer (some ⟨w.heap.size, 3, none⟩) := hR.vals 9 (by decide) (hall 9 (by decide))
      have e10 : us 10 = bv := hR.vals 10 (by decide) (hall 10 (by decide))
      clear hR hall
      obtain ⟨_, hE, hF⟩ := hS
      have e13 : us 13 = .bool true := hE
      obtain ⟨v5, e5⟩ : ∃ v, us 5 = v := ⟨_, rfl⟩
      obtain ⟨v11, e11⟩ : ∃ v, us 11 = v := ⟨_, rfl⟩
      obtain ⟨v12, e12⟩ : ∃ v, us 12 = v := ⟨_, rfl⟩
      have F5 := hid hF
      clear hE hF
      simp only [putF]
      rw [hA, e0, e1, e2, e3, e4, e5, e6, e7, e8, e9, e10, e11, e12, e13]
      go_frame
      clear hA e0 e1 e2 e3 e4 e5 e6 e7 e8 e9 e10 e11 e12 e13
      go_wp2_with fail
      go_ret
      exact ⟨rfl, F5.out⟩
  by_cases e1 : K = 1
  · subst e1
    go_enter Try.func38, Try.ntmps38
    go_upto_region 1 with fail
    refine gen_world (fun W0 hW0 => ?_)
    have KW := hid (show W0.heap[w.heap.size]? = some (.cells #[.int .i64 kd, .int .i64 fi, .int .i64 nn, bv, .int .i64 k0, .int .i64 k1] 76) by rw [hW0]; exact heap_alloc_at _ _ _ rfl)
    have HB0 := hid (show Below w.heap.size w W0 by rw [hW0]; exact (Below.refl _ _).alloc (Nat.le_refl _) _)
    clear hW0
    have c0 : W0.cell? ⟨w.heap.size, 0, none⟩ = some (.int .i64 kd) := (cell_row (j := 0) KW.out).trans rfl
    go_upto_region 2 with fail
    (try rw [hK])
    clear c0 hK
    have HPW := hid (HP.out.still HB0.out)
    have hz0 := HB0.out.size
    go_wp2_with fail
    refine gen_act (fun A0 hA => ?_)
    refine wp_region_by (by kernel_rfl) (by kernel_rfl) [some 28, some 29, some 30, some 31, some 32, some 33, some 34, some 35, some 36, some 6] rfl (by decide) (StR (fun j => ([.pointer (some ⟨ga, 0, none⟩), .pointer (some ⟨w.heap.size, 1, none⟩), .int .i64 fi, undef, .pointer (some ⟨gb, 0, none⟩), .pointer (some ⟨w.heap.size, 1, none⟩), .int .i64 fi, undef, undef, undef] : List Value).getD j undef) [3, 7, 8, 9] (fun kk vv WW => WW.heap[w.heap.size]? = some (.cells #[.int .i64 kd, .int .i64 fi, .int .i64 nn, bv, .int .i64 k0, .int .i64 k1] 76) ∧ (match kk with | 0 => Below w.heap.size w WW | 1 => vv 0 = .int .i64 (errV fi dn lf) ∧ OpX w WW B ga x0 x1 (chgS fi dn lf x0 x1) | 2 => (vv 0 = .int .i64 (errV fi dn lf) ∧ vv 1 = .int .i64 (errV fi dn lf)) ∧ PairN WW B (n + 64) ga gb ∧ Below B w WW | 3 => vv 2 = .bool true ∧ PairN WW B (n + 64) ga gb ∧ Below B w WW | _ => vv 3 = .bool true ∧ PairN WW B (n + 64) ga gb ∧ Below B w WW))) (selfF A0 _) (putF_self A0 _)
      (StR.start ⟨(((Below.refl _ _).drew).block _ (Array.getElem?_eq_some_iff.1 KW.out).1).trans KW.out, HB0.out.drew⟩ (fun _ => rfl)) ?hsK1 ?htK1
    case hsK1 =>
      refine ⟨?_, ?_, ?_, ?_, ?_, ?_, ?_, ?_, ?_, ?_, trivial⟩
      · intro K L us W hK0 hL hd hR
        have hK := hid (fun v9 A9 h1 (h3 : v9 = .pointer (some ⟨ga, 0, none⟩)) => hK0 v9 A9 W h1 (hR.pure (by decide) h3)); clear hK0
        clear hd
        simp only [putF]
        rw [hA]
        go_frame
        go_wp2_with fail
        exact hK.out _ _ (by rw [hA]; simp only [putF]; kernel_rfl) rfl
      · intro K L us W hK0 hL hd hR
        have hK := hid (fun v9 A9 h1 (h3 : v9 = .pointer (some ⟨w.heap.size, 1, none⟩)) => hK0 v9 A9 W h1 (hR.pure (by decide) h3)); clear hK0
        clear hd
        simp only [putF]
        rw [hA]
        go_frame
        go_wp2_with fail
        exact hK.out _ _ (by rw [hA]; simp only [putF]; kernel_rfl) rfl
      · intro K L us W hK0 hL hd hR
        have e1 : us 1 = .pointer (some ⟨w.heap.size, 1, none⟩) := hR.vals 1 (by decide) (all_on hd ⟨1, Ground.data⟩ (by simp) rfl)
        have hK := hid (fun v9 A9 h1 (h3 : v9 = .int .i64 fi) => hK0 v9 A9 W h1 (hR.pure (by decide) h3)); clear hK0
        have z1 : W.cell? ⟨w.heap.size, 1, none⟩ = some (.int .i64 fi) := (cell_row (j := 1) (show W.heap[w.heap.size]? = some (.cells #[.int .i64 kd, .int .i64 fi, .int .i64 nn, bv, .int .i64 k0, .int .i64 k1] 76) from by obtain ⟨_, _, _, hSq⟩ := hR.st; exact hSq.1)).trans rfl
        clear hd
        simp only [putF]
        rw [hA, e1]
        go_frame
        go_wp2_with fail
        exact hK.out _ _ (by rw [hA]; simp only [putF]; rw [e1]; kernel_rfl) rfl
      · intro K L us W hK0 hL hd hR
        have e0 : us 0 = .pointer (some ⟨ga, 0, none⟩) := hR.vals 0 (by decide) (all_on hd ⟨0, Ground.data⟩ (by simp) rfl)
        have e2 : us 2 = .int .i64 fi := hR.vals 2 (by decide) (all_on hd ⟨2, Ground.data⟩ (by simp) rfl)
        have hS := hR.at 0 (by decide) (.inl rfl) hL
        have hK := hid (fun v9 A9 W9 h1 (hS' : (fun kk vv WW => WW.heap[w.heap.size]? = some (.cells #[.int .i64 kd, .int .i64 fi, .int .i64 nn, bv, .int .i64 k0, .int .i64 k1] 76) ∧ (match kk with | 0 => Below w.heap.size w WW | 1 => vv 0 = .int .i64 (errV fi dn lf) ∧ OpX w WW B ga x0 x1 (chgS fi dn lf x0 x1) | 2 => (vv 0 = .int .i64 (errV fi dn lf) ∧ vv 1 = .int .i64 (errV fi dn lf)) ∧ PairN WW B (n + 64) ga gb ∧ Below B w WW | 3 => vv 2 = .bool true ∧ PairN WW B (n + 64) ga gb ∧ Below B w WW | _ => vv 3 = .bool true ∧ PairN WW B (n + 64) ga gb ∧ Below B w WW)) 1 (fun j => if j = 0 then v9 else selV [3, 7, 8, 9] us j) W9) => hK0 v9 A9 W9 h1 (hR.next (by decide) 0 (by decide) (.inl rfl) hL hS')); clear hK0
        obtain ⟨hK4, hB4⟩ := hS
        have K4 := hid hK4
        have B4 := hid (show Below w.heap.size w W from hB4)
        have P4 := hid (HP.out.still hB4)
        clear hK4 hB4
        clear hd
        simp only [putF]
        rw [hA, e0, e2]
        go_frame
        go_wp2_with fail
        refine (xsync_any ga B dn lf fi x0 x1 _ P4.out.x P4.out.l0 P4.out.l1).mono ?_
        rintro r w1 ⟨rfl, hq⟩
        have hx : OpX W w1 B ga x0 x1 (chgS fi dn lf x0 x1) := opX_S hq
        have HX := hid hx
        clear hx hq
        go_wp2_with fail
        refine hK.out (.int .i64 (errV fi dn lf)) _ _ (by rw [hA]; simp only [putF]; rw [e0, e2]; kernel_rfl) ?_
        have hx := HX.out
        obtain ⟨x0', x1', r1, r2, r3, r4, r5, r6, r7⟩ := hx
        refine ⟨keep_block r6 K4.out HFX.out (Nat.le_refl _), rfl, x0', x1', r1, r2, r3, r4, r5, (Fr.of_below (F := foot ga x0 x1) B4.out).trans r6 (fun _ _ h => h), fun k hk hf => r7 k (by have := B4.out.size; omega) hf⟩
      · intro K L us W hK0 hL hd hR
        have hK := hid (fun v9 A9 h1 (h3 : v9 = .pointer (some ⟨gb, 0, none⟩)) => hK0 v9 A9 W h1 (hR.pure (by decide) h3)); clear hK0
        clear hd
        simp only [putF]
        rw [hA]
        go_frame
        go_wp2_with fail
        exact hK.out _ _ (by rw [hA]; simp only [putF]; kernel_rfl) rfl
      · intro K L us W hK0 hL hd hR
        have hK := hid (fun v9 A9 h1 (h3 : v9 = .pointer (some ⟨w.heap.size, 1, none⟩)) => hK0 v9 A9 W h1 (hR.pure (by decide) h3)); clear hK0
        clear hd
        simp only [putF]
        rw [hA]
        go_frame
        go_wp2_with fail
        exact hK.out _ _ (by rw [hA]; simp only [putF]; kernel_rfl) rfl
      · intro K L us W hK0 hL hd hR
        have e5 : us 5 = .pointer (some ⟨w.heap.size, 1, none⟩) := hR.vals 5 (by decide) (all_on hd ⟨5, Ground.data⟩ (by simp) rfl)
        have hK := hid (fun v9 A9 h1 (h3 : v9 = .int .i64 fi) => hK0 v9 A9 W h1 (hR.pure (by decide) h3)); clear hK0
        have z1 : W.cell? ⟨w.heap.size, 1, none⟩ = some (.int .i64 fi) := (cell_row (j := 1) (show W.heap[w.heap.size]? = some (.cells #[.int .i64 kd, .int .i64 fi, .int .i64 nn, bv, .int .i64 k0, .int .i64 k1] 76) from by obtain ⟨_, _, _, hSq⟩ := hR.st; exact hSq.1)).trans rfl
        clear hd
        simp only [putF]
        rw [hA, e5]
        go_frame
        go_wp2_with fail
        exact hK.out _ _ (by rw [hA]; simp only [putF]; rw [e5]; kernel_rfl) rfl
      · intro K L us W hK0 hL hd hR
        have e4 : us 4 = .pointer (some ⟨gb, 0, none⟩) := hR.vals 4 (by decide) (all_on hd ⟨4, Ground.data⟩ (by simp) rfl)
        have e6 : us 6 = .int .i64 fi := hR.vals 6 (by decide) (all_on hd ⟨6, Ground.data⟩ (by simp) rfl)
        have hS := hR.at 1 (by decide) (.inr ⟨by decide, all_on hd ⟨3, Ground.chain⟩ (by simp) rfl⟩) hL
        have hK := hid (fun v9 A9 W9 h1 (hS' : (fun kk vv WW => WW.heap[w.heap.size]? = some (.cells #[.int .i64 kd, .int .i64 fi, .int .i64 nn, bv, .int .i64 k0, .int .i64 k1] 76) ∧ (match kk with | 0 => Below w.heap.size w WW | 1 => vv 0 = .int .i64 (errV fi dn lf) ∧ OpX w WW B ga x0 x1 (chgS fi dn lf x0 x1) | 2 => (vv 0 = .int .i64 (errV fi dn lf) ∧ vv 1 = .int .i64 (errV fi dn lf)) ∧ PairN WW B (n + 64) ga gb ∧ Below B w WW | 3 => vv 2 = .bool true ∧ PairN WW B (n + 64) ga gb ∧ Below B w WW | _ => vv 3 = .bool true ∧ PairN WW B (n + 64) ga gb ∧ Below B w WW)) 2 (fun j => if j = 1 then v9 else selV [3, 7, 8, 9] us j) W9) => hK0 v9 A9 W9 h1 (hR.next (by decide) 1 (by decide) (.inr ⟨by decide, all_on hd ⟨3, Ground.chain⟩ (by simp) rfl⟩) hL hS')); clear hK0
        obtain ⟨hK4, hE4, hX4⟩ := hS
        have K4 := hid hK4
        have X4 := hid (show OpX w W B ga x0 x1 (chgS fi dn lf x0 x1) from hX4)
        have E4 := hid (show us 3 = .int .i64 (errV fi dn lf) from hE4)
        have M4 := hid (HP.out.mid X4.out)
        have F4 := hid (show Fr (foot ga x0 x1) w W from by obtain ⟨_, _, _, _, _, _, _, r6, _⟩ := hX4; exact r6)
        clear hK4 hE4 hX4
        clear hd
        simp only [putF]
        rw [hA, e4, e6]
        go_frame
        go_wp2_with fail
        refine (rsync_any gb B dn am fi y0 y1 _ M4.out HP.out.a0 HP.out.a1).mono ?_
        rintro r w2 ⟨rfl, hq⟩
        have hy : OpR W w2 B gb y0 y1 (chgS fi dn am y0 y1) := opR_S hq
        have HY := hid hy
        clear hy hq
        go_wp2_with fail
        refine hK.out (.int .i64 (errV fi dn am)) _ _ (by rw [hA]; simp only [putF]; rw [e4, e6]; kernel_rfl) ?_
        have h9 := HP.out.stepS fi X4.out HY.out HN0.out HN1.out
        refine ⟨?_, ⟨E4.out, by rw [HEV.out]; rfl⟩, h9⟩
        obtain ⟨y0', y1', r1, r2, r3, r4, r5, r6, r7⟩ := HY.out
        exact keep_block r6 K4.out HFY.out (Nat.le_refl _)
      · intro K L us W hK0 hL hd hR
        have hS := hR.at 2 (by decide) (.inr ⟨by decide, all_on hd ⟨7, Ground.data⟩ (by simp) rfl⟩) hL
        have hK := hid (fun v9 A9 W9 h1 (hS' : (fun kk vv WW => WW.heap[w.heap.size]? = some (.cells #[.int .i64 kd, .int .i64 fi, .int .i64 nn, bv, .int .i64 k0, .int .i64 k1] 76) ∧ (match kk with | 0 => Below w.heap.size w WW | 1 => vv 0 = .int .i64 (errV fi dn lf) ∧ OpX w WW B ga x0 x1 (chgS fi dn lf x0 x1) | 2 => (vv 0 = .int .i64 (errV fi dn lf) ∧ vv 1 = .int .i64 (errV fi dn lf)) ∧ PairN WW B (n + 64) ga gb ∧ Below B w WW | 3 => vv 2 = .bool true ∧ PairN WW B (n + 64) ga gb ∧ Below B w WW | _ => vv 3 = .bool true ∧ PairN WW B (n + 64) ga gb ∧ Below B w WW)) 3 (fun j => if j = 2 then v9 else selV [3, 7, 8, 9] us j) W9) => hK0 v9 A9 W9 h1 (hR.next (by decide) 2 (by decide) (.inr ⟨by decide, all_on hd ⟨7, Ground.data⟩ (by simp) rfl⟩) hL hS')); clear hK0
        obtain ⟨hK4, ⟨hE4, hE5⟩, hF4⟩ := hS
        have K4 := hid hK4
        have e3 : us 3 = .int .i64 (errV fi dn lf) := hE4
        have e7 : us 7 = .int .i64 (errV fi dn lf) := hE5
        have F4 := hid hF4
        clear hK4 hE4 hE5 hF4 hR
        clear hd
        simp only [putF]
        rw [hA, e3, e7]
        go_frame
        go_wp2_with fail
        refine hK.out (.bool true) _ _ (by rw [hA]; simp only [putF]; rw [e3, e7]; kernel_rfl) ?_
        exact ⟨K4.out, rfl, F4.out⟩
      · intro K L us W hK0 hL hd hR
        have hS := hR.at 3 (by decide) (.inr ⟨by decide, all_on hd ⟨8, Ground.data⟩ (by simp) rfl⟩) hL
        have hK := hid (fun v9 A9 W9 h1 (hS' : (fun kk vv WW => WW.heap[w.heap.size]? = some (.cells #[.int .i64 kd, .int .i64 fi, .int .i64 nn, bv, .int .i64 k0, .int .i64 k1] 76) ∧ (match kk with | 0 => Below w.heap.size w WW | 1 => vv 0 = .int .i64 (errV fi dn lf) ∧ OpX w WW B ga x0 x1 (chgS fi dn lf x0 x1) | 2 => (vv 0 = .int .i64 (errV fi dn lf) ∧ vv 1 = .int .i64 (errV fi dn lf)) ∧ PairN WW B (n + 64) ga gb ∧ Below B w WW | 3 => vv 2 = .bool true ∧ PairN WW B (n + 64) ga gb ∧ Below B w WW | _ => vv 3 = .bool true ∧ PairN WW B (n + 64) ga gb ∧ Below B w WW)) 4 (fun j => if j = 3 then v9 else selV [3, 7, 8, 9] us j) W9) => hK0 v9 A9 W9 h1 (hR.next (by decide) 3 (by decide) (.inr ⟨by decide, all_on hd ⟨8, Ground.data⟩ (by simp) rfl⟩) hL hS')); clear hK0
        obtain ⟨hK4, hE4, hF4⟩ := hS
        have K4 := hid hK4
        have e8 : us 8 = .bool true := hE4
        have F4 := hid hF4
        clear hK4 hE4 hF4 hR
        clear hd
        simp only [putF]
        rw [hA, e8]
        go_frame
        go_wp2_with fail
        refine hK.out (.bool true) _ _ (by rw [hA]; simp only [putF]; rw [e8]; kernel_rfl) ?_
        exact ⟨K4.out, rfl, F4.out⟩
    case htK1 =>
      intro L us W5 hall hR
      have hS := hR.last (fun i hi => match i, hi with | 0, _ => hall 3 (by decide) | 1, _ => hall 7 (by decide) | 2, _ => hall 8 (by decide) | 3, _ => hall 9 (by decide))
      have e0 : us 0 = .pointer (some ⟨ga, 0, none⟩) := hR.vals 0 (by decide) (hall 0 (by decide))
      have e1 : us 1 = .pointer (some ⟨w.heap.size, 1, none⟩) := hR.vals 1 (by decide) (hall 1 (by decide))
      have e2 : us 2 = .int .i64 fi := hR.vals 2 (by decide) (hall 2 (by decide))
      have e4 : us 4 = .pointer (some ⟨gb, 0, none⟩) := hR.vals 4 (by decide) (hall 4 (by decide))
      have e5 : us 5 = .pointer (some ⟨w.heap.size, 1, none⟩) := hR.vals 5 (by decide) (hall 5 (by decide))
      have e6 : us 6 = .int .i64 fi := hR.vals 6 (by decide) (hall 6 (by decide))
      clear hR hall
      obtain ⟨_, hE, hF⟩ := hS
      have e9 : us 9 = .bool true := hE
      obtain ⟨v3, e3⟩ : ∃ v, us 3 = v := ⟨_, rfl⟩
      obtain ⟨v7, e7⟩ : ∃ v, us 7 = v := ⟨_, rfl⟩
      obtain ⟨v8, e8⟩ : ∃ v, us 8 = v := ⟨_, rfl⟩
      have F5 := hid hF
      clear hE hF
      simp only [putF]
      rw [hA, e0, e1, e2, e3, e4, e5, e6, e7, e8, e9]
      go_frame
      clear hA e0 e1 e2 e3 e4 e5 e6 e7 e8 e9
      go_wp2_with fail
      go_ret
      exact ⟨rfl, F5.out⟩
  by_cases e2 : K = 2
  · subst e2
    go_enter Try.func38, Try.ntmps38
    go_upto_region 1 with fail
    refine gen_world (fun W0 hW0 => ?_)
    have KW := hid (show W0.heap[w.heap.size]? = some (.cells #[.int .i64 kd, .int .i64 fi, .int .i64 nn, bv, .int .i64 k0, .int .i64 k1] 76) by rw [hW0]; exact heap_alloc_at _ _ _ rfl)
    have HB0 := hid (show Below w.heap.size w W0 by rw [hW0]; exact (Below.refl _ _).alloc (Nat.le_refl _) _)
    clear hW0
    have c0 : W0.cell? ⟨w.heap.size, 0, none⟩ = some (.int .i64 kd) := (cell_row (j := 0) KW.out).trans rfl
    go_upto_region 2 with fail
    (try rw [hK])
    clear c0 hK
    have HPW := hid (HP.out.still HB0.out)
    have hz0 := HB0.out.size
    go_wp2_with fail
    refine gen_act (fun A0 hA => ?_)
    refine wp_region_by (by kernel_rfl) (by kernel_rfl) [some 39, some 40, some 41, some 42, some 43, some 44, some 45, some 46, some 47, some 6] rfl (by decide) (StR (fun j => ([.pointer (some ⟨ga, 0, none⟩), .pointer (some ⟨w.heap.size, 1, none⟩), .int .i64 fi, undef, .pointer (some ⟨gb, 0, none⟩), .pointer (some ⟨w.heap.size, 1, none⟩), .int .i64 fi, undef, undef, undef] : List Value).getD j undef) [3, 7, 8, 9] (fun kk vv WW => WW.heap[w.heap.size]? = some (.cells #[.int .i64 kd, .int .i64 fi, .int .i64 nn, bv, .int .i64 k0, .int .i64 k1] 76) ∧ (match kk with | 0 => Below w.heap.size w WW | 1 => vv 0 = .int .i64 (errV fi dn lf) ∧ OpX w WW B ga x0 x1 (chgC fi dn lf x0 x1) | 2 => (vv 0 = .int .i64 (errV fi dn lf) ∧ vv 1 = .int .i64 (errV fi dn lf)) ∧ PairN WW B (n + 64) ga gb ∧ Below B w WW | 3 => vv 2 = .bool true ∧ PairN WW B (n + 64) ga gb ∧ Below B w WW | _ => vv 3 = .bool true ∧ PairN WW B (n + 64) ga gb ∧ Below B w WW))) (selfF A0 _) (putF_self A0 _)
      (StR.start ⟨(((Below.refl _ _).drew).block _ (Array.getElem?_eq_some_iff.1 KW.out).1).trans KW.out, HB0.out.drew⟩ (fun _ => rfl)) ?hsK2 ?htK2
    case hsK2 =>
      refine ⟨?_, ?_, ?_, ?_, ?_, ?_, ?_, ?_, ?_, ?_, trivial⟩
      · intro K L us W hK0 hL hd hR
        have hK := hid (fun v9 A9 h1 (h3 : v9 = .pointer (some ⟨ga, 0, none⟩)) => hK0 v9 A9 W h1 (hR.pure (by decide) h3)); clear hK0
        clear hd
        simp only [putF]
        rw [hA]
        go_frame
        go_wp2_with fail
        exact hK.out _ _ (by rw [hA]; simp only [putF]; kernel_rfl) rfl
      · intro K L us W hK0 hL hd hR
        have hK := hid (fun v9 A9 h1 (h3 : v9 = .pointer (some ⟨w.heap.size, 1, none⟩)) => hK0 v9 A9 W h1 (hR.pure (by decide) h3)); clear hK0
        clear hd
        simp only [putF]
        rw [hA]
        go_frame
        go_wp2_with fail
        exact hK.out _ _ (by rw [hA]; simp only [putF]; kernel_rfl) rfl
      · intro K L us W hK0 hL hd hR
        have e1 : us 1 = .pointer (some ⟨w.heap.size, 1, none⟩) := hR.vals 1 (by decide) (all_on hd ⟨1, Ground.data⟩ (by simp) rfl)
        have hK := hid (fun v9 A9 h1 (h3 : v9 = .int .i64 fi) => hK0 v9 A9 W h1 (hR.pure (by decide) h3)); clear hK0
        have z1 : W.cell? ⟨w.heap.size, 1, none⟩ = some (.int .i64 fi) := (cell_row (j := 1) (show W.heap[w.heap.size]? = some (.cells #[.int .i64 kd, .int .i64 fi, .int .i64 nn, bv, .int .i64 k0, .int .i64 k1] 76) from by obtain ⟨_, _, _, hSq⟩ := hR.st; exact hSq.1)).trans rfl
        clear hd
        simp only [putF]
        rw [hA, e1]
        go_frame
        go_wp2_with fail
        exact hK.out _ _ (by rw [hA]; simp only [putF]; rw [e1]; kernel_rfl) rfl
      · intro K L us W hK0 hL hd hR
        have e0 : us 0 = .pointer (some ⟨ga, 0, none⟩) := hR.vals 0 (by decide) (all_on hd ⟨0, Ground.data⟩ (by simp) rfl)
        have e2 : us 2 = .int .i64 fi := hR.vals 2 (by decide) (all_on hd ⟨2, Ground.data⟩ (by simp) rfl)
        have hS := hR.at 0 (by decide) (.inl rfl) hL
        have hK := hid (fun v9 A9 W9 h1 (hS' : (fun kk vv WW => WW.heap[w.heap.size]? = some (.cells #[.int .i64 kd, .int .i64 fi, .int .i64 nn, bv, .int .i64 k0, .int .i64 k1] 76) ∧ (match kk with | 0 => Below w.heap.size w WW | 1 => vv 0 = .int .i64 (errV fi dn lf) ∧ OpX w WW B ga x0 x1 (chgC fi dn lf x0 x1) | 2 => (vv 0 = .int .i64 (errV fi dn lf) ∧ vv 1 = .int .i64 (errV fi dn lf)) ∧ PairN WW B (n + 64) ga gb ∧ Below B w WW | 3 => vv 2 = .bool true ∧ PairN WW B (n + 64) ga gb ∧ Below B w WW | _ => vv 3 = .bool true ∧ PairN WW B (n + 64) ga gb ∧ Below B w WW)) 1 (fun j => if j = 0 then v9 else selV [3, 7, 8, 9] us j) W9) => hK0 v9 A9 W9 h1 (hR.next (by decide) 0 (by decide) (.inl rfl) hL hS')); clear hK0
        obtain ⟨hK4, hB4⟩ := hS
        have K4 := hid hK4
        have B4 := hid (show Below w.heap.size w W from hB4)
        have P4 := hid (HP.out.still hB4)
        clear hK4 hB4
        clear hd
        simp only [putF]
        rw [hA, e0, e2]
        go_frame
        go_wp2_with fail
        refine (xclear_any ga B dn lf fi x0 x1 _ P4.out.x P4.out.l0 P4.out.l1).mono ?_
        rintro r w1 ⟨rfl, hq⟩
        have hx : OpX W w1 B ga x0 x1 (chgC fi dn lf x0 x1) := opX_C hq
        have HX := hid hx
        clear hx hq
        go_wp2_with fail
        refine hK.out (.int .i64 (errV fi dn lf)) _ _ (by rw [hA]; simp only [putF]; rw [e0, e2]; kernel_rfl) ?_
        have hx := HX.out
        obtain ⟨x0', x1', r1, r2, r3, r4, r5, r6, r7⟩ := hx
        refine ⟨keep_block r6 K4.out HFX.out (Nat.le_refl _), rfl, x0', x1', r1, r2, r3, r4, r5, (Fr.of_below (F := foot ga x0 x1) B4.out).trans r6 (fun _ _ h => h), fun k hk hf => r7 k (by have := B4.out.size; omega) hf⟩
      · intro K L us W hK0 hL hd hR
        have hK := hid (fun v9 A9 h1 (h3 : v9 = .pointer (some ⟨gb, 0, none⟩)) => hK0 v9 A9 W h1 (hR.pure (by decide) h3)); clear hK0
        clear hd
        simp only [putF]
        rw [hA]
        go_frame
        go_wp2_with fail
        exact hK.out _ _ (by rw [hA]; simp only [putF]; kernel_rfl) rfl
      · intro K L us W hK0 hL hd hR
        have hK := hid (fun v9 A9 h1 (h3 : v9 = .pointer (some ⟨w.heap.size, 1, none⟩)) => hK0 v9 A9 W h1 (hR.pure (by decide) h3)); clear hK0
        clear hd
        simp only [putF]
        rw [hA]
        go_frame
        go_wp2_with fail
        exact hK.out _ _ (by rw [hA]; simp only [putF]; kernel_rfl) rfl
      · intro K L us W hK0 hL hd hR
        have e5 : us 5 = .pointer (some ⟨w.heap.size, 1, none⟩) := hR.vals 5 (by decide) (all_on hd ⟨5, Ground.data⟩ (by simp) rfl)
        have hK := hid (fun v9 A9 h1 (h3 : v9 = .int .i64 fi) => hK0 v9 A9 W h1 (hR.pure (by decide) h3)); clear hK0
        have z1 : W.cell? ⟨w.heap.size, 1, none⟩ = some (.int .i64 fi) := (cell_row (j := 1) (show W.heap[w.heap.size]? = some (.cells #[.int .i64 kd, .int .i64 fi, .int .i64 nn, bv, .int .i64 k0, .int .i64 k1] 76) from by obtain ⟨_, _, _, hSq⟩ := hR.st; exact hSq.1)).trans rfl
        clear hd
        simp only [putF]
        rw [hA, e5]
        go_frame
        go_wp2_with fail
        exact hK.out _ _ (by rw [hA]; simp only [putF]; rw [e5]; kernel_rfl) rfl
      · intro K L us W hK0 hL hd hR
        have e4 : us 4 = .pointer (some ⟨gb, 0, none⟩) := hR.vals 4 (by decide) (all_on hd ⟨4, Ground.data⟩ (by simp) rfl)
        have e6 : us 6 = .int .i64 fi := hR.vals 6 (by decide) (all_on hd ⟨6, Ground.data⟩ (by simp) rfl)
        have hS := hR.at 1 (by decide) (.inr ⟨by decide, all_on hd ⟨3, Ground.chain⟩ (by simp) rfl⟩) hL
        have hK := hid (fun v9 A9 W9 h1 (hS' : (fun kk vv WW => WW.heap[w.heap.size]? = some (.cells #[.int .i64 kd, .int .i64 fi, .int .i64 nn, bv, .int .i64 k0, .int .i64 k1] 76) ∧ (match kk with | 0 => Below w.heap.size w WW | 1 => vv 0 = .int .i64 (errV fi dn lf) ∧ OpX w WW B ga x0 x1 (chgC fi dn lf x0 x1) | 2 => (vv 0 = .int .i64 (errV fi dn lf) ∧ vv 1 = .int .i64 (errV fi dn lf)) ∧ PairN WW B (n + 64) ga gb ∧ Below B w WW | 3 => vv 2 = .bool true ∧ PairN WW B (n + 64) ga gb ∧ Below B w WW | _ => vv 3 = .bool true ∧ PairN WW B (n + 64) ga gb ∧ Below B w WW)) 2 (fun j => if j = 1 then v9 else selV [3, 7, 8, 9] us j) W9) => hK0 v9 A9 W9 h1 (hR.next (by decide) 1 (by decide) (.inr ⟨by decide, all_on hd ⟨3, Ground.chain⟩ (by simp) rfl⟩) hL hS')); clear hK0
        obtain ⟨hK4, hE4, hX4⟩ := hS
        have K4 := hid hK4
        have X4 := hid (show OpX w W B ga x0 x1 (chgC fi dn lf x0 x1) from hX4)
        have E4 := hid (show us 3 = .int .i64 (errV fi dn lf) from hE4)
        have M4 := hid (HP.out.mid X4.out)
        have F4 := hid (show Fr (foot ga x0 x1) w W from by obtain ⟨_, _, _, _, _, _, _, r6, _⟩ := hX4; exact r6)
        clear hK4 hE4 hX4
        clear hd
        simp only [putF]
        rw [hA, e4, e6]
        go_frame
        go_wp2_with fail
        refine (rclear_any gb B dn am fi y0 y1 _ M4.out HP.out.a0 HP.out.a1).mono ?_
        rintro r w2 ⟨rfl, hq⟩
        have hy : OpR W w2 B gb y0 y1 (chgC fi dn am y0 y1) := opR_C hq
        have HY := hid hy
        clear hy hq
        go_wp2_with fail
        refine hK.out (.int .i64 (errV fi dn am)) _ _ (by rw [hA]; simp only [putF]; rw [e4, e6]; kernel_rfl) ?_
        have h9 := HP.out.stepC fi X4.out HY.out HN0.out HN1.out
        refine ⟨?_, ⟨E4.out, by rw [HEV.out]; rfl⟩, h9⟩
        obtain ⟨y0', y1', r1, r2, r3, r4, r5, r6, r7⟩ := HY.out
        exact keep_block r6 K4.out HFY.out (Nat.le_refl _)
      · intro K L us W hK0 hL hd hR
        have hS := hR.at 2 (by decide) (.inr ⟨by decide, all_on hd ⟨7, Ground.data⟩ (by simp) rfl⟩) hL
        have hK := hid (fun v9 A9 W9 h1 (hS' : (fun kk vv WW => WW.heap[w.heap.size]? = some (.cells #[.int .i64 kd, .int .i64 fi, .int .i64 nn, bv, .int .i64 k0, .int .i64 k1] 76) ∧ (match kk with | 0 => Below w.heap.size w WW | 1 => vv 0 = .int .i64 (errV fi dn lf) ∧ OpX w WW B ga x0 x1 (chgC fi dn lf x0 x1) | 2 => (vv 0 = .int .i64 (errV fi dn lf) ∧ vv 1 = .int .i64 (errV fi dn lf)) ∧ PairN WW B (n + 64) ga gb ∧ Below B w WW | 3 => vv 2 = .bool true ∧ PairN WW B (n + 64) ga gb ∧ Below B w WW | _ => vv 3 = .bool true ∧ PairN WW B (n + 64) ga gb ∧ Below B w WW)) 3 (fun j => if j = 2 then v9 else selV [3, 7, 8, 9] us j) W9) => hK0 v9 A9 W9 h1 (hR.next (by decide) 2 (by decide) (.inr ⟨by decide, all_on hd ⟨7, Ground.data⟩ (by simp) rfl⟩) hL hS')); clear hK0
        obtain ⟨hK4, ⟨hE4, hE5⟩, hF4⟩ := hS
        have K4 := hid hK4
        have e3 : us 3 = .int .i64 (errV fi dn lf) := hE4
        have e7 : us 7 = .int .i64 (errV fi dn lf) := hE5
        have F4 := hid hF4
        clear hK4 hE4 hE5 hF4 hR
        clear hd
        simp only [putF]
        rw [hA, e3, e7]
        go_frame
        go_wp2_with fail
        refine hK.out (.bool true) _ _ (by rw [hA]; simp only [putF]; rw [e3, e7]; kernel_rfl) ?_
        exact ⟨K4.out, rfl, F4.out⟩
      · intro K L us W hK0 hL hd hR
        have hS := hR.at 3 (by decide) (.inr ⟨by decide, all_on hd ⟨8, Ground.data⟩ (by simp) rfl⟩) hL
        have hK := hid (fun v9 A9 W9 h1 (hS' : (fun kk vv WW => WW.heap[w.heap.size]? = some (.cells #[.int .i64 kd, .int .i64 fi, .int .i64 nn, bv, .int .i64 k0, .int .i64 k1] 76) ∧ (match kk with | 0 => Below w.heap.size w WW | 1 => vv 0 = .int .i64 (errV fi dn lf) ∧ OpX w WW B ga x0 x1 (chgC fi dn lf x0 x1) | 2 => (vv 0 = .int .i64 (errV fi dn lf) ∧ vv 1 = .int .i64 (errV fi dn lf)) ∧ PairN WW B (n + 64) ga gb ∧ Below B w WW | 3 => vv 2 = .bool true ∧ PairN WW B (n + 64) ga gb ∧ Below B w WW | _ => vv 3 = .bool true ∧ PairN WW B (n + 64) ga gb ∧ Below B w WW)) 4 (fun j => if j = 3 then v9 else selV [3, 7, 8, 9] us j) W9) => hK0 v9 A9 W9 h1 (hR.next (by decide) 3 (by decide) (.inr ⟨by decide, all_on hd ⟨8, Ground.data⟩ (by simp) rfl⟩) hL hS')); clear hK0
        obtain ⟨hK4, hE4, hF4⟩ := hS
        have K4 := hid hK4
        have e8 : us 8 = .bool true := hE4
        have F4 := hid hF4
        clear hK4 hE4 hF4 hR
        clear hd
        simp only [putF]
        rw [hA, e8]
        go_frame
        go_wp2_with fail
        refine hK.out (.bool true) _ _ (by rw [hA]; simp only [putF]; rw [e8]; kernel_rfl) ?_
        exact ⟨K4.out, rfl, F4.out⟩
    case htK2 =>
      intro L us W5 hall hR
      have hS := hR.last (fun i hi => match i, hi with | 0, _ => hall 3 (by decide) | 1, _ => hall 7 (by decide) | 2, _ => hall 8 (by decide) | 3, _ => hall 9 (by decide))
      have e0 : us 0 = .pointer (some ⟨ga, 0, none⟩) := hR.vals 0 (by decide) (hall 0 (by decide))
      have e1 : us 1 = .pointer (some ⟨w.heap.size, 1, none⟩) := hR.vals 1 (by decide) (hall 1 (by decide))
      have e2 : us 2 = .int .i64 fi := hR.vals 2 (by decide) (hall 2 (by decide))
      have e4 : us 4 = .pointer (some ⟨gb, 0, none⟩) := hR.vals 4 (by decide) (hall 4 (by decide))
      have e5 : us 5 = .pointer (some ⟨w.heap.size, 1, none⟩) := hR.vals 5 (by decide) (hall 5 (by decide))
      have e6 : us 6 = .int .i64 fi := hR.vals 6 (by decide) (hall 6 (by decide))
      clear hR hall
      obtain ⟨_, hE, hF⟩ := hS
      have e9 : us 9 = .bool true := hE
      obtain ⟨v3, e3⟩ : ∃ v, us 3 = v := ⟨_, rfl⟩
      obtain ⟨v7, e7⟩ : ∃ v, us 7 = v := ⟨_, rfl⟩
      obtain ⟨v8, e8⟩ : ∃ v, us 8 = v := ⟨_, rfl⟩
      have F5 := hid hF
      clear hE hF
      simp only [putF]
      rw [hA, e0, e1, e2, e3, e4, e5, e6, e7, e8, e9]
      go_frame
      clear hA e0 e1 e2 e3 e4 e5 e6 e7 e8 e9
      go_wp2_with fail
      go_ret
      exact ⟨rfl, F5.out⟩
  by_cases e4 : K = 4
  · subst e4
    go_enter Try.func38, Try.ntmps38
    go_upto_region 1 with fail
    refine gen_world (fun W0 hW0 => ?_)
    have KW := hid (show W0.heap[w.heap.size]? = some (.cells #[.int .i64 kd, .int .i64 fi, .int .i64 nn, bv, .int .i64 k0, .int .i64 k1] 76) by rw [hW0]; exact heap_alloc_at _ _ _ rfl)
    have HB0 := hid (show Below w.heap.size w W0 by rw [hW0]; exact (Below.refl _ _).alloc (Nat.le_refl _) _)
    clear hW0
    have c0 : W0.cell? ⟨w.heap.size, 0, none⟩ = some (.int .i64 kd) := (cell_row (j := 0) KW.out).trans rfl
    go_upto_region 2 with fail
    (try rw [hK])
    clear c0 hK
    have HPW := hid (HP.out.still HB0.out)
    have hz0 := HB0.out.size
    have c2 : W0.cell? ⟨w.heap.size, 2, none⟩ = some (.int .i64 nn) := (cell_row (j := 2) KW.out).trans rfl
    go_wp2_with fail
    refine (xarm_any ga B dn lf nn x0 x1 _ HPW.out.x).mono ?_
    rintro r w1 ⟨rfl, hd, hf⟩
    have HX := hid (opX_N hd hf)
    have KW1 := hid (keep_block (fr_one (x0 := x0) (x1 := x1) hf) KW.out HFX.out (Nat.le_refl _))
    clear hd hf c2
    have c2 : w1.cell? ⟨w.heap.size, 2, none⟩ = some (.int .i64 nn) := (cell_row (j := 2) KW1.out).trans rfl
    have M4 := hid (HPW.out.mid HX.out)
    go_wp2_with fail
    refine (rarm_any gb B dn am nn y0 y1 _ M4.out).mono ?_
    rintro r w2 ⟨rfl, hd, hf⟩
    have HY := hid (opR_N hd hf)
    clear hd hf
    go_wp2_with fail
    go_ret
    have hm : 0 ≤ max nn 0 ∧ max nn 0 ≤ 9223372036854775807 := by omega
    have h9 := HPW.out.step (n := n + 64) HX.out HY.out HP.out.b0 HP.out.b1 HP.out.s0 HP.out.s1 rfl (fun hd => by have hd2 : dn = false := hd; subst hd2; rfl) hm.1 hm.2 (by show 0 ≤ if dn = true then am else max nn 0; have := HP.out.a0; split <;> omega) (by show (if dn = true then am else max nn 0) ≤ _; have := HP.out.a1; split <;> omega) HP.out.f0 HP.out.f1 (by show x0.b.length ≤ _; have := HN0.out; omega) (by show x1.b.length ≤ _; have := HN1.out; omega)
    exact ⟨rfl, h9.1, (HB0.out.mono hB).trans h9.2⟩
  by_cases e5 : K = 5
  · subst e5
    go_enter Try.func38, Try.ntmps38
    go_upto_region 1 with fail
    refine gen_world (fun W0 hW0 => ?_)
    have KW := hid (show W0.heap[w.heap.size]? = some (.cells #[.int .i64 kd, .int .i64 fi, .int .i64 nn, bv, .int .i64 k0, .int .i64 k1] 76) by rw [hW0]; exact heap_alloc_at _ _ _ rfl)
    have HB0 := hid (show Below w.heap.size w W0 by rw [hW0]; exact (Below.refl _ _).alloc (Nat.le_refl _) _)
    clear hW0
    have c0 : W0.cell? ⟨w.heap.size, 0, none⟩ = some (.int .i64 kd) := (cell_row (j := 0) KW.out).trans rfl
    go_upto_region 2 with fail
    (try rw [hK])
    clear c0 hK
    have HPW := hid (HP.out.still HB0.out)
    have hz0 := HB0.out.size
    have c4 : W0.cell? ⟨w.heap.size, 4, none⟩ = some (.int .i64 k0) := (cell_row (j := 4) KW.out).trans rfl
    have c5 : W0.cell? ⟨w.heap.size, 5, none⟩ = some (.int .i64 k1) := (cell_row (j := 5) KW.out).trans rfl
    go_wp2_with fail
    refine (xcrash_any ga B dn lf k0 k1 x0 x1 _ HPW.out.x HP.out.f0 (by have := HN0.out; omega) HP.out.f1 (by have := HN1.out; omega) (by omega)).mono ?_
    rintro r w1 ⟨rfl, v0, v1, hd⟩
    have HX := hid (opX_L hd)
    have KW1 := hid (keep_block (fr_one (x0 := x0) (x1 := x1) hd.2.1) KW.out HFX.out (Nat.le_refl _))
    clear hd c4 c5
    have c4 : w1.cell? ⟨w.heap.size, 4, none⟩ = some (.int .i64 k0) := (cell_row (j := 4) KW1.out).trans rfl
    have c5 : w1.cell? ⟨w.heap.size, 5, none⟩ = some (.int .i64 k1) := (cell_row (j := 5) KW1.out).trans rfl
    have M4 := hid (HPW.out.mid HX.out)
    go_wp2_with fail
    refine (rcrash_any gb B dn am k0 k1 y0 y1 _ M4.out HG0.out (by have := HM0.out; omega) HG1.out (by have := HM1.out; omega)).mono ?_
    rintro r w2 ⟨rfl, v2, v3, hd⟩
    have HY := hid (opR_L hd)
    clear hd
    go_wp2_with fail
    go_ret
    have h9 := HPW.out.stepL true k0 k1 HX.out HY.out HN0.out HN1.out
    exact ⟨rfl, h9.1, (HB0.out.mono hB).trans h9.2⟩
  by_cases e6 : K = 6
  · subst e6
    go_enter Try.func38, Try.ntmps38
    go_upto_region 1 with fail
    refine gen_world (fun W0 hW0 => ?_)
    have KW := hid (show W0.heap[w.heap.size]? = some (.cells #[.int .i64 kd, .int .i64 fi, .int .i64 nn, bv, .int .i64 k0, .int .i64 k1] 76) by rw [hW0]; exact heap_alloc_at _ _ _ rfl)
    have HB0 := hid (show Below w.heap.size w W0 by rw [hW0]; exact (Below.refl _ _).alloc (Nat.le_refl _) _)
    clear hW0
    have c0 : W0.cell? ⟨w.heap.size, 0, none⟩ = some (.int .i64 kd) := (cell_row (j := 0) KW.out).trans rfl
    go_upto_region 2 with fail
    (try rw [hK])
    clear c0 hK
    have HPW := hid (HP.out.still HB0.out)
    have hz0 := HB0.out.size
    cases dn
    case false =>
      go_wp2_with fail
      refine (xstart_up ga B lf x0 x1 _ HPW.out.x).mono ?_
      rintro r w1 ⟨rfl, hb⟩
      have HB1 := hid (HB0.out.trans (hb.mono hz0))
      clear hb
      go_wp2_with fail
      refine (rstart_up gb B am y0 y1 _ (HP.out.still HB1.out).y).mono ?_
      rintro r w2 ⟨rfl, hb⟩
      have HB2 := hid (HB1.out.trans (hb.mono HB1.out.size))
      clear hb
      go_wp2_with fail
      go_ret
      exact ⟨rfl, ⟨false, lf, am, x0, x1, y0, y1, HP.out.still HB2.out, by have := HN0.out; omega, by have := HN1.out; omega⟩, HB2.out.mono hB⟩
    go_wp2_with fail
    refine (xstart_down ga B lf x0 x1 _ HPW.out.x HP.out.f0 (by have := HN0.out; omega) HP.out.f1 (by have := HN1.out; omega) (by omega)).mono ?_
    rintro r w1 ⟨rfl, v0, v1, hd⟩
    have HX := hid (opX_L hd)
    clear hd
    have M4 := hid (HPW.out.mid HX.out)
    go_wp2_with fail
    refine (rstart_down gb B am y0 y1 _ M4.out HG0.out (by have := HM0.out; omega) HG1.out (by have := HM1.out; omega)).mono ?_
    rintro r w2 ⟨rfl, v2, v3, hd⟩
    have HY := hid (opR_L hd)
    clear hd
    go_wp2_with fail
    go_ret
    have h9 := HPW.out.stepL false 0 0 HX.out HY.out HN0.out HN1.out
    exact ⟨rfl, h9.1, (HB0.out.mono hB).trans h9.2⟩
  have d0 : (K == 0) = false := by simpa using e0
  have d1 : (K == 1) = false := by simpa using e1
  have d2 : (K == 2) = false := by simpa using e2
  have d4 : (K == 4) = false := by simpa using e4
  have d5 : (K == 5) = false := by simpa using e5
  have d6 : (K == 6) = false := by simpa using e6
  clear e0 e1 e2 e4 e5 e6
  go_enter Try.func38, Try.ntmps38
  go_upto_region 1 with fail
  refine gen_world (fun W0 hW0 => ?_)
  have KW := hid (show W0.heap[w.heap.size]? = some (.cells #[.int .i64 kd, .int .i64 fi, .int .i64 nn, bv, .int .i64 k0, .int .i64 k1] 76) by rw [hW0]; exact heap_alloc_at _ _ _ rfl)
  have HB0 := hid (show Below w.heap.size w W0 by rw [hW0]; exact (Below.refl _ _).alloc (Nat.le_refl _) _)
  clear hW0
  have c0 : W0.cell? ⟨w.heap.size, 0, none⟩ = some (.int .i64 kd) := (cell_row (j := 0) KW.out).trans rfl
  go_upto_region 2 with fail
  (try rw [hK])
  clear c0 hK
  have HPW := hid (HP.out.still HB0.out)
  have hz0 := HB0.out.size
  go_wp2_with fail
  go_ret
  exact ⟨rfl, ⟨dn, lf, am, x0, x1, y0, y1, HPW.out, by have := HN0.out; omega, by have := HN1.out; omega⟩, HB0.out.mono hB⟩
end Go.Proofs.Yteanlcefdoigcaa
