/- PlantLong: more than MaxEvents events are refused. Every input, no condition. (Printed by wip/gen_plants.py.) -/
import Derived.Test.YtpfighhhemnhaaaGreatG
import Derived.Test.YtpfighhhemnhaaaGreatH
import Derived.Test.YtpfighhhemnhaaaGreatK
import Derived.Test.YtpfighhhemnhaaaGreatJf
import Derived.Laws.MakeOwn
import Derived.SizedLaws
namespace Go.Proofs.YtpfighhhemnhaaaGreat
open Go.ChangeShapes Go.WideShapes Go.ChangeAt Go.RowKit Go.Maps Go.Sort

theorem mk_events (n : Nat) (hn : n ≤ 1000) : ∃ X, ∀ W : World, (Instr.makeSlice 34 (.int .i64 (n : Int)) (.int .i64 (n : Int))).run Tryz.prog W = .ok (.slice (some ⟨W.heap.size, 0, none⟩) n n) (W.alloc X) := by
  have h : (Tryz.prog.info? 98).any (fun i => i.zero.isSome && decide (i.bytes ≤ 1000000)) = true := by kernel_rfl
  obtain ⟨i, hi, h2⟩ : ∃ i, Tryz.prog.info? 98 = some i ∧ (i.zero.isSome && decide (i.bytes ≤ 1000000)) = true := by
    cases hh : Tryz.prog.info? 98 with
    | none => rw [hh] at h; exact absurd h (by simp)
    | some i => exact ⟨i, rfl, by rw [hh] at h; exact h⟩
  rw [Bool.and_eq_true, decide_eq_true_eq] at h2
  obtain ⟨z, hz⟩ := Option.isSome_iff_exists.1 h2.1
  have hb : ((i.bytes * n : Nat) : Int) ≤ 281474976710656 := by
    have := Nat.mul_le_mul h2.2 hn
    omega
  rw [Int.natCast_mul] at hb
  refine ⟨.cells (madeCells z.cells (n * i.size)) 98, fun W => ?_⟩
  have h3 := run_make (P := Tryz.prog) W 34 98 i z Tryz.underlying34 hi hz .i64 .i64 (n : Int) (n : Int) (by omega) (by omega) hb (by omega)
  rw [Int.toNat_natCast] at h3
  exact h3
theorem lsz29 : (Tryz.prog.info? 29).map (·.size) = some 22 := by kernel_rfl
set_option maxRecDepth 100000 in
theorem play_long (C0 : Array Value) (cb : Bool) (er : Int) (a : Option Addr) (c n : Nat) (w : World) (hn : 256 < n) (hn2 : n ≤ 1000) (hC : C0.size = 22) (her : er = if cb = true then 2 else 100)
    (H : ∀ W, Calls Tryz.prog 23 #[.agg C0] W fun r w' => r = .returned (.bool cb) ∧ Below W.heap.size W w') :
    Calls Tryz.prog 5 #[.agg C0, .slice a n c] w fun r w' => r = .returned (.tuple #[.slice none 0 0, .int .i64 er]) ∧ Below w.heap.size w w' := by
  have HC := hid hC
  have HH := hid H
  have d0 : decide ((256 : Int) < (n : Int)) = true := decide_eq_true (by omega)
  clear hC H
  cases cb
  all_goals
    simp only [if_true, Bool.false_eq_true, if_false] at her
    subst her
    go_enter Tryz.func5, Tryz.ntmps5
    go_upto_region 1 with fail
    refine gen_world (fun W0 hW0 => ?_)
    have KC := hid (show W0.heap[w.heap.size]? = some (.cells C0 29) by rw [hW0]; exact heap_alloc_at _ _ _ rfl)
    have HB0 := hid (show Below w.heap.size w W0 by rw [hW0]; exact (Below.refl _ _).alloc (Nat.le_refl _) _)
    clear hW0
    go_wp2_with (refine wpList_load_at rfl 29 (.tmp 2) rfl rfl KC.out Tryz.underlying29 rfl lsz29 HC.out ?_)
    refine (HH.out _).mono ?_
    rintro r w1 ⟨rfl, hb⟩
    go_wp2_with fail
    go_ret2
    exact ⟨rfl, HB0.out.trans (hb.mono HB0.out.size)⟩
theorem stb_slice (n : Nat) : Stb (fun _ v => ∃ ac : Option Addr × Nat, v = .slice ac.1 n ac.2) := fun _ _ _ _ h => h
set_option maxRecDepth 100000 in
set_option maxHeartbeats 1600000 in
theorem long_law (C0 : Array Value) (cb : Bool) (mo : Nat) (w : World) (hC : C0.size = 22) (hmo : mo < 256)
    (H : ∀ W, Calls Tryz.prog 23 #[.agg C0] W fun r w' => r = .returned (.bool cb) ∧ Below W.heap.size W w') (H' : ∀ W, Calls Tryz.prog 6 #[.agg C0] W fun r w' => r = .returned (.bool cb) ∧ Below W.heap.size W w') :
    Calls Tryz.prog 3 #[.agg C0, .int .u8 (mo : Int)] w fun r w' => r = .returned (.bool true) ∧ Below w.heap.size w w' := by
  obtain ⟨er, her⟩ : ∃ er : Int, er = if cb = true then 2 else 100 := ⟨_, rfl⟩
  obtain ⟨M, hM⟩ : ∃ M : Nat, M = 257 + mo % 4 := ⟨_, rfl⟩
  obtain ⟨R, hR⟩ : ∃ R : Int, R = (mo : Int) % 4 := ⟨_, rfl⟩
  obtain ⟨X, hX⟩ := mk_events M (by omega)
  have hM1 : (M : Int) = 257 + R := by omega
  have hR1 : 0 ≤ R ∧ R < 4 := by omega
  have HMK := hid (fun W => show (Instr.makeSlice 34 (.int .i64 (257 + R)) (.int .i64 (257 + R))).run Tryz.prog W = .ok (.slice (some ⟨W.heap.size, 0, none⟩) M M) (W.alloc X) by rw [← hM1]; exact hX W)
  have HP := hid (fun a c W => play_long C0 cb er a c M W (by omega) (by omega) hC her H)
  have HC := hid hC
  have HH := hid H'
  have HER := hid her
  have HRR := hid (show (mo : Int) % 4 = R from hR.symm)
  clear hC H H' hX her hM hM1 hR
  go_enter Tryz.func3, Tryz.ntmps3
  go_upto_region 1 with fail
  refine gen_world (fun W0 hW0 => ?_)
  have KC := hid (show W0.heap[w.heap.size]? = some (.cells C0 29) by rw [hW0]; exact heap_alloc_at _ _ _ rfl)
  have HB0 := hid (show Below w.heap.size w W0 by rw [hW0]; exact (Below.refl _ _).alloc (Nat.le_refl _) _)
  clear hW0
  refine gen_act (fun A0 hA => ?_)
  refine wp_region_pl (by kernel_rfl) (by kernel_rfl) [some 9, some 10, some 11, some 12, some 13, some 14, some 15, some 8, some 16, some 17, some 5, some 6] rfl (by decide)
    [IsV (.agg C0), IsV (.int .u8 (mo : Int)), IsV (.int .u8 R), IsV (.int .i64 R), IsV (.int .i64 (257 + R)), (fun (_ : World) (v : Value) => ∃ ac : Option Addr × Nat, v = .slice ac.1 M ac.2), IsV (.tuple #[.slice none 0 0, .int .i64 er]), IsV (.tuple #[.slice none 0 0, .int .i64 er]), IsV (.slice none 0 0), IsV (.int .i64 er), IsV (.slice none 0 0), IsV (.int .i64 er)]
    ⟨IsV.stb _, IsV.stb _, IsV.stb _, IsV.stb _, IsV.stb _, stb_slice _, IsV.stb _, IsV.stb _, IsV.stb _, IsV.stb _, IsV.stb _, IsV.stb _, trivial⟩ ?hsL ?hendL
  case hsL =>
    refine ⟨?_, ?_, ?_, ?_, ?_, ?_, ?_, ?_, ?_, ?_, ?_, ?_, trivial⟩
    · intro K us W hK0 hB hd
      have hK := hid hK0; clear hK0
      have HBW := hid hB
      have hsW := hB.size
      have GB := hid (HB0.out.trans (hB.mono HB0.out.size))
      clear hd
      simp only [putF]
      rw [hA]
      go_frame
      go_wp2_with (refine wpList_load_at rfl 29 (.tmp 2) rfl rfl (heap_still hB KC.out) Tryz.underlying29 rfl lsz29 HC.out ?_)
      exact hK.out _ _ _ (by rw [hA]; simp only [putF]; kernel_rfl) (Below.refl _ _) rfl
    · intro K us W hK0 hB hd
      have hK := hid hK0; clear hK0
      have HBW := hid hB
      have hsW := hB.size
      have GB := hid (HB0.out.trans (hB.mono HB0.out.size))
      clear hd
      simp only [putF]
      rw [hA]
      go_frame
      go_wp2_with fail
      exact hK.out _ _ _ (by rw [hA]; simp only [putF]; kernel_rfl) (Below.refl _ _) rfl
    · intro K us W hK0 hB hd
      have hK := hid hK0; clear hK0
      have HBW := hid hB
      have hsW := hB.size
      have GB := hid (HB0.out.trans (hB.mono HB0.out.size))
      have e1 : us 1 = .int .u8 (mo : Int) := hd ⟨1, Ground.data⟩ (by simp) rfl
      clear hd
      have hrr := HRR.out
      simp only [putF]
      rw [hA, e1]
      go_frame
      go_wp2_with fail
      exact hK.out _ _ _ (by rw [hA]; simp only [putF]; rw [e1]; kernel_rfl) (Below.refl _ _) rfl
    · intro K us W hK0 hB hd
      have hK := hid hK0; clear hK0
      have HBW := hid hB
      have hsW := hB.size
      have GB := hid (HB0.out.trans (hB.mono HB0.out.size))
      have e2 : us 2 = .int .u8 R := hd ⟨2, Ground.data⟩ (by simp) rfl
      clear hd
      simp only [putF]
      rw [hA, e2]
      go_frame
      go_wp2_with fail
      exact hK.out _ _ _ (by rw [hA]; simp only [putF]; rw [e2]; kernel_rfl) (Below.refl _ _) rfl
    · intro K us W hK0 hB hd
      have hK := hid hK0; clear hK0
      have HBW := hid hB
      have hsW := hB.size
      have GB := hid (HB0.out.trans (hB.mono HB0.out.size))
      have e3 : us 3 = .int .i64 R := hd ⟨3, Ground.data⟩ (by simp) rfl
      clear hd
      simp only [putF]
      rw [hA, e3]
      go_frame
      go_wp2_with fail
      exact hK.out _ _ _ (by rw [hA]; simp only [putF]; rw [e3]; kernel_rfl) (Below.refl _ _) rfl
    · intro K us W hK0 hB hd
      have hK := hid hK0; clear hK0
      have HBW := hid hB
      have hsW := hB.size
      have GB := hid (HB0.out.trans (hB.mono HB0.out.size))
      have e4 : us 4 = .int .i64 (257 + R) := hd ⟨4, Ground.data⟩ (by simp) rfl
      clear hd
      have hmk := HMK.out
      simp only [putF]
      rw [hA, e4]
      go_frame
      go_wp2_with fail
      exact hK.out _ _ _ (by rw [hA]; simp only [putF]; rw [e4]; kernel_rfl) ((Below.refl _ _).alloc (Nat.le_refl _) _) ⟨(some ⟨W.heap.size, 0, none⟩, M), rfl⟩
    · intro K us W hK0 hB hd
      have hK := hid hK0; clear hK0
      have HBW := hid hB
      have hsW := hB.size
      have GB := hid (HB0.out.trans (hB.mono HB0.out.size))
      have e0 : us 0 = .agg C0 := hd ⟨0, Ground.data⟩ (by simp) rfl
      have hd5 : ((fun (_ : World) (v : Value) => ∃ ac : Option Addr × Nat, v = .slice ac.1 M ac.2)) W (us 5) := hd ⟨5, Ground.data⟩ (by simp) rfl
      obtain ⟨⟨ya, yc⟩, e5⟩ := hd5
      clear hd
      simp only [putF]
      rw [hA, e0, e5]
      go_frame
      go_wp2_with fail
      refine (HP.out _ _ _).mono ?_
      rintro r W9 ⟨rfl, hb9⟩
      go_wp2_with fail
      exact hK.out _ _ _ (by rw [hA]; simp only [putF]; rw [e0, e5]; kernel_rfl) hb9 rfl
    · intro K us W hK0 hB hd
      have hK := hid hK0; clear hK0
      have HBW := hid hB
      have hsW := hB.size
      have GB := hid (HB0.out.trans (hB.mono HB0.out.size))
      have e6 : us 6 = .tuple #[.slice none 0 0, .int .i64 er] := hd ⟨6, Ground.data⟩ (by simp) rfl
      clear hd
      simp only [putF]
      rw [hA, e6]
      go_frame
      go_wp2_with fail
      exact hK.out _ _ _ (by rw [hA]; simp only [putF]; rw [e6]; kernel_rfl) (Below.refl _ _) rfl
    · intro K us W hK0 hB hd
      have hK := hid hK0; clear hK0
      have HBW := hid hB
      have hsW := hB.size
      have GB := hid (HB0.out.trans (hB.mono HB0.out.size))
      have e7 : us 7 = .tuple #[.slice none 0 0, .int .i64 er] := hd ⟨7, Ground.data⟩ (by simp) rfl
      clear hd
      simp only [putF]
      rw [hA, e7]
      go_frame
      go_wp2_with fail
      exact hK.out _ _ _ (by rw [hA]; simp only [putF]; rw [e7]; kernel_rfl) (Below.refl _ _) rfl
    · intro K us W hK0 hB hd
      have hK := hid hK0; clear hK0
      have HBW := hid hB
      have hsW := hB.size
      have GB := hid (HB0.out.trans (hB.mono HB0.out.size))
      have e7 : us 7 = .tuple #[.slice none 0 0, .int .i64 er] := hd ⟨7, Ground.data⟩ (by simp) rfl
      clear hd
      simp only [putF]
      rw [hA, e7]
      go_frame
      go_wp2_with fail
      exact hK.out _ _ _ (by rw [hA]; simp only [putF]; rw [e7]; kernel_rfl) (Below.refl _ _) rfl
    · intro K us W hK0 hB hd
      have hK := hid hK0; clear hK0
      have HBW := hid hB
      have hsW := hB.size
      have GB := hid (HB0.out.trans (hB.mono HB0.out.size))
      have e8 : us 8 = .slice none 0 0 := hd ⟨8, Ground.data⟩ (by simp) rfl
      clear hd
      simp only [putF]
      rw [hA, e8]
      go_frame
      go_wp2_with fail
      exact hK.out _ _ _ (by rw [hA]; simp only [putF]; rw [e8]; kernel_rfl) (Below.refl _ _) rfl
    · intro K us W hK0 hB hd
      have hK := hid hK0; clear hK0
      have HBW := hid hB
      have hsW := hB.size
      have GB := hid (HB0.out.trans (hB.mono HB0.out.size))
      have e9 : us 9 = .int .i64 er := hd ⟨9, Ground.data⟩ (by simp) rfl
      clear hd
      simp only [putF]
      rw [hA, e9]
      go_frame
      go_wp2_with fail
      exact hK.out _ _ _ (by rw [hA]; simp only [putF]; rw [e9]; kernel_rfl) (Below.refl _ _) rfl
  case hendL =>
    intro us W1 hB1 hall
    have HB1 := hid (HB0.out.trans (hB1.mono HB0.out.size))
    have HSL := hid hB1
    have e0 : us 0 = .agg C0 := hall 0 (by decide)
    have e1 : us 1 = .int .u8 (mo : Int) := hall 1 (by decide)
    have e2 : us 2 = .int .u8 R := hall 2 (by decide)
    have e3 : us 3 = .int .i64 R := hall 3 (by decide)
    have e4 : us 4 = .int .i64 (257 + R) := hall 4 (by decide)
    obtain ⟨⟨ya, yc⟩, e5⟩ : (fun (_ : World) (v : Value) => ∃ ac : Option Addr × Nat, v = .slice ac.1 M ac.2) W1 (us 5) := hall 5 (by decide)
    have e6 : us 6 = .tuple #[.slice none 0 0, .int .i64 er] := hall 6 (by decide)
    have e7 : us 7 = .tuple #[.slice none 0 0, .int .i64 er] := hall 7 (by decide)
    have e8 : us 8 = .slice none 0 0 := hall 8 (by decide)
    have e9 : us 9 = .int .i64 er := hall 9 (by decide)
    have e10 : us 10 = .slice none 0 0 := hall 10 (by decide)
    have e11 : us 11 = .int .i64 er := hall 11 (by decide)
    have KC1 := hid (heap_still hB1 KC.out)
    clear hall hB1
    simp only [putF]
    rw [hA, e0, e1, e2, e3, e4, e5, e6, e7, e8, e9, e10, e11]
    go_frame
    clear e0 e1 e2 e3 e4 e5 e6 e7 e8 e9 e10 e11 hA
    cases cb
    all_goals
      obtain rfl := HER.out
      go_wp2_with (refine wpList_load_at rfl 29 (.tmp 2) rfl rfl KC1.out Tryz.underlying29 rfl lsz29 HC.out ?_)
      refine (HH.out _).mono ?_
      rintro r w2 ⟨rfl, hb⟩
      have HB2 := hid (HB1.out.trans (hb.mono HB1.out.size))
      clear hb
      go_wp2_with fail
      refine (pawake_any _).mono ?_
      rintro r w9 ⟨rfl, hb⟩
      go_wp2_with fail
      go_ret
      exact ⟨rfl, HB2.out.trans (hb.mono HB2.out.size)⟩
theorem flat29s : flatOf Tryz.prog 10 29 = some (List.replicate 22 (some .i64)) := by kernel_rfl
theorem size29s : (Tryz.prog.info? 29).map (·.size) = some (List.replicate 22 (some IntKind.i64)).length := by kernel_rfl
theorem wf_u8 {n : Int} (h : (Lit.int .u8 n).wf = true) : 0 ≤ n ∧ n < 256 := by
  simp [Lit.wf, IntKind.min, IntKind.max, IntKind.signed, IntKind.bits] at h
  omega
set_option maxRecDepth 100000 in
theorem plantLong_lifted (os : Os) (started : os.Started) (H : Type) (enc : TypeId × Value → H) :
    ReturnsInHanded {} Tryz.checked os 3 .any (Rows.plantLongSpec.pre6 enc Tryz.prog Tryz.f3 Rows.plantLongRow.domain false) (Rows.plantLongSpec.post enc Tryz.prog Tryz.f3 false true false false) := by
  refine law_lifted (C := Tryz.checked) (tb := 4) lawOwn started (by kernel_rfl) Tryz.func3 rfl ?_ (show Tryz.f3.resultTypes = #[4] by kernel_rfl) Tryz.underlying4 lawLaid ?_
    (ChangeSpec.witness6 (enc := enc) (C := Tryz.checked) false ⟨#[], #[.agg #[.int .i64 0, .int .i64 0, .int .i64 0, .int .i64 0, .int .i64 0, .int .i64 0, .int .i64 0, .int .i64 0, .int .i64 0, .int .i64 0, .int .i64 0, .int .i64 0, .int .i64 0, .int .i64 0, .int .i64 0, .int .i64 0, .int .i64 0, .int .i64 0, .int .i64 0, .int .i64 0, .int .i64 0, .int .i64 0], .int .u8 0], []⟩ 8 (by kernel_rfl) (by kernel_rfl) (by kernel_rfl) (by kernel_rfl)) ?_
  · intro ds hds
    match ds, hds with
    | [d1, d2], _ => exact ⟨rfl, rfl, rfl⟩
  · rw [Tryz.params3]
    intro t ht
    simp at ht
    rcases ht with rfl | rfl
    all_goals exact ⟨by kernel_rfl, of_decide_eq_true (by kernel_rfl)⟩
  · intro W base args ds p hval hA hlt _
    change DataW.TrodAll enc Tryz.prog W 0 (fun _ => true) true Tryz.f3.params.toList args.toList ds p at hA
    change ∀ (j : Nat) t v, Tryz.f3.params[j]? = some t → args[j]? = some v → Value.okWide Tryz.prog W .any base t v at hval
    rw [Tryz.params3] at hA hval
    obtain ⟨v0, vs0, e0, ds0, p0, q0, hargs, rfl, rfl, h0, r0⟩ := trodAll_cons hA
    obtain ⟨v1, vs1, e1, ds1, p1, q1, rfl, rfl, rfl, h1, r1⟩ := trodAll_cons r0
    obtain ⟨rfl, rfl, rfl⟩ := trodAll_nil r1
    obtain rfl : args = #[v0, v1] := by cases args; simp_all
    obtain ⟨cs, rfl, hf⟩ := open_flat flat29s size29s (by kernel_rfl) (hval 0 29 v0 rfl rfl) h0
    obtain ⟨zs, hzl, rfl⟩ := int_cells (n := 22) hf
    obtain ⟨n, rfl, _, _, hw⟩ := open_int Tryz.underlying5 (hval 1 5 v1 rfl rfl) h1
    have hn := wf_u8 hw
    obtain ⟨q, rfl⟩ : ∃ q : Nat, n = (q : Int) := ⟨n.toNat, by omega⟩
    match zs, hzl with
    | [z0, z1, z2, z3, z4, z5, z6, z7, z8, z9, z10, z11, z12, z13, z14, z15, z16, z17, z18, z19, z20, z21], _ => exact long_law _ (cfgB z0 z1 z2 z3 z4 z5 z6 z7 z8 z9 z10 z11 z12 z13 z14 z15 z16 z17 z18 z19 z20 z21) q W rfl (by omega) (fun W' => xCfg_any z0 z1 z2 z3 z4 z5 z6 z7 z8 z9 z10 z11 z12 z13 z14 z15 z16 z17 z18 z19 z20 z21 W') (fun W' => rCfg_any z0 z1 z2 z3 z4 z5 z6 z7 z8 z9 z10 z11 z12 z13 z14 z15 z16 z17 z18 z19 z20 z21 W')
/-- PlantLong, whatever the input. -/
theorem plantLong_holds : Rows.PlantLongSaid :=
  OpenClaim.holds_of_wide 3 Tryz.f3 rfl rfl rfl rfl rfl rfl rfl ⟨rfl, rfl, rfl, rfl, rfl⟩ rfl rfl rfl rfl rfl (by kernel_rfl) Tryz.func3 closed3
    (of_decide_eq_true (by kernel_rfl)) (by unfold Func.isWrapper; rw [if_neg (of_decide_eq_false (by kernel_rfl))]; exact ⟨rfl, rfl⟩)
    (fun os started H enc _ => plantLong_lifted os started H enc)
#print axioms plantLong_holds
end Go.Proofs.YtpfighhhemnhaaaGreat
