/- The reference's disk: Crash 77, Start 79. (Printed by wip/gen_disku.py.) -/
import Derived.Test.YteanlcefdoigcaaDiskT
namespace Go.Proofs.Yteanlcefdoigcaa
open Go.RowKit

theorem own_take {W : World} {B n m c : Nat} {a : Option Addr} {b : List Nat} (h : W.ownsRow B 5 1 (.slice a n c) b.length (u8s b)) (hn : n = b.length) (hm : m ≤ n) : W.ownsRow B 5 1 (.slice a m c) (b.take m).length (u8s (b.take m)) := by
  subst hn
  have hl : (b.take m).length = m := by rw [List.length_take]; omega
  obtain ⟨h1, h2⟩ := h
  rw [hl]
  refine ⟨by simp [u8s]; omega, ?_⟩
  rcases h2 with ⟨h2, h3⟩ | ⟨g, cap, cur, h2, h3, h4, h5, h6, h7, h8⟩
  · injection h2 with e1 _ e3
    subst e1 e3
    obtain rfl : m = 0 := by omega
    exact .inl ⟨rfl, rfl⟩
  · injection h2 with e1 _ e3
    subst e1 e3
    refine .inr ⟨g, c, cur, rfl, h3, h4, by omega, h6, h7, ?_⟩
    have e : u8s (b.take m) = (u8s b).take m := by simp [u8s, List.map_take]
    rw [e, ← h8, List.take_take]
    congr 1
    omega
theorem slice_block (a : Option Addr) (n m c d : Nat) : (Value.slice a n c).ownBlock = (Value.slice a m d).ownBlock := by cases a <;> rfl
set_option maxRecDepth 100000 in
set_option maxHeartbeats 3200000 in
theorem rcrash_any (g B : Nat) (dn : Bool) (lf k0 k1 : Int) (f0 f1 : Fl) (w : World) (h : DR w B g dn lf f0 f1) (hs0 : f0.s ≤ f0.b.length) (hn0 : f0.b.length ≤ 1000000) (hs1 : f1.s ≤ f1.b.length) (hn1 : f1.b.length ≤ 1000000) :
    Calls Try.prog 77 #[.pointer (some ⟨g, 0, none⟩), .agg #[.int .i64 k0, .int .i64 k1]] w fun r w' => r = .returned (.tuple #[]) ∧ ∃ v0 v1, DR w' B g true 0 (lostF k0 f0 v0) (lostF k1 f1 v1) ∧ Fr (fun k => k = g) w w' ∧ v0.ownBlock = f0.v.ownBlock ∧ v1.ownBlock = f1.v.ownBlock := by
  have H := hid h
  have HLT := hid (Dsk.lt h)
  clear h
  obtain ⟨v0, b0, s0⟩ := f0
  obtain ⟨a0, c0, hv⟩ := own_slice H.out.o0
  obtain rfl : v0 = .slice a0 b0.length c0 := hv
  obtain ⟨v1, b1, s1⟩ := f1
  obtain ⟨a1, c1, hv⟩ := own_slice H.out.o1
  obtain rfl : v1 = .slice a1 b1.length c1 := hv
  have HCAP0 := hid (own_cap H.out.o0)
  have HCAP1 := hid (own_cap H.out.o1)
  simp only [lostF, keepN] at hs0 hn0 hs1 hn1 ⊢
  have HKP0 := hid (keepN_int k0 b0.length s0 hs0)
  have HKP1 := hid (keepN_int k1 b1.length s1 hs1)
  obtain ⟨p0, hp0⟩ : ∃ p0 : Nat, p0 = min k0.toNat (b0.length - s0) := ⟨_, rfl⟩
  obtain ⟨p1, hp1⟩ : ∃ p1 : Nat, p1 = min k1.toNat (b1.length - s1) := ⟨_, rfl⟩
  rw [← hp0] at HKP0 ⊢
  rw [← hp1] at HKP1 ⊢
  have hq0 : s0 + p0 ≤ b0.length := by omega
  have hq1 : s1 + p1 ≤ b1.length := by omega
  have hs0' : (s0 : Int) ≤ (b0.length : Int) := by omega
  have hs1' : (s1 : Int) ≤ (b1.length : Int) := by omega
  clear hp0 hp1
  obtain ⟨n0, hn0e⟩ : ∃ n0, n0 = b0.length := ⟨_, rfl⟩
  obtain ⟨n1, hn1e⟩ : ∃ n1, n1 = b1.length := ⟨_, rfl⟩
  simp only [← hn0e, ← hn1e] at H HCAP0 HCAP1 hs0 hn0 hs1 hn1 HKP0 HKP1 hq0 hq1 hs0' hs1' ⊢
  have HN0 := hid hn0e
  have HN1 := hid hn1e
  clear hn0e hn1e
  obtain ⟨mx0, hm0⟩ : ∃ mx, mx = if k0 < 0 then 0 else k0 := ⟨_, rfl⟩
  obtain ⟨mx1, hm1⟩ : ∃ mx, mx = if k1 < 0 then 0 else k1 := ⟨_, rfl⟩
  rw [← hm0] at HKP0
  rw [← hm1] at HKP1
  have HMX0 := hid (show (k0 < 0 → mx0 = 0) ∧ (¬ k0 < 0 → mx0 = k0) from ⟨fun h => by rw [hm0, if_pos h], fun h => by rw [hm0, if_neg h]⟩)
  have HMX1 := hid (show (k1 < 0 → mx1 = 0) ∧ (¬ k1 < 0 → mx1 = k1) from ⟨fun h => by rw [hm1, if_pos h], fun h => by rw [hm1, if_neg h]⟩)
  have HKQ0 := hid (show ((n0 : Int) - s0 < mx0 → (p0 : Int) = n0 - s0) ∧ (¬ (n0 : Int) - s0 < mx0 → (p0 : Int) = mx0) from ⟨fun h => by have := HKP0.out; rw [if_pos h] at this; exact this.symm, fun h => by have := HKP0.out; rw [if_neg h] at this; exact this.symm⟩)
  have HKQ1 := hid (show ((n1 : Int) - s1 < mx1 → (p1 : Int) = n1 - s1) ∧ (¬ (n1 : Int) - s1 < mx1 → (p1 : Int) = mx1) from ⟨fun h => by have := HKP1.out; rw [if_pos h] at this; exact this.symm, fun h => by have := HKP1.out; rw [if_neg h] at this; exact this.symm⟩)
  clear hm0 hm1 HKP0 HKP1
  go_enter Try.func77, Try.ntmps77
  go_upto_region 1 with fail
  refine gen_world (fun W1 hW1 => ?_)
  have KP := hid (show W1.heap[w.heap.size]? = some (.cells #[.int .i64 k0, .int .i64 k1] 72) by rw [hW1]; exact heap_alloc_at _ _ _ rfl)
  have HD := hid (show DR W1 B g dn lf ⟨.slice a0 n0 c0, b0, s0⟩ ⟨.slice a1 n1 c1, b1, s1⟩ by rw [hW1]; exact H.out.still ((Below.refl _ _).alloc (Nat.le_refl _) _))
  have HF := hid (show Fr (fun k => k = g) w W1 by rw [hW1]; exact Fr.of_below ((Below.refl _ _).alloc (Nat.le_refl _) _))
  clear hW1
  go_wp2_with fail
  refine wp_loop_rounds 3 ?_
  rw [rounds_succ]
  have z1 : W1.cell? ⟨g, 0, none⟩ = some (.slice a0 n0 c0) := HD.out.c0
  have z2 : W1.cell? ⟨g, 2, none⟩ = some (.int .i64 (s0 : Int)) := HD.out.c2
  have q1 := fun d os => cell_regrown z1 d os
  have q2 := fun d os => cell_regrown z2 d os
  go_wp2_with fail
  refine wp_region_quiet_below (by kernel_rfl) (by kernel_rfl) ?_
  repeat (first | go_big_quiet_step (fail) | quiet_step (fail))
  refine wpQuiet_nil ?_
  intro _ hw'
  obtain ⟨⟨dqV0, osV0⟩, hw2⟩ := hw'
  subst hw2
  have HQV0 := hid (below_regrown W1 dqV0 osV0)
  generalize Sort.grow (redrawn W1 dqV0) osV0 = V0 at HQV0 ⊢
  have hsV0 := HQV0.out.size
  have HD := hid (HD.out.still HQV0.out)
  have HF := hid (HF.out.step HQV0.out)
  have KP := hid (heap_still HQV0.out KP.out)
  clear z1 z2 q1 q2 HQV0
  go_wp2_with fail
  refine gen_act (fun A0 hA => ?_)
  refine wp_region_tail (by kernel_rfl) (by kernel_rfl) [some 23, some 24, some 25, some 26, some 27, some 28, some 29, some 30, some 31, some 32, some 33, some 34, some 35, some 36, some 37, some 38, none] rfl (by decide) 15 (by decide) (by kernel_rfl) (by kernel_rfl)
    [IsV (.pointer (some ⟨g, 0, none⟩)), IsV (.int .i64 0), IsV (.pointer (some ⟨g, 0, none⟩)), IsV (.pointer (some ⟨g, 2, none⟩)), IsV (.pointer (some ⟨g, 2, none⟩)), IsV (.int .i64 (s0 : Int)), IsV (.int .i64 0), IsV (.pointer (some ⟨w.heap.size, 0, none⟩)), IsV (.int .i64 k0), IsV (.int .i64 mx0), IsV (.int .i64 ((n0 : Int) - (s0 : Int))), IsV (.int .i64 (p0 : Int)), IsV (.int .i64 (((s0 + p0 : Nat)) : Int)), IsV (.pointer (some ⟨g, 0, none⟩)), IsV (.pointer (some ⟨g, 2, none⟩))]
    ⟨IsV.stb _, IsV.stb _, IsV.stb _, IsV.stb _, IsV.stb _, IsV.stb _, IsV.stb _, IsV.stb _, IsV.stb _, IsV.stb _, IsV.stb _, IsV.stb _, IsV.stb _, IsV.stb _, IsV.stb _, trivial⟩ ?hsR0 ?htR0
  case hsR0 =>
    refine ⟨?_, ?_, ?_, ?_, ?_, ?_, ?_, ?_, ?_, ?_, ?_, ?_, ?_, ?_, ?_, trivial⟩
    · intro K us W hK0 hB hd
      have hK := hid hK0; clear hK0
      have HBW := hid hB
      clear hd
      simp only [putF]
      rw [hA]
      go_frame
      go_wp2_with fail
      exact hK.out _ _ _ (by rw [hA]; simp only [putF]; kernel_rfl) (Below.refl _ _) rfl
    · intro K us W hK0 hB hd
      have hK := hid hK0; clear hK0
      have HBW := hid hB
      clear hd
      simp only [putF]
      rw [hA]
      go_frame
      go_wp2_with fail
      exact hK.out _ _ _ (by rw [hA]; simp only [putF]; kernel_rfl) (Below.refl _ _) rfl
    · intro K us W hK0 hB hd
      have hK := hid hK0; clear hK0
      have HBW := hid hB
      have e0 : us 0 = .pointer (some ⟨g, 0, none⟩) := hd ⟨0, Ground.data⟩ (by simp) rfl
      clear hd
      simp only [putF]
      rw [hA, e0]
      go_frame
      go_wp2_with fail
      exact hK.out _ _ _ (by rw [hA]; simp only [putF]; rw [e0]; kernel_rfl) (Below.refl _ _) rfl
    · intro K us W hK0 hB hd
      have hK := hid hK0; clear hK0
      have HBW := hid hB
      have e2 : us 2 = .pointer (some ⟨g, 0, none⟩) := hd ⟨2, Ground.data⟩ (by simp) rfl
      clear hd
      simp only [putF]
      rw [hA, e2]
      go_frame
      go_wp2_with fail
      exact hK.out _ _ _ (by rw [hA]; simp only [putF]; rw [e2]; kernel_rfl) (Below.refl _ _) rfl
    · intro K us W hK0 hB hd
      have hK := hid hK0; clear hK0
      have HBW := hid hB
      have e3 : us 3 = .pointer (some ⟨g, 2, none⟩) := hd ⟨3, Ground.data⟩ (by simp) rfl
      have e1 : us 1 = .int .i64 0 := hd ⟨1, Ground.data⟩ (by simp) rfl
      clear hd
      simp only [putF]
      rw [hA, e3, e1]
      go_frame
      go_wp2_with fail
      exact hK.out _ _ _ (by rw [hA]; simp only [putF]; rw [e3, e1]; kernel_rfl) (Below.refl _ _) rfl
    · intro K us W hK0 hB hd
      have hK := hid hK0; clear hK0
      have HBW := hid hB
      have e4 : us 4 = .pointer (some ⟨g, 2, none⟩) := hd ⟨4, Ground.data⟩ (by simp) rfl
      clear hd
      have z0 : W.cell? ⟨g, 2, none⟩ = some (.int .i64 (s0 : Int)) := (HD.out.still hB).c2
      simp only [putF]
      rw [hA, e4]
      go_frame
      go_wp2_with fail
      exact hK.out _ _ _ (by rw [hA]; simp only [putF]; rw [e4]; kernel_rfl) (Below.refl _ _) rfl
    · intro K us W hK0 hB hd
      have hK := hid hK0; clear hK0
      have HBW := hid hB
      clear hd
      simp only [putF]
      rw [hA]
      go_frame
      go_wp2_with fail
      exact hK.out _ _ _ (by rw [hA]; simp only [putF]; kernel_rfl) (Below.refl _ _) rfl
    · intro K us W hK0 hB hd
      have hK := hid hK0; clear hK0
      have HBW := hid hB
      have e6 : us 6 = .int .i64 0 := hd ⟨6, Ground.data⟩ (by simp) rfl
      clear hd
      simp only [putF]
      rw [hA, e6]
      go_frame
      go_wp2_with fail
      exact hK.out _ _ _ (by rw [hA]; simp only [putF]; rw [e6]; kernel_rfl) (Below.refl _ _) rfl
    · intro K us W hK0 hB hd
      have hK := hid hK0; clear hK0
      have HBW := hid hB
      have e7 : us 7 = .pointer (some ⟨w.heap.size, 0, none⟩) := hd ⟨7, Ground.data⟩ (by simp) rfl
      clear hd
      have z0 : W.cell? ⟨w.heap.size, 0, none⟩ = some (.int .i64 k0) := (cell_row (j := 0) (heap_still hB KP.out)).trans rfl
      simp only [putF]
      rw [hA, e7]
      go_frame
      go_wp2_with fail
      exact hK.out _ _ _ (by rw [hA]; simp only [putF]; rw [e7]; kernel_rfl) (Below.refl _ _) rfl
    · intro K us W hK0 hB hd
      have hK := hid hK0; clear hK0
      have HBW := hid hB
      have e8 : us 8 = .int .i64 k0 := hd ⟨8, Ground.data⟩ (by simp) rfl
      clear hd
      have hmx := HMX0.out
      simp only [putF]
      rw [hA, e8]
      go_frame
      go_wp2_with fail
      all_goals first | exact hK.out (.int .i64 0) _ _ (by rw [hA]; simp only [putF]; rw [e8]; kernel_rfl) (Below.refl _ _) (by show Value.int .i64 _ = Value.int .i64 _; congr 1; omega) | exact hK.out (.int .i64 k0) _ _ (by rw [hA]; simp only [putF]; rw [e8]; kernel_rfl) (Below.refl _ _) (by show Value.int .i64 _ = Value.int .i64 _; congr 1; omega)
    · intro K us W hK0 hB hd
      have hK := hid hK0; clear hK0
      have HBW := hid hB
      clear hd
      simp only [putF]
      rw [hA]
      go_frame
      go_wp2_with fail
      exact hK.out _ _ _ (by rw [hA]; simp only [putF]; kernel_rfl) (Below.refl _ _) rfl
    · intro K us W hK0 hB hd
      have hK := hid hK0; clear hK0
      have HBW := hid hB
      have e9 : us 9 = .int .i64 mx0 := hd ⟨9, Ground.data⟩ (by simp) rfl
      have e10 : us 10 = .int .i64 ((n0 : Int) - (s0 : Int)) := hd ⟨10, Ground.data⟩ (by simp) rfl
      clear hd
      have hkp := HKQ0.out
      simp only [putF]
      rw [hA, e9, e10]
      go_frame
      go_wp2_with fail
      all_goals first | exact hK.out (.int .i64 ((n0 : Int) - (s0 : Int))) _ _ (by rw [hA]; simp only [putF]; rw [e9, e10]; kernel_rfl) (Below.refl _ _) (by show Value.int .i64 _ = Value.int .i64 _; congr 1; omega) | exact hK.out (.int .i64 mx0) _ _ (by rw [hA]; simp only [putF]; rw [e9, e10]; kernel_rfl) (Below.refl _ _) (by show Value.int .i64 _ = Value.int .i64 _; congr 1; omega)
    · intro K us W hK0 hB hd
      have hK := hid hK0; clear hK0
      have HBW := hid hB
      have e5 : us 5 = .int .i64 (s0 : Int) := hd ⟨5, Ground.data⟩ (by simp) rfl
      have e11 : us 11 = .int .i64 (p0 : Int) := hd ⟨11, Ground.data⟩ (by simp) rfl
      clear hd
      simp only [putF]
      rw [hA, e5, e11]
      go_frame
      go_wp2_with fail
      exact hK.out _ _ _ (by rw [hA]; simp only [putF]; rw [e5, e11]; kernel_rfl) (Below.refl _ _) rfl
    · intro K us W hK0 hB hd
      have hK := hid hK0; clear hK0
      have HBW := hid hB
      have e0 : us 0 = .pointer (some ⟨g, 0, none⟩) := hd ⟨0, Ground.data⟩ (by simp) rfl
      clear hd
      simp only [putF]
      rw [hA, e0]
      go_frame
      go_wp2_with fail
      exact hK.out _ _ _ (by rw [hA]; simp only [putF]; rw [e0]; kernel_rfl) (Below.refl _ _) rfl
    · intro K us W hK0 hB hd
      have hK := hid hK0; clear hK0
      have HBW := hid hB
      have e13 : us 13 = .pointer (some ⟨g, 0, none⟩) := hd ⟨13, Ground.data⟩ (by simp) rfl
      clear hd
      simp only [putF]
      rw [hA, e13]
      go_frame
      go_wp2_with fail
      exact hK.out _ _ _ (by rw [hA]; simp only [putF]; rw [e13]; kernel_rfl) (Below.refl _ _) rfl
  case htR0 =>
    intro us X0 hBB hp
    have e0 : us 0 = .pointer (some ⟨g, 0, none⟩) := hp 0 (by decide)
    have e1 : us 1 = .int .i64 0 := hp 1 (by decide)
    have e2 : us 2 = .pointer (some ⟨g, 0, none⟩) := hp 2 (by decide)
    have e3 : us 3 = .pointer (some ⟨g, 2, none⟩) := hp 3 (by decide)
    have e4 : us 4 = .pointer (some ⟨g, 2, none⟩) := hp 4 (by decide)
    have e5 : us 5 = .int .i64 (s0 : Int) := hp 5 (by decide)
    have e6 : us 6 = .int .i64 0 := hp 6 (by decide)
    have e7 : us 7 = .pointer (some ⟨w.heap.size, 0, none⟩) := hp 7 (by decide)
    have e8 : us 8 = .int .i64 k0 := hp 8 (by decide)
    have e9 : us 9 = .int .i64 mx0 := hp 9 (by decide)
    have e10 : us 10 = .int .i64 ((n0 : Int) - (s0 : Int)) := hp 10 (by decide)
    have e11 : us 11 = .int .i64 (p0 : Int) := hp 11 (by decide)
    have e12 : us 12 = .int .i64 (((s0 + p0 : Nat)) : Int) := hp 12 (by decide)
    have e13 : us 13 = .pointer (some ⟨g, 0, none⟩) := hp 13 (by decide)
    have e14 : us 14 = .pointer (some ⟨g, 2, none⟩) := hp 14 (by decide)
    clear hp
    have HD := hid (HD.out.still hBB)
    have HF := hid (HF.out.step hBB)
    have KP := hid (heap_still hBB KP.out)
    clear hBB
    have z1 : X0.frozen? ⟨g, 2, none⟩ = false := by have hh := (HD.out).hg; simp [World.frozen?, hh]
    have z0 : X0.cell? ⟨g, 2, none⟩ = some (.int .i64 (s0 : Int)) := HD.out.c2
    refine seqs_step rfl ?_
    intro K hK0
    have hK := hid hK0; clear hK0
    simp only [putF]
    rw [hA, e0, e1, e2, e3, e4, e5, e6, e7, e8, e9, e10, e11, e12, e13, e14]
    go_frame
    go_wp2_with fail
    refine hK.out (.pointer (some ⟨g, 2, none⟩)) _ _ (by rw [hA]; simp only [putF]; rw [e0, e1, e2, e3, e4, e5, e6, e7, e8, e9, e10, e11, e12, e13, e14]; kernel_rfl) ?_
    clear hK hA e0 e1 e2 e3 e4 e5 e6 e7 e8 e9 e10 e11 e12 e13 e14
    refine seqs_step rfl ?_
    intro K hK0
    have hK := hid hK0; clear hK0
    go_wp2_with fail
    refine hK.out (undef) _ _ (by kernel_rfl) ?_
    clear hK
    refine seqs_end rfl ?_
    go_wp2_with fail
    clear z0 z1
    refine gen_world (fun Y0 hY => ?_)
    have hgk : w.heap.size ≠ g := fun e => by have := HLT.out; omega
    have HD := hid (show DR Y0 B g dn lf ⟨.slice a0 n0 c0, b0, s0 + p0⟩ ⟨.slice a1 n1 c1, b1, s1⟩ by rw [hY]; exact (HD.out.set 2 (.int .i64 (((s0 + p0 : Nat)) : Int)) : Dsk _ B g 74 _ _ _).refile)
    have HF := hid (show Fr (fun k => k = g) w Y0 by rw [hY]; exact HF.out.trans (G := fun k => k = g) (Fr.set rfl) (fun _ _ h => h))
    have KP := hid (show Y0.heap[w.heap.size]? = some (.cells #[.int .i64 k0, .int .i64 k1] 72) by rw [hY]; exact (Below.heap_setCell X0 ⟨g, 2, none⟩ _ _ hgk).trans KP.out)
    clear hY hgk
    refine gen_act (fun A0 hA => ?_)
    refine wp_region_tail (by kernel_rfl) (by kernel_rfl) [some 39, some 40, some 41, some 42, some 43, some 44, some 45, some 46, some 47, some 48, some 49, some 50, some 51, some 52, some 53, some 54, some 55, some 56, none] rfl (by decide) 17 (by decide) (by kernel_rfl) (by kernel_rfl)
      [IsV (.pointer (some ⟨g, 0, none⟩)), IsV (.int .i64 0), IsV (.pointer (some ⟨g, 0, none⟩)), IsV (.int .i64 0), IsV (.pointer (some ⟨g, 0, none⟩)), IsV (.pointer (some ⟨g, 0, none⟩)), IsV (.pointer (some ⟨g, 0, none⟩)), IsV (.slice a0 n0 c0), IsV (.pointer (some ⟨g, 0, none⟩)), IsV (.int .i64 0), IsV (.pointer (some ⟨g, 0, none⟩)), IsV (.pointer (some ⟨g, 2, none⟩)), IsV (.pointer (some ⟨g, 2, none⟩)), IsV (.int .i64 (((s0 + p0 : Nat)) : Int)), IsV (.slice a0 (s0 + p0) c0), IsV (.pointer (some ⟨g, 0, none⟩)), IsV (.pointer (some ⟨g, 0, none⟩))]
      ⟨IsV.stb _, IsV.stb _, IsV.stb _, IsV.stb _, IsV.stb _, IsV.stb _, IsV.stb _, IsV.stb _, IsV.stb _, IsV.stb _, IsV.stb _, IsV.stb _, IsV.stb _, IsV.stb _, IsV.stb _, IsV.stb _, IsV.stb _, trivial⟩ ?hsT0 ?htT0
    case hsT0 =>
      refine ⟨?_, ?_, ?_, ?_, ?_, ?_, ?_, ?_, ?_, ?_, ?_, ?_, ?_, ?_, ?_, ?_, ?_, trivial⟩
      · intro K us W hK0 hB hd
        have hK := hid hK0; clear hK0
        have HBW := hid hB
        clear hd
        simp only [putF]
        rw [hA]
        go_frame
        go_wp2_with fail
        exact hK.out _ _ _ (by rw [hA]; simp only [putF]; kernel_rfl) (Below.refl _ _) rfl
      · intro K us W hK0 hB hd
        have hK := hid hK0; clear hK0
        have HBW := hid hB
        clear hd
        simp only [putF]
        rw [hA]
        go_frame
        go_wp2_with fail
        exact hK.out _ _ _ (by rw [hA]; simp only [putF]; kernel_rfl) (Below.refl _ _) rfl
      · intro K us W hK0 hB hd
        have hK := hid hK0; clear hK0
        have HBW := hid hB
        clear hd
        simp only [putF]
        rw [hA]
        go_frame
        go_wp2_with fail
        exact hK.out _ _ _ (by rw [hA]; simp only [putF]; kernel_rfl) (Below.refl _ _) rfl
      · intro K us W hK0 hB hd
        have hK := hid hK0; clear hK0
        have HBW := hid hB
        clear hd
        simp only [putF]
        rw [hA]
        go_frame
        go_wp2_with fail
        exact hK.out _ _ _ (by rw [hA]; simp only [putF]; kernel_rfl) (Below.refl _ _) rfl
      · intro K us W hK0 hB hd
        have hK := hid hK0; clear hK0
        have HBW := hid hB
        have e2 : us 2 = .pointer (some ⟨g, 0, none⟩) := hd ⟨2, Ground.data⟩ (by simp) rfl
        clear hd
        simp only [putF]
        rw [hA, e2]
        go_frame
        go_wp2_with fail
        exact hK.out _ _ _ (by rw [hA]; simp only [putF]; rw [e2]; kernel_rfl) (Below.refl _ _) rfl
      · intro K us W hK0 hB hd
        have hK := hid hK0; clear hK0
        have HBW := hid hB
        have e4 : us 4 = .pointer (some ⟨g, 0, none⟩) := hd ⟨4, Ground.data⟩ (by simp) rfl
        clear hd
        simp only [putF]
        rw [hA, e4]
        go_frame
        go_wp2_with fail
        exact hK.out _ _ _ (by rw [hA]; simp only [putF]; rw [e4]; kernel_rfl) (Below.refl _ _) rfl
      · intro K us W hK0 hB hd
        have hK := hid hK0; clear hK0
        have HBW := hid hB
        have e5 : us 5 = .pointer (some ⟨g, 0, none⟩) := hd ⟨5, Ground.data⟩ (by simp) rfl
        have e3 : us 3 = .int .i64 0 := hd ⟨3, Ground.data⟩ (by simp) rfl
        clear hd
        simp only [putF]
        rw [hA, e5, e3]
        go_frame
        go_wp2_with fail
        exact hK.out _ _ _ (by rw [hA]; simp only [putF]; rw [e5, e3]; kernel_rfl) (Below.refl _ _) rfl
      · intro K us W hK0 hB hd
        have hK := hid hK0; clear hK0
        have HBW := hid hB
        have e6 : us 6 = .pointer (some ⟨g, 0, none⟩) := hd ⟨6, Ground.data⟩ (by simp) rfl
        clear hd
        have z0 : W.cell? ⟨g, 0, none⟩ = some (.slice a0 n0 c0) := (HD.out.still hB).c0
        simp only [putF]
        rw [hA, e6]
        go_frame
        go_wp2_with fail
        exact hK.out _ _ _ (by rw [hA]; simp only [putF]; rw [e6]; kernel_rfl) (Below.refl _ _) rfl
      · intro K us W hK0 hB hd
        have hK := hid hK0; clear hK0
        have HBW := hid hB
        clear hd
        simp only [putF]
        rw [hA]
        go_frame
        go_wp2_with fail
        exact hK.out _ _ _ (by rw [hA]; simp only [putF]; kernel_rfl) (Below.refl _ _) rfl
      · intro K us W hK0 hB hd
        have hK := hid hK0; clear hK0
        have HBW := hid hB
        clear hd
        simp only [putF]
        rw [hA]
        go_frame
        go_wp2_with fail
        exact hK.out _ _ _ (by rw [hA]; simp only [putF]; kernel_rfl) (Below.refl _ _) rfl
      · intro K us W hK0 hB hd
        have hK := hid hK0; clear hK0
        have HBW := hid hB
        have e8 : us 8 = .pointer (some ⟨g, 0, none⟩) := hd ⟨8, Ground.data⟩ (by simp) rfl
        clear hd
        simp only [putF]
        rw [hA, e8]
        go_frame
        go_wp2_with fail
        exact hK.out _ _ _ (by rw [hA]; simp only [putF]; rw [e8]; kernel_rfl) (Below.refl _ _) rfl
      · intro K us W hK0 hB hd
        have hK := hid hK0; clear hK0
        have HBW := hid hB
        have e10 : us 10 = .pointer (some ⟨g, 0, none⟩) := hd ⟨10, Ground.data⟩ (by simp) rfl
        clear hd
        simp only [putF]
        rw [hA, e10]
        go_frame
        go_wp2_with fail
        exact hK.out _ _ _ (by rw [hA]; simp only [putF]; rw [e10]; kernel_rfl) (Below.refl _ _) rfl
      · intro K us W hK0 hB hd
        have hK := hid hK0; clear hK0
        have HBW := hid hB
        have e11 : us 11 = .pointer (some ⟨g, 2, none⟩) := hd ⟨11, Ground.data⟩ (by simp) rfl
        have e9 : us 9 = .int .i64 0 := hd ⟨9, Ground.data⟩ (by simp) rfl
        clear hd
        simp only [putF]
        rw [hA, e11, e9]
        go_frame
        go_wp2_with fail
        exact hK.out _ _ _ (by rw [hA]; simp only [putF]; rw [e11, e9]; kernel_rfl) (Below.refl _ _) rfl
      · intro K us W hK0 hB hd
        have hK := hid hK0; clear hK0
        have HBW := hid hB
        have e12 : us 12 = .pointer (some ⟨g, 2, none⟩) := hd ⟨12, Ground.data⟩ (by simp) rfl
        clear hd
        have z0 : W.cell? ⟨g, 2, none⟩ = some (.int .i64 (((s0 + p0 : Nat)) : Int)) := (HD.out.still hB).c2
        simp only [putF]
        rw [hA, e12]
        go_frame
        go_wp2_with fail
        exact hK.out _ _ _ (by rw [hA]; simp only [putF]; rw [e12]; kernel_rfl) (Below.refl _ _) rfl
      · intro K us W hK0 hB hd
        have hK := hid hK0; clear hK0
        have HBW := hid hB
        have e7 : us 7 = .slice a0 n0 c0 := hd ⟨7, Ground.data⟩ (by simp) rfl
        have e13 : us 13 = .int .i64 (((s0 + p0 : Nat)) : Int) := hd ⟨13, Ground.data⟩ (by simp) rfl
        clear hd
        have hcap := HCAP0.out
        simp only [putF]
        rw [hA, e7, e13]
        go_frame
        go_wp2_with fail
        exact hK.out _ _ _ (by rw [hA]; simp only [putF]; rw [e7, e13]; kernel_rfl) (Below.refl _ _) rfl
      · intro K us W hK0 hB hd
        have hK := hid hK0; clear hK0
        have HBW := hid hB
        have e0 : us 0 = .pointer (some ⟨g, 0, none⟩) := hd ⟨0, Ground.data⟩ (by simp) rfl
        clear hd
        simp only [putF]
        rw [hA, e0]
        go_frame
        go_wp2_with fail
        exact hK.out _ _ _ (by rw [hA]; simp only [putF]; rw [e0]; kernel_rfl) (Below.refl _ _) rfl
      · intro K us W hK0 hB hd
        have hK := hid hK0; clear hK0
        have HBW := hid hB
        have e15 : us 15 = .pointer (some ⟨g, 0, none⟩) := hd ⟨15, Ground.data⟩ (by simp) rfl
        clear hd
        simp only [putF]
        rw [hA, e15]
        go_frame
        go_wp2_with fail
        exact hK.out _ _ _ (by rw [hA]; simp only [putF]; rw [e15]; kernel_rfl) (Below.refl _ _) rfl
    case htT0 =>
      intro us Z0 hBB hp
      have e0 : us 0 = .pointer (some ⟨g, 0, none⟩) := hp 0 (by decide)
      have e1 : us 1 = .int .i64 0 := hp 1 (by decide)
      have e2 : us 2 = .pointer (some ⟨g, 0, none⟩) := hp 2 (by decide)
      have e3 : us 3 = .int .i64 0 := hp 3 (by decide)
      have e4 : us 4 = .pointer (some ⟨g, 0, none⟩) := hp 4 (by decide)
      have e5 : us 5 = .pointer (some ⟨g, 0, none⟩) := hp 5 (by decide)
      have e6 : us 6 = .pointer (some ⟨g, 0, none⟩) := hp 6 (by decide)
      have e7 : us 7 = .slice a0 n0 c0 := hp 7 (by decide)
      have e8 : us 8 = .pointer (some ⟨g, 0, none⟩) := hp 8 (by decide)
      have e9 : us 9 = .int .i64 0 := hp 9 (by decide)
      have e10 : us 10 = .pointer (some ⟨g, 0, none⟩) := hp 10 (by decide)
      have e11 : us 11 = .pointer (some ⟨g, 2, none⟩) := hp 11 (by decide)
      have e12 : us 12 = .pointer (some ⟨g, 2, none⟩) := hp 12 (by decide)
      have e13 : us 13 = .int .i64 (((s0 + p0 : Nat)) : Int) := hp 13 (by decide)
      have e14 : us 14 = .slice a0 (s0 + p0) c0 := hp 14 (by decide)
      have e15 : us 15 = .pointer (some ⟨g, 0, none⟩) := hp 15 (by decide)
      have e16 : us 16 = .pointer (some ⟨g, 0, none⟩) := hp 16 (by decide)
      clear hp
      have HD := hid (HD.out.still hBB)
      have HF := hid (HF.out.step hBB)
      have KP := hid (heap_still hBB KP.out)
      clear hBB
      have z1 : Z0.frozen? ⟨g, 0, none⟩ = false := by have hh := (HD.out).hg; simp [World.frozen?, hh]
      have z0 : Z0.cell? ⟨g, 0, none⟩ = some (.slice a0 n0 c0) := HD.out.c0
      refine seqs_step rfl ?_
      intro K hK0
      have hK := hid hK0; clear hK0
      simp only [putF]
      rw [hA, e0, e1, e2, e3, e4, e5, e6, e7, e8, e9, e10, e11, e12, e13, e14, e15, e16]
      go_frame
      go_wp2_with fail
      refine hK.out (.pointer (some ⟨g, 0, none⟩)) _ _ (by rw [hA]; simp only [putF]; rw [e0, e1, e2, e3, e4, e5, e6, e7, e8, e9, e10, e11, e12, e13, e14, e15, e16]; kernel_rfl) ?_
      clear hK hA e0 e1 e2 e3 e4 e5 e6 e7 e8 e9 e10 e11 e12 e13 e14 e15 e16
      refine seqs_step rfl ?_
      intro K hK0
      have hK := hid hK0; clear hK0
      go_wp2_with fail
      refine hK.out (undef) _ _ (by kernel_rfl) ?_
      clear hK
      refine seqs_end rfl ?_
      go_wp2_with fail
      clear z0 z1
      refine gen_world (fun U0 hU => ?_)
      have hgk : w.heap.size ≠ g := fun e => by have := HLT.out; omega
      have HD := hid (show DR U0 B g dn lf ⟨.slice a0 (s0 + p0) c0, b0.take (s0 + p0), s0 + p0⟩ ⟨.slice a1 n1 c1, b1, s1⟩ by rw [hU]; exact (HD.out.set 0 (.slice a0 (s0 + p0) c0)).swap0 (own_same (own_take HD.out.o0 HN0.out hq0) (fun k hk => Below.heap_setCell Z0 ⟨g, 0, none⟩ _ k (fun e => by have h1 : k = g := e; subst h1; exact HD.out.n0 ((slice_block _ _ _ _ _).trans hk)))) (fun e => HD.out.n0 ((slice_block _ _ _ _ _).trans e)) (fun k hk e => HD.out.n01 k ((slice_block _ _ _ _ _).trans hk) e))
      have HF := hid (show Fr (fun k => k = g) w U0 by rw [hU]; exact HF.out.trans (G := fun k => k = g) (Fr.set rfl) (fun _ _ h => h))
      have KP := hid (show U0.heap[w.heap.size]? = some (.cells #[.int .i64 k0, .int .i64 k1] 72) by rw [hU]; exact (Below.heap_setCell Z0 ⟨g, 0, none⟩ _ _ hgk).trans KP.out)
      clear hU hgk
      (try rw [rounds_succ])
      have z1 : U0.cell? ⟨g, 1, none⟩ = some (.slice a1 n1 c1) := HD.out.c1
      have z2 : U0.cell? ⟨g, 3, none⟩ = some (.int .i64 (s1 : Int)) := HD.out.c3
      have q1 := fun d os => cell_regrown z1 d os
      have q2 := fun d os => cell_regrown z2 d os
      go_wp2_with fail
      refine wp_region_quiet_below (by kernel_rfl) (by kernel_rfl) ?_
      repeat (first | go_big_quiet_step (fail) | quiet_step (fail))
      refine wpQuiet_nil ?_
      intro _ hw'
      obtain ⟨⟨dqV1, osV1⟩, hw2⟩ := hw'
      subst hw2
      have HQV1 := hid (below_regrown U0 dqV1 osV1)
      generalize Sort.grow (redrawn U0 dqV1) osV1 = V1 at HQV1 ⊢
      have hsV1 := HQV1.out.size
      have HD := hid (HD.out.still HQV1.out)
      have HF := hid (HF.out.step HQV1.out)
      have KP := hid (heap_still HQV1.out KP.out)
      clear z1 z2 q1 q2 HQV1
      go_wp2_with fail
      refine gen_act (fun A0 hA => ?_)
      refine wp_region_tail (by kernel_rfl) (by kernel_rfl) [some 23, some 24, some 25, some 26, some 27, some 28, some 29, some 30, some 31, some 32, some 33, some 34, some 35, some 36, some 37, some 38, none] rfl (by decide) 15 (by decide) (by kernel_rfl) (by kernel_rfl)
        [IsV (.pointer (some ⟨g, 0, none⟩)), IsV (.int .i64 1), IsV (.pointer (some ⟨g, 0, none⟩)), IsV (.pointer (some ⟨g, 2, none⟩)), IsV (.pointer (some ⟨g, 3, none⟩)), IsV (.int .i64 (s1 : Int)), IsV (.int .i64 1), IsV (.pointer (some ⟨w.heap.size, 1, none⟩)), IsV (.int .i64 k1), IsV (.int .i64 mx1), IsV (.int .i64 ((n1 : Int) - (s1 : Int))), IsV (.int .i64 (p1 : Int)), IsV (.int .i64 (((s1 + p1 : Nat)) : Int)), IsV (.pointer (some ⟨g, 0, none⟩)), IsV (.pointer (some ⟨g, 2, none⟩))]
        ⟨IsV.stb _, IsV.stb _, IsV.stb _, IsV.stb _, IsV.stb _, IsV.stb _, IsV.stb _, IsV.stb _, IsV.stb _, IsV.stb _, IsV.stb _, IsV.stb _, IsV.stb _, IsV.stb _, IsV.stb _, trivial⟩ ?hsR1 ?htR1
      case hsR1 =>
        refine ⟨?_, ?_, ?_, ?_, ?_, ?_, ?_, ?_, ?_, ?_, ?_, ?_, ?_, ?_, ?_, trivial⟩
        · intro K us W hK0 hB hd
          have hK := hid hK0; clear hK0
          have HBW := hid hB
          clear hd
          simp only [putF]
          rw [hA]
          go_frame
          go_wp2_with fail
          exact hK.out _ _ _ (by rw [hA]; simp only [putF]; kernel_rfl) (Below.refl _ _) rfl
        · intro K us W hK0 hB hd
          have hK := hid hK0; clear hK0
          have HBW := hid hB
          clear hd
          simp only [putF]
          rw [hA]
          go_frame
          go_wp2_with fail
          exact hK.out _ _ _ (by rw [hA]; simp only [putF]; kernel_rfl) (Below.refl _ _) rfl
        · intro K us W hK0 hB hd
          have hK := hid hK0; clear hK0
          have HBW := hid hB
          have e0 : us 0 = .pointer (some ⟨g, 0, none⟩) := hd ⟨0, Ground.data⟩ (by simp) rfl
          clear hd
          simp only [putF]
          rw [hA, e0]
          go_frame
          go_wp2_with fail
          exact hK.out _ _ _ (by rw [hA]; simp only [putF]; rw [e0]; kernel_rfl) (Below.refl _ _) rfl
        · intro K us W hK0 hB hd
          have hK := hid hK0; clear hK0
          have HBW := hid hB
          have e2 : us 2 = .pointer (some ⟨g, 0, none⟩) := hd ⟨2, Ground.data⟩ (by simp) rfl
          clear hd
          simp only [putF]
          rw [hA, e2]
          go_frame
          go_wp2_with fail
          exact hK.out _ _ _ (by rw [hA]; simp only [putF]; rw [e2]; kernel_rfl) (Below.refl _ _) rfl
        · intro K us W hK0 hB hd
          have hK := hid hK0; clear hK0
          have HBW := hid hB
          have e3 : us 3 = .pointer (some ⟨g, 2, none⟩) := hd ⟨3, Ground.data⟩ (by simp) rfl
          have e1 : us 1 = .int .i64 1 := hd ⟨1, Ground.data⟩ (by simp) rfl
          clear hd
          simp only [putF]
          rw [hA, e3, e1]
          go_frame
          go_wp2_with fail
          exact hK.out _ _ _ (by rw [hA]; simp only [putF]; rw [e3, e1]; kernel_rfl) (Below.refl _ _) rfl
        · intro K us W hK0 hB hd
          have hK := hid hK0; clear hK0
          have HBW := hid hB
          have e4 : us 4 = .pointer (some ⟨g, 3, none⟩) := hd ⟨4, Ground.data⟩ (by simp) rfl
          clear hd
          have z0 : W.cell? ⟨g, 3, none⟩ = some (.int .i64 (s1 : Int)) := (HD.out.still hB).c3
          simp only [putF]
          rw [hA, e4]
          go_frame
          go_wp2_with fail
          exact hK.out _ _ _ (by rw [hA]; simp only [putF]; rw [e4]; kernel_rfl) (Below.refl _ _) rfl
        · intro K us W hK0 hB hd
          have hK := hid hK0; clear hK0
          have HBW := hid hB
          clear hd
          simp only [putF]
          rw [hA]
          go_frame
          go_wp2_with fail
          exact hK.out _ _ _ (by rw [hA]; simp only [putF]; kernel_rfl) (Below.refl _ _) rfl
        · intro K us W hK0 hB hd
          have hK := hid hK0; clear hK0
          have HBW := hid hB
          have e6 : us 6 = .int .i64 1 := hd ⟨6, Ground.data⟩ (by simp) rfl
          clear hd
          simp only [putF]
          rw [hA, e6]
          go_frame
          go_wp2_with fail
          exact hK.out _ _ _ (by rw [hA]; simp only [putF]; rw [e6]; kernel_rfl) (Below.refl _ _) rfl
        · intro K us W hK0 hB hd
          have hK := hid hK0; clear hK0
          have HBW := hid hB
          have e7 : us 7 = .pointer (some ⟨w.heap.size, 1, none⟩) := hd ⟨7, Ground.data⟩ (by simp) rfl
          clear hd
          have z0 : W.cell? ⟨w.heap.size, 1, none⟩ = some (.int .i64 k1) := (cell_row (j := 1) (heap_still hB KP.out)).trans rfl
          simp only [putF]
          rw [hA, e7]
          go_frame
          go_wp2_with fail
          exact hK.out _ _ _ (by rw [hA]; simp only [putF]; rw [e7]; kernel_rfl) (Below.refl _ _) rfl
        · intro K us W hK0 hB hd
          have hK := hid hK0; clear hK0
          have HBW := hid hB
          have e8 : us 8 = .int .i64 k1 := hd ⟨8, Ground.data⟩ (by simp) rfl
          clear hd
          have hmx := HMX1.out
          simp only [putF]
          rw [hA, e8]
          go_frame
          go_wp2_with fail
          all_goals first | exact hK.out (.int .i64 0) _ _ (by rw [hA]; simp only [putF]; rw [e8]; kernel_rfl) (Below.refl _ _) (by show Value.int .i64 _ = Value.int .i64 _; congr 1; omega) | exact hK.out (.int .i64 k1) _ _ (by rw [hA]; simp only [putF]; rw [e8]; kernel_rfl) (Below.refl _ _) (by show Value.int .i64 _ = Value.int .i64 _; congr 1; omega)
        · intro K us W hK0 hB hd
          have hK := hid hK0; clear hK0
          have HBW := hid hB
          clear hd
          simp only [putF]
          rw [hA]
          go_frame
          go_wp2_with fail
          exact hK.out _ _ _ (by rw [hA]; simp only [putF]; kernel_rfl) (Below.refl _ _) rfl
        · intro K us W hK0 hB hd
          have hK := hid hK0; clear hK0
          have HBW := hid hB
          have e9 : us 9 = .int .i64 mx1 := hd ⟨9, Ground.data⟩ (by simp) rfl
          have e10 : us 10 = .int .i64 ((n1 : Int) - (s1 : Int)) := hd ⟨10, Ground.data⟩ (by simp) rfl
          clear hd
          have hkp := HKQ1.out
          simp only [putF]
          rw [hA, e9, e10]
          go_frame
          go_wp2_with fail
          all_goals first | exact hK.out (.int .i64 ((n1 : Int) - (s1 : Int))) _ _ (by rw [hA]; simp only [putF]; rw [e9, e10]; kernel_rfl) (Below.refl _ _) (by show Value.int .i64 _ = Value.int .i64 _; congr 1; omega) | exact hK.out (.int .i64 mx1) _ _ (by rw [hA]; simp only [putF]; rw [e9, e10]; kernel_rfl) (Below.refl _ _) (by show Value.int .i64 _ = Value.int .i64 _; congr 1; omega)
        · intro K us W hK0 hB hd
          have hK := hid hK0; clear hK0
          have HBW := hid hB
          have e5 : us 5 = .int .i64 (s1 : Int) := hd ⟨5, Ground.data⟩ (by simp) rfl
          have e11 : us 11 = .int .i64 (p1 : Int) := hd ⟨11, Ground.data⟩ (by simp) rfl
          clear hd
          simp only [putF]
          rw [hA, e5, e11]
          go_frame
          go_wp2_with fail
          exact hK.out _ _ _ (by rw [hA]; simp only [putF]; rw [e5, e11]; kernel_rfl) (Below.refl _ _) rfl
        · intro K us W hK0 hB hd
          have hK := hid hK0; clear hK0
          have HBW := hid hB
          have e0 : us 0 = .pointer (some ⟨g, 0, none⟩) := hd ⟨0, Ground.data⟩ (by simp) rfl
          clear hd
          simp only [putF]
          rw [hA, e0]
          go_frame
          go_wp2_with fail
          exact hK.out _ _ _ (by rw [hA]; simp only [putF]; rw [e0]; kernel_rfl) (Below.refl _ _) rfl
        · intro K us W hK0 hB hd
          have hK := hid hK0; clear hK0
          have HBW := hid hB
          have e13 : us 13 = .pointer (some ⟨g, 0, none⟩) := hd ⟨13, Ground.data⟩ (by simp) rfl
          clear hd
          simp only [putF]
          rw [hA, e13]
          go_frame
          go_wp2_with fail
          exact hK.out _ _ _ (by rw [hA]; simp only [putF]; rw [e13]; kernel_rfl) (Below.refl _ _) rfl
      case htR1 =>
        intro us X1 hBB hp
        have e0 : us 0 = .pointer (some ⟨g, 0, none⟩) := hp 0 (by decide)
        have e1 : us 1 = .int .i64 1 := hp 1 (by decide)
        have e2 : us 2 = .pointer (some ⟨g, 0, none⟩) := hp 2 (by decide)
        have e3 : us 3 = .pointer (some ⟨g, 2, none⟩) := hp 3 (by decide)
        have e4 : us 4 = .pointer (some ⟨g, 3, none⟩) := hp 4 (by decide)
        have e5 : us 5 = .int .i64 (s1 : Int) := hp 5 (by decide)
        have e6 : us 6 = .int .i64 1 := hp 6 (by decide)
        have e7 : us 7 = .pointer (some ⟨w.heap.size, 1, none⟩) := hp 7 (by decide)
        have e8 : us 8 = .int .i64 k1 := hp 8 (by decide)
        have e9 : us 9 = .int .i64 mx1 := hp 9 (by decide)
        have e10 : us 10 = .int .i64 ((n1 : Int) - (s1 : Int)) := hp 10 (by decide)
        have e11 : us 11 = .int .i64 (p1 : Int) := hp 11 (by decide)
        have e12 : us 12 = .int .i64 (((s1 + p1 : Nat)) : Int) := hp 12 (by decide)
        have e13 : us 13 = .pointer (some ⟨g, 0, none⟩) := hp 13 (by decide)
        have e14 : us 14 = .pointer (some ⟨g, 2, none⟩) := hp 14 (by decide)
        clear hp
        have HD := hid (HD.out.still hBB)
        have HF := hid (HF.out.step hBB)
        have KP := hid (heap_still hBB KP.out)
        clear hBB
        have z1 : X1.frozen? ⟨g, 3, none⟩ = false := by have hh := (HD.out).hg; simp [World.frozen?, hh]
        have z0 : X1.cell? ⟨g, 3, none⟩ = some (.int .i64 (s1 : Int)) := HD.out.c3
        refine seqs_step rfl ?_
        intro K hK0
        have hK := hid hK0; clear hK0
        simp only [putF]
        rw [hA, e0, e1, e2, e3, e4, e5, e6, e7, e8, e9, e10, e11, e12, e13, e14]
        go_frame
        go_wp2_with fail
        refine hK.out (.pointer (some ⟨g, 3, none⟩)) _ _ (by rw [hA]; simp only [putF]; rw [e0, e1, e2, e3, e4, e5, e6, e7, e8, e9, e10, e11, e12, e13, e14]; kernel_rfl) ?_
        clear hK hA e0 e1 e2 e3 e4 e5 e6 e7 e8 e9 e10 e11 e12 e13 e14
        refine seqs_step rfl ?_
        intro K hK0
        have hK := hid hK0; clear hK0
        go_wp2_with fail
        refine hK.out (undef) _ _ (by kernel_rfl) ?_
        clear hK
        refine seqs_end rfl ?_
        go_wp2_with fail
        clear z0 z1
        refine gen_world (fun Y1 hY => ?_)
        have hgk : w.heap.size ≠ g := fun e => by have := HLT.out; omega
        have HD := hid (show DR Y1 B g dn lf ⟨.slice a0 (s0 + p0) c0, b0.take (s0 + p0), s0 + p0⟩ ⟨.slice a1 n1 c1, b1, s1 + p1⟩ by rw [hY]; exact (HD.out.set 3 (.int .i64 (((s1 + p1 : Nat)) : Int)) : Dsk _ B g 74 _ _ _).refile)
        have HF := hid (show Fr (fun k => k = g) w Y1 by rw [hY]; exact HF.out.trans (G := fun k => k = g) (Fr.set rfl) (fun _ _ h => h))
        have KP := hid (show Y1.heap[w.heap.size]? = some (.cells #[.int .i64 k0, .int .i64 k1] 72) by rw [hY]; exact (Below.heap_setCell X1 ⟨g, 3, none⟩ _ _ hgk).trans KP.out)
        clear hY hgk
        refine gen_act (fun A0 hA => ?_)
        refine wp_region_tail (by kernel_rfl) (by kernel_rfl) [some 39, some 40, some 41, some 42, some 43, some 44, some 45, some 46, some 47, some 48, some 49, some 50, some 51, some 52, some 53, some 54, some 55, some 56, none] rfl (by decide) 17 (by decide) (by kernel_rfl) (by kernel_rfl)
          [IsV (.pointer (some ⟨g, 0, none⟩)), IsV (.int .i64 1), IsV (.pointer (some ⟨g, 0, none⟩)), IsV (.int .i64 1), IsV (.pointer (some ⟨g, 0, none⟩)), IsV (.pointer (some ⟨g, 0, none⟩)), IsV (.pointer (some ⟨g, 1, none⟩)), IsV (.slice a1 n1 c1), IsV (.pointer (some ⟨g, 0, none⟩)), IsV (.int .i64 1), IsV (.pointer (some ⟨g, 0, none⟩)), IsV (.pointer (some ⟨g, 2, none⟩)), IsV (.pointer (some ⟨g, 3, none⟩)), IsV (.int .i64 (((s1 + p1 : Nat)) : Int)), IsV (.slice a1 (s1 + p1) c1), IsV (.pointer (some ⟨g, 0, none⟩)), IsV (.pointer (some ⟨g, 0, none⟩))]
          ⟨IsV.stb _, IsV.stb _, IsV.stb _, IsV.stb _, IsV.stb _, IsV.stb _, IsV.stb _, IsV.stb _, IsV.stb _, IsV.stb _, IsV.stb _, IsV.stb _, IsV.stb _, IsV.stb _, IsV.stb _, IsV.stb _, IsV.stb _, trivial⟩ ?hsT1 ?htT1
        case hsT1 =>
          refine ⟨?_, ?_, ?_, ?_, ?_, ?_, ?_, ?_, ?_, ?_, ?_, ?_, ?_, ?_, ?_, ?_, ?_, trivial⟩
          · intro K us W hK0 hB hd
            have hK := hid hK0; clear hK0
            have HBW := hid hB
            clear hd
            simp only [putF]
            rw [hA]
            go_frame
            go_wp2_with fail
            exact hK.out _ _ _ (by rw [hA]; simp only [putF]; kernel_rfl) (Below.refl _ _) rfl
          · intro K us W hK0 hB hd
            have hK := hid hK0; clear hK0
            have HBW := hid hB
            clear hd
            simp only [putF]
            rw [hA]
            go_frame
            go_wp2_with fail
            exact hK.out _ _ _ (by rw [hA]; simp only [putF]; kernel_rfl) (Below.refl _ _) rfl
          · intro K us W hK0 hB hd
            have hK := hid hK0; clear hK0
            have HBW := hid hB
            clear hd
            simp only [putF]
            rw [hA]
            go_frame
            go_wp2_with fail
            exact hK.out _ _ _ (by rw [hA]; simp only [putF]; kernel_rfl) (Below.refl _ _) rfl
          · intro K us W hK0 hB hd
            have hK := hid hK0; clear hK0
            have HBW := hid hB
            clear hd
            simp only [putF]
            rw [hA]
            go_frame
            go_wp2_with fail
            exact hK.out _ _ _ (by rw [hA]; simp only [putF]; kernel_rfl) (Below.refl _ _) rfl
          · intro K us W hK0 hB hd
            have hK := hid hK0; clear hK0
            have HBW := hid hB
            have e2 : us 2 = .pointer (some ⟨g, 0, none⟩) := hd ⟨2, Ground.data⟩ (by simp) rfl
            clear hd
            simp only [putF]
            rw [hA, e2]
            go_frame
            go_wp2_with fail
            exact hK.out _ _ _ (by rw [hA]; simp only [putF]; rw [e2]; kernel_rfl) (Below.refl _ _) rfl
          · intro K us W hK0 hB hd
            have hK := hid hK0; clear hK0
            have HBW := hid hB
            have e4 : us 4 = .pointer (some ⟨g, 0, none⟩) := hd ⟨4, Ground.data⟩ (by simp) rfl
            clear hd
            simp only [putF]
            rw [hA, e4]
            go_frame
            go_wp2_with fail
            exact hK.out _ _ _ (by rw [hA]; simp only [putF]; rw [e4]; kernel_rfl) (Below.refl _ _) rfl
          · intro K us W hK0 hB hd
            have hK := hid hK0; clear hK0
            have HBW := hid hB
            have e5 : us 5 = .pointer (some ⟨g, 0, none⟩) := hd ⟨5, Ground.data⟩ (by simp) rfl
            have e3 : us 3 = .int .i64 1 := hd ⟨3, Ground.data⟩ (by simp) rfl
            clear hd
            simp only [putF]
            rw [hA, e5, e3]
            go_frame
            go_wp2_with fail
            exact hK.out _ _ _ (by rw [hA]; simp only [putF]; rw [e5, e3]; kernel_rfl) (Below.refl _ _) rfl
          · intro K us W hK0 hB hd
            have hK := hid hK0; clear hK0
            have HBW := hid hB
            have e6 : us 6 = .pointer (some ⟨g, 1, none⟩) := hd ⟨6, Ground.data⟩ (by simp) rfl
            clear hd
            have z0 : W.cell? ⟨g, 1, none⟩ = some (.slice a1 n1 c1) := (HD.out.still hB).c1
            simp only [putF]
            rw [hA, e6]
            go_frame
            go_wp2_with fail
            exact hK.out _ _ _ (by rw [hA]; simp only [putF]; rw [e6]; kernel_rfl) (Below.refl _ _) rfl
          · intro K us W hK0 hB hd
            have hK := hid hK0; clear hK0
            have HBW := hid hB
            clear hd
            simp only [putF]
            rw [hA]
            go_frame
            go_wp2_with fail
            exact hK.out _ _ _ (by rw [hA]; simp only [putF]; kernel_rfl) (Below.refl _ _) rfl
          · intro K us W hK0 hB hd
            have hK := hid hK0; clear hK0
            have HBW := hid hB
            clear hd
            simp only [putF]
            rw [hA]
            go_frame
            go_wp2_with fail
            exact hK.out _ _ _ (by rw [hA]; simp only [putF]; kernel_rfl) (Below.refl _ _) rfl
          · intro K us W hK0 hB hd
            have hK := hid hK0; clear hK0
            have HBW := hid hB
            have e8 : us 8 = .pointer (some ⟨g, 0, none⟩) := hd ⟨8, Ground.data⟩ (by simp) rfl
            clear hd
            simp only [putF]
            rw [hA, e8]
            go_frame
            go_wp2_with fail
            exact hK.out _ _ _ (by rw [hA]; simp only [putF]; rw [e8]; kernel_rfl) (Below.refl _ _) rfl
          · intro K us W hK0 hB hd
            have hK := hid hK0; clear hK0
            have HBW := hid hB
            have e10 : us 10 = .pointer (some ⟨g, 0, none⟩) := hd ⟨10, Ground.data⟩ (by simp) rfl
            clear hd
            simp only [putF]
            rw [hA, e10]
            go_frame
            go_wp2_with fail
            exact hK.out _ _ _ (by rw [hA]; simp only [putF]; rw [e10]; kernel_rfl) (Below.refl _ _) rfl
          · intro K us W hK0 hB hd
            have hK := hid hK0; clear hK0
            have HBW := hid hB
            have e11 : us 11 = .pointer (some ⟨g, 2, none⟩) := hd ⟨11, Ground.data⟩ (by simp) rfl
            have e9 : us 9 = .int .i64 1 := hd ⟨9, Ground.data⟩ (by simp) rfl
            clear hd
            simp only [putF]
            rw [hA, e11, e9]
            go_frame
            go_wp2_with fail
            exact hK.out _ _ _ (by rw [hA]; simp only [putF]; rw [e11, e9]; kernel_rfl) (Below.refl _ _) rfl
          · intro K us W hK0 hB hd
            have hK := hid hK0; clear hK0
            have HBW := hid hB
            have e12 : us 12 = .pointer (some ⟨g, 3, none⟩) := hd ⟨12, Ground.data⟩ (by simp) rfl
            clear hd
            have z0 : W.cell? ⟨g, 3, none⟩ = some (.int .i64 (((s1 + p1 : Nat)) : Int)) := (HD.out.still hB).c3
            simp only [putF]
            rw [hA, e12]
            go_frame
            go_wp2_with fail
            exact hK.out _ _ _ (by rw [hA]; simp only [putF]; rw [e12]; kernel_rfl) (Below.refl _ _) rfl
          · intro K us W hK0 hB hd
            have hK := hid hK0; clear hK0
            have HBW := hid hB
            have e7 : us 7 = .slice a1 n1 c1 := hd ⟨7, Ground.data⟩ (by simp) rfl
            have e13 : us 13 = .int .i64 (((s1 + p1 : Nat)) : Int) := hd ⟨13, Ground.data⟩ (by simp) rfl
            clear hd
            have hcap := HCAP1.out
            simp only [putF]
            rw [hA, e7, e13]
            go_frame
            go_wp2_with fail
            exact hK.out _ _ _ (by rw [hA]; simp only [putF]; rw [e7, e13]; kernel_rfl) (Below.refl _ _) rfl
          · intro K us W hK0 hB hd
            have hK := hid hK0; clear hK0
            have HBW := hid hB
            have e0 : us 0 = .pointer (some ⟨g, 0, none⟩) := hd ⟨0, Ground.data⟩ (by simp) rfl
            clear hd
            simp only [putF]
            rw [hA, e0]
            go_frame
            go_wp2_with fail
            exact hK.out _ _ _ (by rw [hA]; simp only [putF]; rw [e0]; kernel_rfl) (Below.refl _ _) rfl
          · intro K us W hK0 hB hd
            have hK := hid hK0; clear hK0
            have HBW := hid hB
            have e15 : us 15 = .pointer (some ⟨g, 0, none⟩) := hd ⟨15, Ground.data⟩ (by simp) rfl
            clear hd
            simp only [putF]
            rw [hA, e15]
            go_frame
            go_wp2_with fail
            exact hK.out _ _ _ (by rw [hA]; simp only [putF]; rw [e15]; kernel_rfl) (Below.refl _ _) rfl
        case htT1 =>
          intro us Z1 hBB hp
          have e0 : us 0 = .pointer (some ⟨g, 0, none⟩) := hp 0 (by decide)
          have e1 : us 1 = .int .i64 1 := hp 1 (by decide)
          have e2 : us 2 = .pointer (some ⟨g, 0, none⟩) := hp 2 (by decide)
          have e3 : us 3 = .int .i64 1 := hp 3 (by decide)
          have e4 : us 4 = .pointer (some ⟨g, 0, none⟩) := hp 4 (by decide)
          have e5 : us 5 = .pointer (some ⟨g, 0, none⟩) := hp 5 (by decide)
          have e6 : us 6 = .pointer (some ⟨g, 1, none⟩) := hp 6 (by decide)
          have e7 : us 7 = .slice a1 n1 c1 := hp 7 (by decide)
          have e8 : us 8 = .pointer (some ⟨g, 0, none⟩) := hp 8 (by decide)
          have e9 : us 9 = .int .i64 1 := hp 9 (by decide)
          have e10 : us 10 = .pointer (some ⟨g, 0, none⟩) := hp 10 (by decide)
          have e11 : us 11 = .pointer (some ⟨g, 2, none⟩) := hp 11 (by decide)
          have e12 : us 12 = .pointer (some ⟨g, 3, none⟩) := hp 12 (by decide)
          have e13 : us 13 = .int .i64 (((s1 + p1 : Nat)) : Int) := hp 13 (by decide)
          have e14 : us 14 = .slice a1 (s1 + p1) c1 := hp 14 (by decide)
          have e15 : us 15 = .pointer (some ⟨g, 0, none⟩) := hp 15 (by decide)
          have e16 : us 16 = .pointer (some ⟨g, 0, none⟩) := hp 16 (by decide)
          clear hp
          have HD := hid (HD.out.still hBB)
          have HF := hid (HF.out.step hBB)
          have KP := hid (heap_still hBB KP.out)
          clear hBB
          have z1 : Z1.frozen? ⟨g, 1, none⟩ = false := by have hh := (HD.out).hg; simp [World.frozen?, hh]
          have z0 : Z1.cell? ⟨g, 1, none⟩ = some (.slice a1 n1 c1) := HD.out.c1
          refine seqs_step rfl ?_
          intro K hK0
          have hK := hid hK0; clear hK0
          simp only [putF]
          rw [hA, e0, e1, e2, e3, e4, e5, e6, e7, e8, e9, e10, e11, e12, e13, e14, e15, e16]
          go_frame
          go_wp2_with fail
          refine hK.out (.pointer (some ⟨g, 1, none⟩)) _ _ (by rw [hA]; simp only [putF]; rw [e0, e1, e2, e3, e4, e5, e6, e7, e8, e9, e10, e11, e12, e13, e14, e15, e16]; kernel_rfl) ?_
          clear hK hA e0 e1 e2 e3 e4 e5 e6 e7 e8 e9 e10 e11 e12 e13 e14 e15 e16
          refine seqs_step rfl ?_
          intro K hK0
          have hK := hid hK0; clear hK0
          go_wp2_with fail
          refine hK.out (undef) _ _ (by kernel_rfl) ?_
          clear hK
          refine seqs_end rfl ?_
          go_wp2_with fail
          clear z0 z1
          refine gen_world (fun U1 hU => ?_)
          have hgk : w.heap.size ≠ g := fun e => by have := HLT.out; omega
          have HD := hid (show DR U1 B g dn lf ⟨.slice a0 (s0 + p0) c0, b0.take (s0 + p0), s0 + p0⟩ ⟨.slice a1 (s1 + p1) c1, b1.take (s1 + p1), s1 + p1⟩ by rw [hU]; exact (HD.out.set 1 (.slice a1 (s1 + p1) c1)).swap1 (own_same (own_take HD.out.o1 HN1.out hq1) (fun k hk => Below.heap_setCell Z1 ⟨g, 1, none⟩ _ k (fun e => by have h1 : k = g := e; subst h1; exact HD.out.n1 ((slice_block _ _ _ _ _).trans hk)))) (fun e => HD.out.n1 ((slice_block _ _ _ _ _).trans e)) (fun k hk e => HD.out.n01 k hk ((slice_block _ _ _ _ _).trans e)))
          have HF := hid (show Fr (fun k => k = g) w U1 by rw [hU]; exact HF.out.trans (G := fun k => k = g) (Fr.set rfl) (fun _ _ h => h))
          have KP := hid (show U1.heap[w.heap.size]? = some (.cells #[.int .i64 k0, .int .i64 k1] 72) by rw [hU]; exact (Below.heap_setCell Z1 ⟨g, 1, none⟩ _ _ hgk).trans KP.out)
          clear hU hgk
          (try rw [rounds_succ])
          have y4 : U1.frozen? ⟨g, 4, none⟩ = false := by have hh := (HD.out).hg; simp [World.frozen?, hh]
          have y5 : U1.frozen? ⟨g, 5, none⟩ = false := by have hh := (HD.out).hg; simp [World.frozen?, hh]
          have x4 : U1.cell? ⟨g, 4, none⟩ = some (.bool dn) := HD.out.c4
          have x5 : U1.cell? ⟨g, 5, none⟩ = some (.int .i64 lf) := HD.out.c5
          go_wp2_with fail
          go_end0
          refine ⟨rfl, _, _, (HD.out.set 4 (.bool true)).set 5 (.int .i64 0), (HF.out.trans (G := fun k => k = g) (Fr.set rfl) (fun _ _ h => h)).trans (G := fun k => k = g) (Fr.set rfl) (fun _ _ h => h), ?_, ?_⟩
          · cases a0 <;> rfl
          · cases a1 <;> rfl
set_option maxRecDepth 100000 in
theorem rstart_up (g B : Nat) (lf : Int) (f0 f1 : Fl) (w : World) (h : DR w B g false lf f0 f1) :
    Calls Try.prog 79 #[.pointer (some ⟨g, 0, none⟩)] w fun r w' => r = .returned (.tuple #[]) ∧ Below w.heap.size w w' := by
  have c4 := h.c4
  clear h
  go_enter Try.func79, Try.ntmps79
  go_wp2_with fail
  go_end0
  exact ⟨rfl, Below.refl _ _⟩
set_option maxRecDepth 100000 in
theorem rstart_down (g B : Nat) (lf : Int) (f0 f1 : Fl) (w : World) (h : DR w B g true lf f0 f1) (hs0 : f0.s ≤ f0.b.length) (hn0 : f0.b.length ≤ 1000000) (hs1 : f1.s ≤ f1.b.length) (hn1 : f1.b.length ≤ 1000000) :
    Calls Try.prog 79 #[.pointer (some ⟨g, 0, none⟩)] w fun r w' => r = .returned (.tuple #[]) ∧ ∃ v0 v1, DR w' B g false 0 (lostF 0 f0 v0) (lostF 0 f1 v1) ∧ Fr (fun k => k = g) w w' ∧ v0.ownBlock = f0.v.ownBlock ∧ v1.ownBlock = f1.v.ownBlock := by
  have HC := hid (rcrash_any g B true lf 0 0 f0 f1 w h hs0 hn0 hs1 hn1)
  have c4 := h.c4
  clear h hs0 hn0 hs1 hn1
  go_enter Try.func79, Try.ntmps79
  go_wp2_with fail
  refine HC.out.mono ?_
  rintro r w2 ⟨rfl, v0, v1, hd, hf, h0, h1⟩
  have HD2 := hid hd
  have HF2 := hid hf
  have H0 := hid h0
  have H1 := hid h1
  have q4 : w2.cell? ⟨g, 4, none⟩ = some (.bool true) := HD2.out.c4
  have z4 : w2.frozen? ⟨g, 4, none⟩ = false := by have hh := (HD2.out).hg; simp [World.frozen?, hh]
  clear hd hf h0 h1
  go_wp2_with fail
  go_end0
  exact ⟨rfl, v0, v1, HD2.out.set 4 (.bool false), HF2.out.trans (G := fun k => k = g) (Fr.set rfl) (fun _ _ h => h), H0.out, H1.out⟩
end Go.Proofs.Yteanlcefdoigcaa
