/- The program's disk: Crash 76, Start 78. (Printed by wip/gen_diskk.py.) -/
import Derived.Test.YteanlcefdoigcaaDiskL
namespace Go.Proofs.Yteanlcefdoigcaa
open Go.RowKit

/-- a file behind a loss of power -/
def lostF (k : Int) (f : Fl) (v : Value) : Fl := ⟨v, f.b.take (f.s + keepN k f), f.s + keepN k f⟩
set_option maxRecDepth 100000 in
set_option maxHeartbeats 1600000 in
theorem xcrash_any (g B : Nat) (dn : Bool) (lf k0 k1 : Int) (f0 f1 : Fl) (w : World) (h : DX w B g dn lf f0 f1) (hs0 : f0.s ≤ f0.b.length) (hn0 : f0.b.length ≤ 1000000) (hs1 : f1.s ≤ f1.b.length) (hn1 : f1.b.length ≤ 1000000) (hB : B ≤ w.heap.size) :
    Calls Try.prog 76 #[.pointer (some ⟨g, 0, none⟩), .agg #[.int .i64 k0, .int .i64 k1]] w fun r w' => r = .returned (.tuple #[]) ∧ ∃ v0 v1, DX w' B g true 0 (lostF k0 f0 v0) (lostF k1 f1 v1) ∧ Fr (fun k => k = g) w w' ∧ (∀ k, v0.ownBlock = some k → w.heap.size ≤ k) ∧ ∀ k, v1.ownBlock = some k → w.heap.size ≤ k := by
  have H := hid h
  have HLT := hid (Dsk.lt h)
  have HL0 := hid (fun W f (h : DX W B g dn lf f0 f) (hB : B ≤ W.heap.size) => xlose0_any g B dn lf k0 f0 f W h hs0 hn0 hB)
  have HL1 := hid (fun W f (h : DX W B g dn lf f f1) (hB : B ≤ W.heap.size) => xlose1_any g B dn lf k1 f f1 W h hs1 hn1 hB)
  clear h hs0 hn0 hs1 hn1
  go_enter Try.func76, Try.ntmps76
  go_wp2_with fail
  refine (xnone_any g _ (H.out.still ((Below.refl _ _).alloc (Nat.le_refl _) _)).c0).mono ?_
  rintro r w1 ⟨rfl, hb⟩
  have HD := hid ((H.out.still ((Below.refl _ _).alloc (Nat.le_refl _) (.cells #[.int .i64 k0, .int .i64 k1] 72))).still hb)
  have HF := hid (show Fr (fun k => k = g) w w1 from (Fr.of_below ((Below.refl _ _).alloc (Nat.le_refl _) (.cells #[.int .i64 k0, .int .i64 k1] 72))).step hb)
  have KP := hid (heap_still hb (heap_alloc_at w (.cells #[.int .i64 k0, .int .i64 k1] 72) _ rfl))
  have hB1 : B ≤ w1.heap.size := by have := HF.out.size; omega
  clear hb
  go_wp2_with fail
  refine wp_loop_rounds 3 ?_
  rw [rounds_succ]
  go_wp2_with fail
  refine gen_act (fun A0 hA => ?_)
  refine wp_region_tail (by kernel_rfl) (by kernel_rfl) [some 10, some 11, some 12, some 13, some 14, some 15, some 16, some 17, some 18] rfl (by decide) 8 (by decide) (by kernel_rfl) (by kernel_rfl)
    [IsV (.pointer (some ⟨g, 0, none⟩)), IsV (.int .i64 0), IsV (.pointer (some ⟨g, 0, none⟩)), IsV (.pointer (some ⟨g, 3, none⟩)), IsV (.pointer (some ⟨g, 3, none⟩)), IsV (.int .i64 0), IsV (.pointer (some ⟨w.heap.size, 0, none⟩)), IsV (.int .i64 k0)]
    ⟨IsV.stb _, IsV.stb _, IsV.stb _, IsV.stb _, IsV.stb _, IsV.stb _, IsV.stb _, IsV.stb _, trivial⟩ ?hs0 ?ht0
  case hs0 =>
    refine ⟨?_, ?_, ?_, ?_, ?_, ?_, ?_, ?_, trivial⟩
    · intro K us W hK0 hB hd
      have hK := hid hK0; clear hK0
      have HBW := hid hB
      clear hd
      simp only [putF]
      rw [hA]
      go_frame
      go_wp2_with fail
      exact hK.out _ _ _ (by rw [hA]; simp only [putF]; kernel_rfl) (Below.refl _ _) rfl
    · intro K us W hK0 hB hd
      have hK := hid hK0; clear hK0
      have HBW := hid hB
      clear hd
      simp only [putF]
      rw [hA]
      go_frame
      go_wp2_with fail
      exact hK.out _ _ _ (by rw [hA]; simp only [putF]; kernel_rfl) (Below.refl _ _) rfl
    · intro K us W hK0 hB hd
      have hK := hid hK0; clear hK0
      have HBW := hid hB
      have e0 : us 0 = .pointer (some ⟨g, 0, none⟩) := hd ⟨0, Ground.data⟩ (by simp) rfl
      clear hd
      simp only [putF]
      rw [hA, e0]
      go_frame
      go_wp2_with fail
      exact hK.out _ _ _ (by rw [hA]; simp only [putF]; rw [e0]; kernel_rfl) (Below.refl _ _) rfl
    · intro K us W hK0 hB hd
      have hK := hid hK0; clear hK0
      have HBW := hid hB
      have e2 : us 2 = .pointer (some ⟨g, 0, none⟩) := hd ⟨2, Ground.data⟩ (by simp) rfl
      clear hd
      simp only [putF]
      rw [hA, e2]
      go_frame
      go_wp2_with fail
      exact hK.out _ _ _ (by rw [hA]; simp only [putF]; rw [e2]; kernel_rfl) (Below.refl _ _) rfl
    · intro K us W hK0 hB hd
      have hK := hid hK0; clear hK0
      have HBW := hid hB
      have e3 : us 3 = .pointer (some ⟨g, 3, none⟩) := hd ⟨3, Ground.data⟩ (by simp) rfl
      have e1 : us 1 = .int .i64 0 := hd ⟨1, Ground.data⟩ (by simp) rfl
      clear hd
      simp only [putF]
      rw [hA, e3, e1]
      go_frame
      go_wp2_with fail
      exact hK.out _ _ _ (by rw [hA]; simp only [putF]; rw [e3, e1]; kernel_rfl) (Below.refl _ _) rfl
    · intro K us W hK0 hB hd
      have hK := hid hK0; clear hK0
      have HBW := hid hB
      clear hd
      simp only [putF]
      rw [hA]
      go_frame
      go_wp2_with fail
      exact hK.out _ _ _ (by rw [hA]; simp only [putF]; kernel_rfl) (Below.refl _ _) rfl
    · intro K us W hK0 hB hd
      have hK := hid hK0; clear hK0
      have HBW := hid hB
      have e5 : us 5 = .int .i64 0 := hd ⟨5, Ground.data⟩ (by simp) rfl
      clear hd
      simp only [putF]
      rw [hA, e5]
      go_frame
      go_wp2_with fail
      exact hK.out _ _ _ (by rw [hA]; simp only [putF]; rw [e5]; kernel_rfl) (Below.refl _ _) rfl
    · intro K us W hK0 hB hd
      have hK := hid hK0; clear hK0
      have HBW := hid hB
      have e6 : us 6 = .pointer (some ⟨w.heap.size, 0, none⟩) := hd ⟨6, Ground.data⟩ (by simp) rfl
      clear hd
      have c0 : W.cell? ⟨w.heap.size, 0, none⟩ = some (.int .i64 k0) := (cell_row (j := 0) (heap_still hB KP.out)).trans rfl
      simp only [putF]
      rw [hA, e6]
      go_frame
      go_wp2_with fail
      exact hK.out _ _ _ (by rw [hA]; simp only [putF]; rw [e6]; kernel_rfl) (Below.refl _ _) rfl
  case ht0 =>
    intro us W0a hBB hp
    have e0 : us 0 = .pointer (some ⟨g, 0, none⟩) := hp 0 (by decide)
    have e1 : us 1 = .int .i64 0 := hp 1 (by decide)
    have e2 : us 2 = .pointer (some ⟨g, 0, none⟩) := hp 2 (by decide)
    have e3 : us 3 = .pointer (some ⟨g, 3, none⟩) := hp 3 (by decide)
    have e4 : us 4 = .pointer (some ⟨g, 3, none⟩) := hp 4 (by decide)
    have e5 : us 5 = .int .i64 0 := hp 5 (by decide)
    have e6 : us 6 = .pointer (some ⟨w.heap.size, 0, none⟩) := hp 6 (by decide)
    have e7 : us 7 = .int .i64 k0 := hp 7 (by decide)
    clear hp
    have HD := hid (HD.out.still hBB)
    have HF := hid (HF.out.step hBB)
    have KP := hid (heap_still hBB KP.out)
    have hB2 : B ≤ W0a.heap.size := by have := hBB.size; omega
    clear hBB
    refine seqs_step rfl ?_
    intro K hK0
    have hK := hid hK0; clear hK0
    simp only [putF]
    rw [hA, e0, e1, e2, e3, e4, e5, e6, e7]
    go_frame
    go_wp2_with fail
    refine (HL0.out _ _ HD.out hB2).mono ?_
    rintro r w2 ⟨rfl, v0, hd, hf, hnew⟩
    have HNW0 := hid (fun k (hk : v0.ownBlock = some k) => show w.heap.size ≤ k by have h1 := hnew k hk; have h2 := HF.out.size; omega)
    clear hnew
    have KP := hid ((hf.block _ (Array.getElem?_eq_some_iff.1 KP.out).1 (fun e => by have h1 : w.heap.size = g := e; have := HLT.out; omega)).trans KP.out)
    have HD := hid hd
    have HF := hid (HF.out.trans (G := fun k => k = g) hf (fun _ _ h => h))
    have hB2b : B ≤ w2.heap.size := by have := hf.size; omega
    clear hd hf
    go_wp2_with fail
    refine hK.out (.tuple #[]) _ _ (by rw [hA]; simp only [putF]; rw [e0, e1, e2, e3, e4, e5, e6, e7]; kernel_rfl) ?_
    clear hK hA e0 e1 e2 e3 e4 e5 e6 e7
    refine seqs_end rfl ?_
    go_wp2_with fail
    rw [rounds_succ]
    replace hB1 : B ≤ w2.heap.size := hB2b
    go_wp2_with fail
    refine gen_act (fun A1 hA => ?_)
    refine wp_region_tail (by kernel_rfl) (by kernel_rfl) [some 10, some 11, some 12, some 13, some 14, some 15, some 16, some 17, some 18] rfl (by decide) 8 (by decide) (by kernel_rfl) (by kernel_rfl)
      [IsV (.pointer (some ⟨g, 0, none⟩)), IsV (.int .i64 1), IsV (.pointer (some ⟨g, 0, none⟩)), IsV (.pointer (some ⟨g, 3, none⟩)), IsV (.pointer (some ⟨g, 5, none⟩)), IsV (.int .i64 1), IsV (.pointer (some ⟨w.heap.size, 1, none⟩)), IsV (.int .i64 k1)]
      ⟨IsV.stb _, IsV.stb _, IsV.stb _, IsV.stb _, IsV.stb _, IsV.stb _, IsV.stb _, IsV.stb _, trivial⟩ ?hs1 ?ht1
    case hs1 =>
      refine ⟨?_, ?_, ?_, ?_, ?_, ?_, ?_, ?_, trivial⟩
      · intro K us W hK0 hB hd
        have hK := hid hK0; clear hK0
        have HBW := hid hB
        clear hd
        simp only [putF]
        rw [hA]
        go_frame
        go_wp2_with fail
        exact hK.out _ _ _ (by rw [hA]; simp only [putF]; kernel_rfl) (Below.refl _ _) rfl
      · intro K us W hK0 hB hd
        have hK := hid hK0; clear hK0
        have HBW := hid hB
        clear hd
        simp only [putF]
        rw [hA]
        go_frame
        go_wp2_with fail
        exact hK.out _ _ _ (by rw [hA]; simp only [putF]; kernel_rfl) (Below.refl _ _) rfl
      · intro K us W hK0 hB hd
        have hK := hid hK0; clear hK0
        have HBW := hid hB
        have e0 : us 0 = .pointer (some ⟨g, 0, none⟩) := hd ⟨0, Ground.data⟩ (by simp) rfl
        clear hd
        simp only [putF]
        rw [hA, e0]
        go_frame
        go_wp2_with fail
        exact hK.out _ _ _ (by rw [hA]; simp only [putF]; rw [e0]; kernel_rfl) (Below.refl _ _) rfl
      · intro K us W hK0 hB hd
        have hK := hid hK0; clear hK0
        have HBW := hid hB
        have e2 : us 2 = .pointer (some ⟨g, 0, none⟩) := hd ⟨2, Ground.data⟩ (by simp) rfl
        clear hd
        simp only [putF]
        rw [hA, e2]
        go_frame
        go_wp2_with fail
        exact hK.out _ _ _ (by rw [hA]; simp only [putF]; rw [e2]; kernel_rfl) (Below.refl _ _) rfl
      · intro K us W hK0 hB hd
        have hK := hid hK0; clear hK0
        have HBW := hid hB
        have e3 : us 3 = .pointer (some ⟨g, 3, none⟩) := hd ⟨3, Ground.data⟩ (by simp) rfl
        have e1 : us 1 = .int .i64 1 := hd ⟨1, Ground.data⟩ (by simp) rfl
        clear hd
        simp only [putF]
        rw [hA, e3, e1]
        go_frame
        go_wp2_with fail
        exact hK.out _ _ _ (by rw [hA]; simp only [putF]; rw [e3, e1]; kernel_rfl) (Below.refl _ _) rfl
      · intro K us W hK0 hB hd
        have hK := hid hK0; clear hK0
        have HBW := hid hB
        clear hd
        simp only [putF]
        rw [hA]
        go_frame
        go_wp2_with fail
        exact hK.out _ _ _ (by rw [hA]; simp only [putF]; kernel_rfl) (Below.refl _ _) rfl
      · intro K us W hK0 hB hd
        have hK := hid hK0; clear hK0
        have HBW := hid hB
        have e5 : us 5 = .int .i64 1 := hd ⟨5, Ground.data⟩ (by simp) rfl
        clear hd
        simp only [putF]
        rw [hA, e5]
        go_frame
        go_wp2_with fail
        exact hK.out _ _ _ (by rw [hA]; simp only [putF]; rw [e5]; kernel_rfl) (Below.refl _ _) rfl
      · intro K us W hK0 hB hd
        have hK := hid hK0; clear hK0
        have HBW := hid hB
        have e6 : us 6 = .pointer (some ⟨w.heap.size, 1, none⟩) := hd ⟨6, Ground.data⟩ (by simp) rfl
        clear hd
        have c0 : W.cell? ⟨w.heap.size, 1, none⟩ = some (.int .i64 k1) := (cell_row (j := 1) (heap_still hB KP.out)).trans rfl
        simp only [putF]
        rw [hA, e6]
        go_frame
        go_wp2_with fail
        exact hK.out _ _ _ (by rw [hA]; simp only [putF]; rw [e6]; kernel_rfl) (Below.refl _ _) rfl
    case ht1 =>
      intro us W1a hBB hp
      have e0 : us 0 = .pointer (some ⟨g, 0, none⟩) := hp 0 (by decide)
      have e1 : us 1 = .int .i64 1 := hp 1 (by decide)
      have e2 : us 2 = .pointer (some ⟨g, 0, none⟩) := hp 2 (by decide)
      have e3 : us 3 = .pointer (some ⟨g, 3, none⟩) := hp 3 (by decide)
      have e4 : us 4 = .pointer (some ⟨g, 5, none⟩) := hp 4 (by decide)
      have e5 : us 5 = .int .i64 1 := hp 5 (by decide)
      have e6 : us 6 = .pointer (some ⟨w.heap.size, 1, none⟩) := hp 6 (by decide)
      have e7 : us 7 = .int .i64 k1 := hp 7 (by decide)
      clear hp
      have HD := hid (HD.out.still hBB)
      have HF := hid (HF.out.step hBB)
      have KP := hid (heap_still hBB KP.out)
      have hB3 : B ≤ W1a.heap.size := by have := hBB.size; omega
      clear hBB
      refine seqs_step rfl ?_
      intro K hK0
      have hK := hid hK0; clear hK0
      simp only [putF]
      rw [hA, e0, e1, e2, e3, e4, e5, e6, e7]
      go_frame
      go_wp2_with fail
      refine (HL1.out _ _ HD.out hB3).mono ?_
      rintro r w3 ⟨rfl, v1, hd, hf, hnew⟩
      have HNW1 := hid (fun k (hk : v1.ownBlock = some k) => show w.heap.size ≤ k by have h1 := hnew k hk; have h2 := HF.out.size; omega)
      clear hnew
      have HD := hid hd
      have HF := hid (HF.out.trans (G := fun k => k = g) hf (fun _ _ h => h))
      have hB3b : B ≤ w3.heap.size := by have := hf.size; omega
      clear hd hf
      go_wp2_with fail
      refine hK.out (.tuple #[]) _ _ (by rw [hA]; simp only [putF]; rw [e0, e1, e2, e3, e4, e5, e6, e7]; kernel_rfl) ?_
      clear hK hA e0 e1 e2 e3 e4 e5 e6 e7
      refine seqs_end rfl ?_
      go_wp2_with fail
      rw [rounds_succ]
      have c1 : w3.cell? ⟨g, 1, none⟩ = some (.bool dn) := HD.out.c1
      have z1 : w3.frozen? ⟨g, 1, none⟩ = false := by have hh := (HD.out).hg; simp [World.frozen?, hh]
      go_upto_region 8 with fail
      clear c1 z1
      refine gen_world (fun W7 hW7 => ?_)
      have D7 := hid (show DX W7 B g true lf (lostF k0 f0 v0) (lostF k1 f1 v1) by rw [hW7]; exact HD.out.set 1 (.bool true))
      have F7 := hid (show Fr (fun k => k = g) w W7 by rw [hW7]; exact HF.out.trans (G := fun k => k = g) (Fr.set rfl) (fun _ _ h => h))
      clear hW7
      have c2 : W7.cell? ⟨g, 2, none⟩ = some (.int .i64 lf) := D7.out.c2
      have z2 : W7.frozen? ⟨g, 2, none⟩ = false := by have hh := (D7.out).hg; simp [World.frozen?, hh]
      go_wp2_with fail
      go_end0
      exact ⟨rfl, v0, v1, D7.out.set 2 (.int .i64 0), F7.out.trans (G := fun k => k = g) (Fr.set rfl) (fun _ _ h => h), HNW0.out, HNW1.out⟩
set_option maxRecDepth 100000 in
theorem xstart_up (g B : Nat) (lf : Int) (f0 f1 : Fl) (w : World) (h : DX w B g false lf f0 f1) :
    Calls Try.prog 78 #[.pointer (some ⟨g, 0, none⟩)] w fun r w' => r = .returned (.tuple #[]) ∧ Below w.heap.size w w' := by
  have H := hid h
  clear h
  go_enter Try.func78, Try.ntmps78
  go_wp2_with fail
  refine (xnone_any g _ H.out.c0).mono ?_
  rintro r w1 ⟨rfl, hb⟩
  have c1 := (H.out.still hb).c1
  go_wp2_with fail
  refine bodyPost_ret (results_none rfl _ _ _) rfl ?_
  exact ⟨rfl, hb⟩
set_option maxRecDepth 100000 in
theorem xstart_down (g B : Nat) (lf : Int) (f0 f1 : Fl) (w : World) (h : DX w B g true lf f0 f1) (hs0 : f0.s ≤ f0.b.length) (hn0 : f0.b.length ≤ 1000000) (hs1 : f1.s ≤ f1.b.length) (hn1 : f1.b.length ≤ 1000000) (hB : B ≤ w.heap.size) :
    Calls Try.prog 78 #[.pointer (some ⟨g, 0, none⟩)] w fun r w' => r = .returned (.tuple #[]) ∧ ∃ v0 v1, DX w' B g false 0 (lostF 0 f0 v0) (lostF 0 f1 v1) ∧ Fr (fun k => k = g) w w' ∧ (∀ k, v0.ownBlock = some k → w.heap.size ≤ k) ∧ ∀ k, v1.ownBlock = some k → w.heap.size ≤ k := by
  have H := hid h
  have HC := hid (fun W (h : DX W B g true lf f0 f1) (hB : B ≤ W.heap.size) => xcrash_any g B true lf 0 0 f0 f1 W h hs0 hn0 hs1 hn1 hB)
  clear h hs0 hn0 hs1 hn1
  go_enter Try.func78, Try.ntmps78
  go_wp2_with fail
  refine (xnone_any g _ H.out.c0).mono ?_
  rintro r w1 ⟨rfl, hb⟩
  have HD := hid (H.out.still hb)
  have HF := hid (Fr.of_below (F := fun k => k = g) hb)
  have hB1 : B ≤ w1.heap.size := by have := hb.size; omega
  have c1 := HD.out.c1
  clear hb
  go_wp2_with fail
  refine (HC.out _ HD.out hB1).mono ?_
  rintro r w2 ⟨rfl, v0, v1, hd, hf, hn0, hn1⟩
  have HN0 := hid hn0
  have HN1 := hid hn1
  have HD2 := hid hd
  have HF2 := hid (HF.out.trans (G := fun k => k = g) hf (fun _ _ h => h))
  have q1 : w2.cell? ⟨g, 1, none⟩ = some (.bool true) := HD2.out.c1
  have z1 : w2.frozen? ⟨g, 1, none⟩ = false := by have hh := (HD2.out).hg; simp [World.frozen?, hh]
  clear hd hf c1 hn0 hn1
  go_wp2_with fail
  go_end0
  exact ⟨rfl, v0, v1, HD2.out.set 1 (.bool false), HF2.out.trans (G := fun k => k = g) (Fr.set rfl) (fun _ _ h => h), fun k hk => by have h1 := HN0.out k hk; have h2 := HF.out.size; omega, fun k hk => by have h1 := HN1.out k hk; have h2 := HF.out.size; omega⟩
end Go.Proofs.Yteanlcefdoigcaa
