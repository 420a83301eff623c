/- The reference's disk: Sync 71, Clear 73, Read 81. (Printed by wip/gen_disks.py.) -/
import Derived.Test.YteanlcefdoigcaaDiskR
namespace Go.Proofs.Yteanlcefdoigcaa
open Go.RowKit

theorem all_on {a : Array Edge} {L : Nat → Bool} (h : (a.all fun e => !Region.binds .any e || L e.on) = true) (e : Edge) (he : e ∈ a) (hb : Region.binds .any e = true) : L e.on = true := by
  rw [Array.all_eq_true'] at h
  have := h e he
  rw [hb] at this
  simpa using this
set_option maxRecDepth 100000 in
set_option maxHeartbeats 800000 in
theorem rsync_any (g B : Nat) (dn : Bool) (lf i : Int) (f0 f1 : Fl) (w : World) (h : DR w B g dn lf f0 f1) (h0 : 0 ≤ lf) (hl : lf ≤ 9223372036854775807) :
    Calls Try.prog 71 #[.pointer (some ⟨g, 0, none⟩), .int .i64 i] w fun r w' => r = .returned (.int .i64 (errV i dn lf)) ∧ DR w' B g (dnV i dn lf) (lfV i dn lf) (fl0 i dn lf f0 ⟨f0.v, f0.b, f0.b.length⟩) (fl1 i dn lf f1 ⟨f1.v, f1.b, f1.b.length⟩) ∧ Fr (fun k => k = g) w w' := by
  by_cases hr : refV i dn ≠ 0
  · have hok := no_ok (lf := lf) hr
    rw [fl0_no hok, fl1_no hok, show errV i dn lf = refV i dn from if_pos hr, show dnV i dn lf = dn from if_pos hr, show lfV i dn lf = lf from if_pos hr]
    have H := hid h
    have HC := hid (rready_ref g B dn lf i f0 f1 w true h hr)
    clear h hok
    generalize refV i dn = e at *
    have d1 : (e != 0) = true := by simpa using hr
    go_enter Try.func71, Try.ntmps71
    go_wp2_with fail
    refine HC.out.mono ?_
    rintro r w1 ⟨rfl, hb⟩
    go_wp2_with fail
    go_ret
    exact ⟨rfl, H.out.still hb, Fr.of_below hb⟩
  replace hr : refV i dn = 0 := by simpa using hr
  obtain ⟨rfl, hi⟩ := refV_range hr
  rw [show errV i false lf = if lf = 1 then 82 else 0 from if_neg (by simpa using hr), show dnV i false lf = decide (lf = 1) from if_neg (by simpa using hr), show lfV i false lf = spL lf from if_neg (by simpa using hr)]
  have HC := hid (rready_any g B lf i f0 f1 w h h0 hl hi)
  by_cases h1 : lf = 1
  · have hok : okB i false lf = false := by simp [okB, h1]
    rw [fl0_no hok, fl1_no hok, if_pos h1]
    rw [if_pos h1] at HC
    clear h h1 hok hr hi
    go_enter Try.func71, Try.ntmps71
    go_wp2_with fail
    refine HC.out.mono ?_
    rintro r w1 ⟨rfl, hd, hf⟩
    have HD := hid hd
    have HF := hid hf
    clear hd hf
    go_wp2_with fail
    go_ret
    exact ⟨rfl, HD.out, HF.out⟩
  rw [if_neg h1, show decide (lf = 1) = false from decide_eq_false h1]
  rw [if_neg h1, show decide (lf = 1) = false from decide_eq_false h1] at HC
  have hok : okB i false lf = true := by simp [okB, h1, hr]
  rcases hi with rfl | rfl
  · rw [show fl0 0 false lf f0 ⟨f0.v, f0.b, f0.b.length⟩ = ⟨f0.v, f0.b, f0.b.length⟩ from if_pos ⟨hok, rfl⟩, show fl1 0 false lf f1 ⟨f1.v, f1.b, f1.b.length⟩ = f1 from if_neg (by rintro ⟨_, h⟩; exact absurd h (by decide))]
    clear h h1 hok hr
    generalize spL lf = lf2 at *
    go_enter Try.func71, Try.ntmps71
    go_wp2_with fail
    refine HC.out.mono ?_
    rintro r w1 ⟨rfl, hd, hf⟩
    have HD := hid hd
    have HF := hid hf
    clear hd hf
    obtain ⟨v, b, s⟩ := f0
    obtain ⟨a, c, hv⟩ := own_slice HD.out.o0
    obtain rfl : v = .slice a b.length c := hv
    go_wp2_with fail
    refine gen_act (fun A0 hA => ?_)
    refine wp_region_tail (by kernel_rfl) (by kernel_rfl) [some 12, some 13, some 14, some 15, some 16, some 17, some 18, some 19, some 20, some 21, some 22, some 23, none] rfl (by decide) 11 (by decide) (by kernel_rfl) (by kernel_rfl)
      [IsV (.pointer (some ⟨g, 0, none⟩)), IsV (.int .i64 0), IsV (.pointer (some ⟨g, 0, none⟩)), IsV (.int .i64 0), IsV (.pointer (some ⟨g, 0, none⟩)), IsV (.pointer (some ⟨g, 0, none⟩)), IsV (.pointer (some ⟨g, 0, none⟩)), IsV (.slice a b.length c), IsV (.int .i64 (b.length : Int)), IsV (.pointer (some ⟨g, 0, none⟩)), IsV (.pointer (some ⟨g, 2, none⟩))]
      ⟨IsV.stb _, IsV.stb _, IsV.stb _, IsV.stb _, IsV.stb _, IsV.stb _, IsV.stb _, IsV.stb _, IsV.stb _, IsV.stb _, IsV.stb _, trivial⟩ ?hsS0 ?htS0
    case hsS0 =>
      refine ⟨?_, ?_, ?_, ?_, ?_, ?_, ?_, ?_, ?_, ?_, ?_, trivial⟩
      · intro K us W hK0 hB hd
        have hK := hid hK0; clear hK0
        have HBW := hid hB
        clear hd
        simp only [putF]
        rw [hA]
        go_frame
        go_wp2_with fail
        exact hK.out _ _ _ (by rw [hA]; simp only [putF]; kernel_rfl) (Below.refl _ _) rfl
      · intro K us W hK0 hB hd
        have hK := hid hK0; clear hK0
        have HBW := hid hB
        clear hd
        simp only [putF]
        rw [hA]
        go_frame
        go_wp2_with fail
        exact hK.out _ _ _ (by rw [hA]; simp only [putF]; kernel_rfl) (Below.refl _ _) rfl
      · intro K us W hK0 hB hd
        have hK := hid hK0; clear hK0
        have HBW := hid hB
        clear hd
        simp only [putF]
        rw [hA]
        go_frame
        go_wp2_with fail
        exact hK.out _ _ _ (by rw [hA]; simp only [putF]; kernel_rfl) (Below.refl _ _) rfl
      · intro K us W hK0 hB hd
        have hK := hid hK0; clear hK0
        have HBW := hid hB
        clear hd
        simp only [putF]
        rw [hA]
        go_frame
        go_wp2_with fail
        exact hK.out _ _ _ (by rw [hA]; simp only [putF]; kernel_rfl) (Below.refl _ _) rfl
      · intro K us W hK0 hB hd
        have hK := hid hK0; clear hK0
        have HBW := hid hB
        have e2 : us 2 = .pointer (some ⟨g, 0, none⟩) := hd ⟨2, Ground.data⟩ (by simp) rfl
        clear hd
        simp only [putF]
        rw [hA, e2]
        go_frame
        go_wp2_with fail
        exact hK.out _ _ _ (by rw [hA]; simp only [putF]; rw [e2]; kernel_rfl) (Below.refl _ _) rfl
      · intro K us W hK0 hB hd
        have hK := hid hK0; clear hK0
        have HBW := hid hB
        have e4 : us 4 = .pointer (some ⟨g, 0, none⟩) := hd ⟨4, Ground.data⟩ (by simp) rfl
        clear hd
        simp only [putF]
        rw [hA, e4]
        go_frame
        go_wp2_with fail
        exact hK.out _ _ _ (by rw [hA]; simp only [putF]; rw [e4]; kernel_rfl) (Below.refl _ _) rfl
      · intro K us W hK0 hB hd
        have hK := hid hK0; clear hK0
        have HBW := hid hB
        have e5 : us 5 = .pointer (some ⟨g, 0, none⟩) := hd ⟨5, Ground.data⟩ (by simp) rfl
        have e3 : us 3 = .int .i64 0 := hd ⟨3, Ground.data⟩ (by simp) rfl
        clear hd
        simp only [putF]
        rw [hA, e5, e3]
        go_frame
        go_wp2_with fail
        exact hK.out _ _ _ (by rw [hA]; simp only [putF]; rw [e5, e3]; kernel_rfl) (Below.refl _ _) rfl
      · intro K us W hK0 hB hd
        have hK := hid hK0; clear hK0
        have HBW := hid hB
        have e6 : us 6 = .pointer (some ⟨g, 0, none⟩) := hd ⟨6, Ground.data⟩ (by simp) rfl
        clear hd
        have c0 : W.cell? ⟨g, 0, none⟩ = some (.slice a b.length c) := (HD.out.still hB).c0
        simp only [putF]
        rw [hA, e6]
        go_frame
        go_wp2_with fail
        exact hK.out _ _ _ (by rw [hA]; simp only [putF]; rw [e6]; kernel_rfl) (Below.refl _ _) rfl
      · intro K us W hK0 hB hd
        have hK := hid hK0; clear hK0
        have HBW := hid hB
        have e7 : us 7 = .slice a b.length c := hd ⟨7, Ground.data⟩ (by simp) rfl
        clear hd
        simp only [putF]
        rw [hA, e7]
        go_frame
        go_wp2_with fail
        exact hK.out _ _ _ (by rw [hA]; simp only [putF]; rw [e7]; kernel_rfl) (Below.refl _ _) rfl
      · intro K us W hK0 hB hd
        have hK := hid hK0; clear hK0
        have HBW := hid hB
        have e0 : us 0 = .pointer (some ⟨g, 0, none⟩) := hd ⟨0, Ground.data⟩ (by simp) rfl
        clear hd
        simp only [putF]
        rw [hA, e0]
        go_frame
        go_wp2_with fail
        exact hK.out _ _ _ (by rw [hA]; simp only [putF]; rw [e0]; kernel_rfl) (Below.refl _ _) rfl
      · intro K us W hK0 hB hd
        have hK := hid hK0; clear hK0
        have HBW := hid hB
        have e9 : us 9 = .pointer (some ⟨g, 0, none⟩) := hd ⟨9, Ground.data⟩ (by simp) rfl
        clear hd
        simp only [putF]
        rw [hA, e9]
        go_frame
        go_wp2_with fail
        exact hK.out _ _ _ (by rw [hA]; simp only [putF]; rw [e9]; kernel_rfl) (Below.refl _ _) rfl
    case htS0 =>
      intro us W2 hBB hp
      have e0 : us 0 = .pointer (some ⟨g, 0, none⟩) := hp 0 (by decide)
      have e1 : us 1 = .int .i64 0 := hp 1 (by decide)
      have e2 : us 2 = .pointer (some ⟨g, 0, none⟩) := hp 2 (by decide)
      have e3 : us 3 = .int .i64 0 := hp 3 (by decide)
      have e4 : us 4 = .pointer (some ⟨g, 0, none⟩) := hp 4 (by decide)
      have e5 : us 5 = .pointer (some ⟨g, 0, none⟩) := hp 5 (by decide)
      have e6 : us 6 = .pointer (some ⟨g, 0, none⟩) := hp 6 (by decide)
      have e7 : us 7 = .slice a b.length c := hp 7 (by decide)
      have e8 : us 8 = .int .i64 (b.length : Int) := hp 8 (by decide)
      have e9 : us 9 = .pointer (some ⟨g, 0, none⟩) := hp 9 (by decide)
      have e10 : us 10 = .pointer (some ⟨g, 2, none⟩) := hp 10 (by decide)
      clear hp
      have HD := hid (HD.out.still hBB)
      have HF := hid (HF.out.step hBB)
      clear hBB
      have z1 : W2.frozen? ⟨g, 2, none⟩ = false := by have hh := (HD.out).hg; simp [World.frozen?, hh]
      have z0 : ∃ x, W2.cell? ⟨g, 2, none⟩ = some x := ⟨_, HD.out.c2⟩
      obtain ⟨x, z0⟩ := z0
      refine seqs_step rfl ?_
      intro K hK0
      have hK := hid hK0; clear hK0
      simp only [putF]
      rw [hA, e0, e1, e2, e3, e4, e5, e6, e7, e8, e9, e10]
      go_frame
      go_wp2_with fail
      refine hK.out (.pointer (some ⟨g, 2, none⟩)) _ _ (by rw [hA]; simp only [putF]; rw [e0, e1, e2, e3, e4, e5, e6, e7, e8, e9, e10]; kernel_rfl) ?_
      clear hK hA e0 e1 e2 e3 e4 e5 e6 e7 e8 e9 e10
      refine seqs_step rfl ?_
      intro K hK0
      have hK := hid hK0; clear hK0
      go_wp2_with fail
      refine hK.out (undef) _ _ (by kernel_rfl) ?_
      clear hK
      refine seqs_end rfl ?_
      go_wp2_with fail
      go_ret
      exact ⟨rfl, (HD.out.set 2 (.int .i64 (b.length : Int)) : Dsk _ B g 74 _ _ _).refile, HF.out.trans (G := fun k => k = g) (Fr.set rfl) (fun _ _ h => h)⟩
  · rw [show fl1 1 false lf f1 ⟨f1.v, f1.b, f1.b.length⟩ = ⟨f1.v, f1.b, f1.b.length⟩ from if_pos ⟨hok, rfl⟩, show fl0 1 false lf f0 ⟨f0.v, f0.b, f0.b.length⟩ = f0 from if_neg (by rintro ⟨_, h⟩; exact absurd h (by decide))]
    clear h h1 hok hr
    generalize spL lf = lf2 at *
    go_enter Try.func71, Try.ntmps71
    go_wp2_with fail
    refine HC.out.mono ?_
    rintro r w1 ⟨rfl, hd, hf⟩
    have HD := hid hd
    have HF := hid hf
    clear hd hf
    obtain ⟨v, b, s⟩ := f1
    obtain ⟨a, c, hv⟩ := own_slice HD.out.o1
    obtain rfl : v = .slice a b.length c := hv
    go_wp2_with fail
    refine gen_act (fun A0 hA => ?_)
    refine wp_region_tail (by kernel_rfl) (by kernel_rfl) [some 12, some 13, some 14, some 15, some 16, some 17, some 18, some 19, some 20, some 21, some 22, some 23, none] rfl (by decide) 11 (by decide) (by kernel_rfl) (by kernel_rfl)
      [IsV (.pointer (some ⟨g, 0, none⟩)), IsV (.int .i64 1), IsV (.pointer (some ⟨g, 0, none⟩)), IsV (.int .i64 1), IsV (.pointer (some ⟨g, 0, none⟩)), IsV (.pointer (some ⟨g, 0, none⟩)), IsV (.pointer (some ⟨g, 1, none⟩)), IsV (.slice a b.length c), IsV (.int .i64 (b.length : Int)), IsV (.pointer (some ⟨g, 0, none⟩)), IsV (.pointer (some ⟨g, 2, none⟩))]
      ⟨IsV.stb _, IsV.stb _, IsV.stb _, IsV.stb _, IsV.stb _, IsV.stb _, IsV.stb _, IsV.stb _, IsV.stb _, IsV.stb _, IsV.stb _, trivial⟩ ?hsS1 ?htS1
    case hsS1 =>
      refine ⟨?_, ?_, ?_, ?_, ?_, ?_, ?_, ?_, ?_, ?_, ?_, trivial⟩
      · intro K us W hK0 hB hd
        have hK := hid hK0; clear hK0
        have HBW := hid hB
        clear hd
        simp only [putF]
        rw [hA]
        go_frame
        go_wp2_with fail
        exact hK.out _ _ _ (by rw [hA]; simp only [putF]; kernel_rfl) (Below.refl _ _) rfl
      · intro K us W hK0 hB hd
        have hK := hid hK0; clear hK0
        have HBW := hid hB
        clear hd
        simp only [putF]
        rw [hA]
        go_frame
        go_wp2_with fail
        exact hK.out _ _ _ (by rw [hA]; simp only [putF]; kernel_rfl) (Below.refl _ _) rfl
      · intro K us W hK0 hB hd
        have hK := hid hK0; clear hK0
        have HBW := hid hB
        clear hd
        simp only [putF]
        rw [hA]
        go_frame
        go_wp2_with fail
        exact hK.out _ _ _ (by rw [hA]; simp only [putF]; kernel_rfl) (Below.refl _ _) rfl
      · intro K us W hK0 hB hd
        have hK := hid hK0; clear hK0
        have HBW := hid hB
        clear hd
        simp only [putF]
        rw [hA]
        go_frame
        go_wp2_with fail
        exact hK.out _ _ _ (by rw [hA]; simp only [putF]; kernel_rfl) (Below.refl _ _) rfl
      · intro K us W hK0 hB hd
        have hK := hid hK0; clear hK0
        have HBW := hid hB
        have e2 : us 2 = .pointer (some ⟨g, 0, none⟩) := hd ⟨2, Ground.data⟩ (by simp) rfl
        clear hd
        simp only [putF]
        rw [hA, e2]
        go_frame
        go_wp2_with fail
        exact hK.out _ _ _ (by rw [hA]; simp only [putF]; rw [e2]; kernel_rfl) (Below.refl _ _) rfl
      · intro K us W hK0 hB hd
        have hK := hid hK0; clear hK0
        have HBW := hid hB
        have e4 : us 4 = .pointer (some ⟨g, 0, none⟩) := hd ⟨4, Ground.data⟩ (by simp) rfl
        clear hd
        simp only [putF]
        rw [hA, e4]
        go_frame
        go_wp2_with fail
        exact hK.out _ _ _ (by rw [hA]; simp only [putF]; rw [e4]; kernel_rfl) (Below.refl _ _) rfl
      · intro K us W hK0 hB hd
        have hK := hid hK0; clear hK0
        have HBW := hid hB
        have e5 : us 5 = .pointer (some ⟨g, 0, none⟩) := hd ⟨5, Ground.data⟩ (by simp) rfl
        have e3 : us 3 = .int .i64 1 := hd ⟨3, Ground.data⟩ (by simp) rfl
        clear hd
        simp only [putF]
        rw [hA, e5, e3]
        go_frame
        go_wp2_with fail
        exact hK.out _ _ _ (by rw [hA]; simp only [putF]; rw [e5, e3]; kernel_rfl) (Below.refl _ _) rfl
      · intro K us W hK0 hB hd
        have hK := hid hK0; clear hK0
        have HBW := hid hB
        have e6 : us 6 = .pointer (some ⟨g, 1, none⟩) := hd ⟨6, Ground.data⟩ (by simp) rfl
        clear hd
        have c0 : W.cell? ⟨g, 1, none⟩ = some (.slice a b.length c) := (HD.out.still hB).c1
        simp only [putF]
        rw [hA, e6]
        go_frame
        go_wp2_with fail
        exact hK.out _ _ _ (by rw [hA]; simp only [putF]; rw [e6]; kernel_rfl) (Below.refl _ _) rfl
      · intro K us W hK0 hB hd
        have hK := hid hK0; clear hK0
        have HBW := hid hB
        have e7 : us 7 = .slice a b.length c := hd ⟨7, Ground.data⟩ (by simp) rfl
        clear hd
        simp only [putF]
        rw [hA, e7]
        go_frame
        go_wp2_with fail
        exact hK.out _ _ _ (by rw [hA]; simp only [putF]; rw [e7]; kernel_rfl) (Below.refl _ _) rfl
      · intro K us W hK0 hB hd
        have hK := hid hK0; clear hK0
        have HBW := hid hB
        have e0 : us 0 = .pointer (some ⟨g, 0, none⟩) := hd ⟨0, Ground.data⟩ (by simp) rfl
        clear hd
        simp only [putF]
        rw [hA, e0]
        go_frame
        go_wp2_with fail
        exact hK.out _ _ _ (by rw [hA]; simp only [putF]; rw [e0]; kernel_rfl) (Below.refl _ _) rfl
      · intro K us W hK0 hB hd
        have hK := hid hK0; clear hK0
        have HBW := hid hB
        have e9 : us 9 = .pointer (some ⟨g, 0, none⟩) := hd ⟨9, Ground.data⟩ (by simp) rfl
        clear hd
        simp only [putF]
        rw [hA, e9]
        go_frame
        go_wp2_with fail
        exact hK.out _ _ _ (by rw [hA]; simp only [putF]; rw [e9]; kernel_rfl) (Below.refl _ _) rfl
    case htS1 =>
      intro us W2 hBB hp
      have e0 : us 0 = .pointer (some ⟨g, 0, none⟩) := hp 0 (by decide)
      have e1 : us 1 = .int .i64 1 := hp 1 (by decide)
      have e2 : us 2 = .pointer (some ⟨g, 0, none⟩) := hp 2 (by decide)
      have e3 : us 3 = .int .i64 1 := hp 3 (by decide)
      have e4 : us 4 = .pointer (some ⟨g, 0, none⟩) := hp 4 (by decide)
      have e5 : us 5 = .pointer (some ⟨g, 0, none⟩) := hp 5 (by decide)
      have e6 : us 6 = .pointer (some ⟨g, 1, none⟩) := hp 6 (by decide)
      have e7 : us 7 = .slice a b.length c := hp 7 (by decide)
      have e8 : us 8 = .int .i64 (b.length : Int) := hp 8 (by decide)
      have e9 : us 9 = .pointer (some ⟨g, 0, none⟩) := hp 9 (by decide)
      have e10 : us 10 = .pointer (some ⟨g, 2, none⟩) := hp 10 (by decide)
      clear hp
      have HD := hid (HD.out.still hBB)
      have HF := hid (HF.out.step hBB)
      clear hBB
      have z1 : W2.frozen? ⟨g, 3, none⟩ = false := by have hh := (HD.out).hg; simp [World.frozen?, hh]
      have z0 : ∃ x, W2.cell? ⟨g, 3, none⟩ = some x := ⟨_, HD.out.c3⟩
      obtain ⟨x, z0⟩ := z0
      refine seqs_step rfl ?_
      intro K hK0
      have hK := hid hK0; clear hK0
      simp only [putF]
      rw [hA, e0, e1, e2, e3, e4, e5, e6, e7, e8, e9, e10]
      go_frame
      go_wp2_with fail
      refine hK.out (.pointer (some ⟨g, 3, none⟩)) _ _ (by rw [hA]; simp only [putF]; rw [e0, e1, e2, e3, e4, e5, e6, e7, e8, e9, e10]; kernel_rfl) ?_
      clear hK hA e0 e1 e2 e3 e4 e5 e6 e7 e8 e9 e10
      refine seqs_step rfl ?_
      intro K hK0
      have hK := hid hK0; clear hK0
      go_wp2_with fail
      refine hK.out (undef) _ _ (by kernel_rfl) ?_
      clear hK
      refine seqs_end rfl ?_
      go_wp2_with fail
      go_ret
      exact ⟨rfl, (HD.out.set 3 (.int .i64 (b.length : Int)) : Dsk _ B g 74 _ _ _).refile, HF.out.trans (G := fun k => k = g) (Fr.set rfl) (fun _ _ h => h)⟩
set_option maxRecDepth 100000 in
set_option maxHeartbeats 800000 in
theorem rclear_any (g B : Nat) (dn : Bool) (lf i : Int) (f0 f1 : Fl) (w : World) (h : DR w B g dn lf f0 f1) (h0 : 0 ≤ lf) (hl : lf ≤ 9223372036854775807) :
    Calls Try.prog 73 #[.pointer (some ⟨g, 0, none⟩), .int .i64 i] w fun r w' => r = .returned (.int .i64 (errV i dn lf)) ∧ DR w' B g (dnV i dn lf) (lfV i dn lf) (fl0 i dn lf f0 ⟨.slice none 0 0, [], 0⟩) (fl1 i dn lf f1 ⟨.slice none 0 0, [], 0⟩) ∧ Fr (fun k => k = g) w w' := by
  by_cases hr : refV i dn ≠ 0
  · have hok := no_ok (lf := lf) hr
    rw [fl0_no hok, fl1_no hok, show errV i dn lf = refV i dn from if_pos hr, show dnV i dn lf = dn from if_pos hr, show lfV i dn lf = lf from if_pos hr]
    have H := hid h
    have HC := hid (rready_ref g B dn lf i f0 f1 w true h hr)
    clear h hok
    generalize refV i dn = e at *
    have d1 : (e != 0) = true := by simpa using hr
    go_enter Try.func73, Try.ntmps73
    go_wp2_with fail
    refine HC.out.mono ?_
    rintro r w1 ⟨rfl, hb⟩
    go_wp2_with fail
    go_ret
    exact ⟨rfl, H.out.still hb, Fr.of_below hb⟩
  replace hr : refV i dn = 0 := by simpa using hr
  obtain ⟨rfl, hi⟩ := refV_range hr
  rw [show errV i false lf = if lf = 1 then 82 else 0 from if_neg (by simpa using hr), show dnV i false lf = decide (lf = 1) from if_neg (by simpa using hr), show lfV i false lf = spL lf from if_neg (by simpa using hr)]
  have HC := hid (rready_any g B lf i f0 f1 w h h0 hl hi)
  by_cases h1 : lf = 1
  · have hok : okB i false lf = false := by simp [okB, h1]
    rw [fl0_no hok, fl1_no hok, if_pos h1]
    rw [if_pos h1] at HC
    clear h h1 hok hr hi
    go_enter Try.func73, Try.ntmps73
    go_wp2_with fail
    refine HC.out.mono ?_
    rintro r w1 ⟨rfl, hd, hf⟩
    have HD := hid hd
    have HF := hid hf
    clear hd hf
    go_wp2_with fail
    go_ret
    exact ⟨rfl, HD.out, HF.out⟩
  rw [if_neg h1, show decide (lf = 1) = false from decide_eq_false h1]
  rw [if_neg h1, show decide (lf = 1) = false from decide_eq_false h1] at HC
  have hok : okB i false lf = true := by simp [okB, h1, hr]
  rcases hi with rfl | rfl
  · rw [show fl0 0 false lf f0 ⟨.slice none 0 0, [], 0⟩ = ⟨.slice none 0 0, [], 0⟩ from if_pos ⟨hok, rfl⟩, show fl1 0 false lf f1 ⟨.slice none 0 0, [], 0⟩ = f1 from if_neg (by rintro ⟨_, h⟩; exact absurd h (by decide))]
    clear h h1 hok hr
    generalize spL lf = lf2 at *
    go_enter Try.func73, Try.ntmps73
    go_wp2_with fail
    refine HC.out.mono ?_
    rintro r w1 ⟨rfl, hd, hf⟩
    have HD := hid hd
    have HF := hid hf
    clear hd hf
    obtain ⟨v, b, s⟩ := f0
    go_wp2_with fail
    refine gen_act (fun A0 hA => ?_)
    refine wp_region_by (by kernel_rfl) (by kernel_rfl) [some 12, some 13, some 14, some 15, some 16, some 17, some 18, none, some 19, some 20, some 21, none] rfl (by decide) (StR (fun j => ([.pointer (some ⟨g, 0, none⟩), .int .i64 0, .pointer (some ⟨g, 0, none⟩), .int .i64 0, .pointer (some ⟨g, 0, none⟩), .pointer (some ⟨g, 0, none⟩), .pointer (some ⟨g, 0, none⟩), undef, .pointer (some ⟨g, 0, none⟩), .pointer (some ⟨g, 2, none⟩), .pointer (some ⟨g, 2, none⟩), undef] : List Value).getD j undef) [7, 11] (fun k _ W => (match k with | 0 => Dsk W B g 74 (rowR false lf2 ⟨v, b, s⟩ f1) ⟨v, b, s⟩ f1 | 1 => Dsk W B g 74 ((rowR false lf2 ⟨v, b, s⟩ f1).setIfInBounds 0 (.slice none 0 0)) ⟨v, b, s⟩ f1 | _ => DR W B g false lf2 ⟨.slice none 0 0, [], 0⟩ f1) ∧ Fr (fun k => k = g) w W)) (selfF A0 _) (putF_self A0 _)
      (StR.start ⟨HD.out.still (Below.refl _ _).drew, HF.out.step (Below.refl _ _).drew⟩ (fun _ => rfl)) ?hsC0 ?htC0
    case hsC0 =>
      refine ⟨?_, ?_, ?_, ?_, ?_, ?_, ?_, ?_, ?_, ?_, ?_, ?_, trivial⟩
      · intro K L us W hK0 hL hd hR
        have hK := hid (fun v9 A9 h1 (h3 : v9 = .pointer (some ⟨g, 0, none⟩)) => hK0 v9 A9 W h1 (hR.pure (by decide) h3)); clear hK0
        clear hd
        simp only [putF]
        rw [hA]
        go_frame
        go_wp2_with fail
        exact hK.out _ _ (by rw [hA]; simp only [putF]; kernel_rfl) rfl
      · intro K L us W hK0 hL hd hR
        have hK := hid (fun v9 A9 h1 (h3 : v9 = .int .i64 0) => hK0 v9 A9 W h1 (hR.pure (by decide) h3)); clear hK0
        clear hd
        simp only [putF]
        rw [hA]
        go_frame
        go_wp2_with fail
        exact hK.out _ _ (by rw [hA]; simp only [putF]; kernel_rfl) rfl
      · intro K L us W hK0 hL hd hR
        have hK := hid (fun v9 A9 h1 (h3 : v9 = .pointer (some ⟨g, 0, none⟩)) => hK0 v9 A9 W h1 (hR.pure (by decide) h3)); clear hK0
        clear hd
        simp only [putF]
        rw [hA]
        go_frame
        go_wp2_with fail
        exact hK.out _ _ (by rw [hA]; simp only [putF]; kernel_rfl) rfl
      · intro K L us W hK0 hL hd hR
        have hK := hid (fun v9 A9 h1 (h3 : v9 = .int .i64 0) => hK0 v9 A9 W h1 (hR.pure (by decide) h3)); clear hK0
        clear hd
        simp only [putF]
        rw [hA]
        go_frame
        go_wp2_with fail
        exact hK.out _ _ (by rw [hA]; simp only [putF]; kernel_rfl) rfl
      · intro K L us W hK0 hL hd hR
        have e0 : us 0 = .pointer (some ⟨g, 0, none⟩) := hR.vals 0 (by decide) (all_on hd ⟨0, Ground.data⟩ (by simp) rfl)
        have hK := hid (fun v9 A9 h1 (h3 : v9 = .pointer (some ⟨g, 0, none⟩)) => hK0 v9 A9 W h1 (hR.pure (by decide) h3)); clear hK0
        clear hd
        simp only [putF]
        rw [hA, e0]
        go_frame
        go_wp2_with fail
        exact hK.out _ _ (by rw [hA]; simp only [putF]; rw [e0]; kernel_rfl) rfl
      · intro K L us W hK0 hL hd hR
        have e4 : us 4 = .pointer (some ⟨g, 0, none⟩) := hR.vals 4 (by decide) (all_on hd ⟨4, Ground.data⟩ (by simp) rfl)
        have hK := hid (fun v9 A9 h1 (h3 : v9 = .pointer (some ⟨g, 0, none⟩)) => hK0 v9 A9 W h1 (hR.pure (by decide) h3)); clear hK0
        clear hd
        simp only [putF]
        rw [hA, e4]
        go_frame
        go_wp2_with fail
        exact hK.out _ _ (by rw [hA]; simp only [putF]; rw [e4]; kernel_rfl) rfl
      · intro K L us W hK0 hL hd hR
        have e5 : us 5 = .pointer (some ⟨g, 0, none⟩) := hR.vals 5 (by decide) (all_on hd ⟨5, Ground.data⟩ (by simp) rfl)
        have e1 : us 1 = .int .i64 0 := hR.vals 1 (by decide) (all_on hd ⟨1, Ground.data⟩ (by simp) rfl)
        have hK := hid (fun v9 A9 h1 (h3 : v9 = .pointer (some ⟨g, 0, none⟩)) => hK0 v9 A9 W h1 (hR.pure (by decide) h3)); clear hK0
        clear hd
        simp only [putF]
        rw [hA, e5, e1]
        go_frame
        go_wp2_with fail
        exact hK.out _ _ (by rw [hA]; simp only [putF]; rw [e5, e1]; kernel_rfl) rfl
      · intro K L us W hK0 hL hd hR
        have e6 : us 6 = .pointer (some ⟨g, 0, none⟩) := hR.vals 6 (by decide) (all_on hd ⟨6, Ground.data⟩ (by simp) rfl)
        have hS := hR.at 0 (by decide) (.inl rfl) hL
        have hK := hid (fun v9 A9 W9 h1 (hS' : (fun k _ W => (match k with | 0 => Dsk W B g 74 (rowR false lf2 ⟨v, b, s⟩ f1) ⟨v, b, s⟩ f1 | 1 => Dsk W B g 74 ((rowR false lf2 ⟨v, b, s⟩ f1).setIfInBounds 0 (.slice none 0 0)) ⟨v, b, s⟩ f1 | _ => DR W B g false lf2 ⟨.slice none 0 0, [], 0⟩ f1) ∧ Fr (fun k => k = g) w W) 1 (fun j => if j = 0 then v9 else selV [7, 11] us j) W9) => hK0 v9 A9 W9 h1 (hR.next (by decide) 0 (by decide) (.inl rfl) hL hS')); clear hK0
        obtain ⟨hD, hF⟩ := hS
        have z1 : W.frozen? ⟨g, 0, none⟩ = false := by have hh := ((hD)).hg; simp [World.frozen?, hh]
        have c0 : W.cell? ⟨g, 0, none⟩ = some (v) := (cell_row (j := 0) (hD).hg).trans rfl
        have D1 := hid hD
        have F1 := hid hF
        clear hD hF
        clear hd
        simp only [putF]
        rw [hA, e6]
        go_frame
        go_wp2_with fail
        refine hK.out undef _ _ (by rw [hA]; simp only [putF]; rw [e6]; kernel_rfl) ?_
        exact ⟨D1.out.set 0 (.slice none 0 0), F1.out.trans (G := fun k => k = g) (Fr.set rfl) (fun _ _ h => h)⟩
      · intro K L us W hK0 hL hd hR
        have e2 : us 2 = .pointer (some ⟨g, 0, none⟩) := hR.vals 2 (by decide) (all_on hd ⟨2, Ground.data⟩ (by simp) rfl)
        have hK := hid (fun v9 A9 h1 (h3 : v9 = .pointer (some ⟨g, 0, none⟩)) => hK0 v9 A9 W h1 (hR.pure (by decide) h3)); clear hK0
        clear hd
        simp only [putF]
        rw [hA, e2]
        go_frame
        go_wp2_with fail
        exact hK.out _ _ (by rw [hA]; simp only [putF]; rw [e2]; kernel_rfl) rfl
      · intro K L us W hK0 hL hd hR
        have e8 : us 8 = .pointer (some ⟨g, 0, none⟩) := hR.vals 8 (by decide) (all_on hd ⟨8, Ground.data⟩ (by simp) rfl)
        have hK := hid (fun v9 A9 h1 (h3 : v9 = .pointer (some ⟨g, 2, none⟩)) => hK0 v9 A9 W h1 (hR.pure (by decide) h3)); clear hK0
        clear hd
        simp only [putF]
        rw [hA, e8]
        go_frame
        go_wp2_with fail
        exact hK.out _ _ (by rw [hA]; simp only [putF]; rw [e8]; kernel_rfl) rfl
      · intro K L us W hK0 hL hd hR
        have e9 : us 9 = .pointer (some ⟨g, 2, none⟩) := hR.vals 9 (by decide) (all_on hd ⟨9, Ground.data⟩ (by simp) rfl)
        have e3 : us 3 = .int .i64 0 := hR.vals 3 (by decide) (all_on hd ⟨3, Ground.data⟩ (by simp) rfl)
        have hK := hid (fun v9 A9 h1 (h3 : v9 = .pointer (some ⟨g, 2, none⟩)) => hK0 v9 A9 W h1 (hR.pure (by decide) h3)); clear hK0
        clear hd
        simp only [putF]
        rw [hA, e9, e3]
        go_frame
        go_wp2_with fail
        exact hK.out _ _ (by rw [hA]; simp only [putF]; rw [e9, e3]; kernel_rfl) rfl
      · intro K L us W hK0 hL hd hR
        have e10 : us 10 = .pointer (some ⟨g, 2, none⟩) := hR.vals 10 (by decide) (all_on hd ⟨10, Ground.data⟩ (by simp) rfl)
        have hS := hR.at 1 (by decide) (.inr ⟨by decide, all_on hd ⟨7, Ground.chain⟩ (by simp) rfl⟩) hL
        have hK := hid (fun v9 A9 W9 h1 (hS' : (fun k _ W => (match k with | 0 => Dsk W B g 74 (rowR false lf2 ⟨v, b, s⟩ f1) ⟨v, b, s⟩ f1 | 1 => Dsk W B g 74 ((rowR false lf2 ⟨v, b, s⟩ f1).setIfInBounds 0 (.slice none 0 0)) ⟨v, b, s⟩ f1 | _ => DR W B g false lf2 ⟨.slice none 0 0, [], 0⟩ f1) ∧ Fr (fun k => k = g) w W) 2 (fun j => if j = 1 then v9 else selV [7, 11] us j) W9) => hK0 v9 A9 W9 h1 (hR.next (by decide) 1 (by decide) (.inr ⟨by decide, all_on hd ⟨7, Ground.chain⟩ (by simp) rfl⟩) hL hS')); clear hK0
        obtain ⟨hD, hF⟩ := hS
        have z1 : W.frozen? ⟨g, 2, none⟩ = false := by have hh := ((hD)).hg; simp [World.frozen?, hh]
        have c0 : W.cell? ⟨g, 2, none⟩ = some (.int .i64 (s : Int)) := (cell_row (j := 2) (hD).hg).trans rfl
        have D1 := hid hD
        have F1 := hid hF
        clear hD hF
        clear hd
        simp only [putF]
        rw [hA, e10]
        go_frame
        go_wp2_with fail
        refine hK.out undef _ _ (by rw [hA]; simp only [putF]; rw [e10]; kernel_rfl) ?_
        exact ⟨(D1.out.set 2 (.int .i64 0)).swap0 (own_none _ _) (by simp [Value.ownBlock]) (by simp [Value.ownBlock]), F1.out.trans (G := fun k => k = g) (Fr.set rfl) (fun _ _ h => h)⟩
    case htC0 =>
      intro L us W2 hall hR
      have hS := hR.last (fun i hi => match i, hi with | 0, _ => hall 7 (by decide) | 1, _ => hall 11 (by decide))
      have e0 : us 0 = .pointer (some ⟨g, 0, none⟩) := hR.vals 0 (by decide) (hall 0 (by decide))
      have e1 : us 1 = .int .i64 0 := hR.vals 1 (by decide) (hall 1 (by decide))
      have e2 : us 2 = .pointer (some ⟨g, 0, none⟩) := hR.vals 2 (by decide) (hall 2 (by decide))
      have e3 : us 3 = .int .i64 0 := hR.vals 3 (by decide) (hall 3 (by decide))
      have e4 : us 4 = .pointer (some ⟨g, 0, none⟩) := hR.vals 4 (by decide) (hall 4 (by decide))
      have e5 : us 5 = .pointer (some ⟨g, 0, none⟩) := hR.vals 5 (by decide) (hall 5 (by decide))
      have e6 : us 6 = .pointer (some ⟨g, 0, none⟩) := hR.vals 6 (by decide) (hall 6 (by decide))
      have e8 : us 8 = .pointer (some ⟨g, 0, none⟩) := hR.vals 8 (by decide) (hall 8 (by decide))
      have e9 : us 9 = .pointer (some ⟨g, 2, none⟩) := hR.vals 9 (by decide) (hall 9 (by decide))
      have e10 : us 10 = .pointer (some ⟨g, 2, none⟩) := hR.vals 10 (by decide) (hall 10 (by decide))
      clear hR hall
      obtain ⟨hD, hF⟩ := hS
      have D2 := hid hD
      have F2 := hid hF
      clear hD hF
      simp only [putF]
      rw [hA, e0, e1, e2, e3, e4, e5, e6, e8, e9, e10]
      go_frame
      clear hA e0 e1 e2 e3 e4 e5 e6 e8 e9 e10
      go_wp2_with fail
      go_ret
      exact ⟨rfl, D2.out, F2.out⟩
  · rw [show fl1 1 false lf f1 ⟨.slice none 0 0, [], 0⟩ = ⟨.slice none 0 0, [], 0⟩ from if_pos ⟨hok, rfl⟩, show fl0 1 false lf f0 ⟨.slice none 0 0, [], 0⟩ = f0 from if_neg (by rintro ⟨_, h⟩; exact absurd h (by decide))]
    clear h h1 hok hr
    generalize spL lf = lf2 at *
    go_enter Try.func73, Try.ntmps73
    go_wp2_with fail
    refine HC.out.mono ?_
    rintro r w1 ⟨rfl, hd, hf⟩
    have HD := hid hd
    have HF := hid hf
    clear hd hf
    obtain ⟨v, b, s⟩ := f1
    go_wp2_with fail
    refine gen_act (fun A0 hA => ?_)
    refine wp_region_by (by kernel_rfl) (by kernel_rfl) [some 12, some 13, some 14, some 15, some 16, some 17, some 18, none, some 19, some 20, some 21, none] rfl (by decide) (StR (fun j => ([.pointer (some ⟨g, 0, none⟩), .int .i64 1, .pointer (some ⟨g, 0, none⟩), .int .i64 1, .pointer (some ⟨g, 0, none⟩), .pointer (some ⟨g, 0, none⟩), .pointer (some ⟨g, 1, none⟩), undef, .pointer (some ⟨g, 0, none⟩), .pointer (some ⟨g, 2, none⟩), .pointer (some ⟨g, 3, none⟩), undef] : List Value).getD j undef) [7, 11] (fun k _ W => (match k with | 0 => Dsk W B g 74 (rowR false lf2 f0 ⟨v, b, s⟩) f0 ⟨v, b, s⟩ | 1 => Dsk W B g 74 ((rowR false lf2 f0 ⟨v, b, s⟩).setIfInBounds 1 (.slice none 0 0)) f0 ⟨v, b, s⟩ | _ => DR W B g false lf2 f0 ⟨.slice none 0 0, [], 0⟩) ∧ Fr (fun k => k = g) w W)) (selfF A0 _) (putF_self A0 _)
      (StR.start ⟨HD.out.still (Below.refl _ _).drew, HF.out.step (Below.refl _ _).drew⟩ (fun _ => rfl)) ?hsC1 ?htC1
    case hsC1 =>
      refine ⟨?_, ?_, ?_, ?_, ?_, ?_, ?_, ?_, ?_, ?_, ?_, ?_, trivial⟩
      · intro K L us W hK0 hL hd hR
        have hK := hid (fun v9 A9 h1 (h3 : v9 = .pointer (some ⟨g, 0, none⟩)) => hK0 v9 A9 W h1 (hR.pure (by decide) h3)); clear hK0
        clear hd
        simp only [putF]
        rw [hA]
        go_frame
        go_wp2_with fail
        exact hK.out _ _ (by rw [hA]; simp only [putF]; kernel_rfl) rfl
      · intro K L us W hK0 hL hd hR
        have hK := hid (fun v9 A9 h1 (h3 : v9 = .int .i64 1) => hK0 v9 A9 W h1 (hR.pure (by decide) h3)); clear hK0
        clear hd
        simp only [putF]
        rw [hA]
        go_frame
        go_wp2_with fail
        exact hK.out _ _ (by rw [hA]; simp only [putF]; kernel_rfl) rfl
      · intro K L us W hK0 hL hd hR
        have hK := hid (fun v9 A9 h1 (h3 : v9 = .pointer (some ⟨g, 0, none⟩)) => hK0 v9 A9 W h1 (hR.pure (by decide) h3)); clear hK0
        clear hd
        simp only [putF]
        rw [hA]
        go_frame
        go_wp2_with fail
        exact hK.out _ _ (by rw [hA]; simp only [putF]; kernel_rfl) rfl
      · intro K L us W hK0 hL hd hR
        have hK := hid (fun v9 A9 h1 (h3 : v9 = .int .i64 1) => hK0 v9 A9 W h1 (hR.pure (by decide) h3)); clear hK0
        clear hd
        simp only [putF]
        rw [hA]
        go_frame
        go_wp2_with fail
        exact hK.out _ _ (by rw [hA]; simp only [putF]; kernel_rfl) rfl
      · intro K L us W hK0 hL hd hR
        have e0 : us 0 = .pointer (some ⟨g, 0, none⟩) := hR.vals 0 (by decide) (all_on hd ⟨0, Ground.data⟩ (by simp) rfl)
        have hK := hid (fun v9 A9 h1 (h3 : v9 = .pointer (some ⟨g, 0, none⟩)) => hK0 v9 A9 W h1 (hR.pure (by decide) h3)); clear hK0
        clear hd
        simp only [putF]
        rw [hA, e0]
        go_frame
        go_wp2_with fail
        exact hK.out _ _ (by rw [hA]; simp only [putF]; rw [e0]; kernel_rfl) rfl
      · intro K L us W hK0 hL hd hR
        have e4 : us 4 = .pointer (some ⟨g, 0, none⟩) := hR.vals 4 (by decide) (all_on hd ⟨4, Ground.data⟩ (by simp) rfl)
        have hK := hid (fun v9 A9 h1 (h3 : v9 = .pointer (some ⟨g, 0, none⟩)) => hK0 v9 A9 W h1 (hR.pure (by decide) h3)); clear hK0
        clear hd
        simp only [putF]
        rw [hA, e4]
        go_frame
        go_wp2_with fail
        exact hK.out _ _ (by rw [hA]; simp only [putF]; rw [e4]; kernel_rfl) rfl
      · intro K L us W hK0 hL hd hR
        have e5 : us 5 = .pointer (some ⟨g, 0, none⟩) := hR.vals 5 (by decide) (all_on hd ⟨5, Ground.data⟩ (by simp) rfl)
        have e1 : us 1 = .int .i64 1 := hR.vals 1 (by decide) (all_on hd ⟨1, Ground.data⟩ (by simp) rfl)
        have hK := hid (fun v9 A9 h1 (h3 : v9 = .pointer (some ⟨g, 1, none⟩)) => hK0 v9 A9 W h1 (hR.pure (by decide) h3)); clear hK0
        clear hd
        simp only [putF]
        rw [hA, e5, e1]
        go_frame
        go_wp2_with fail
        exact hK.out _ _ (by rw [hA]; simp only [putF]; rw [e5, e1]; kernel_rfl) rfl
      · intro K L us W hK0 hL hd hR
        have e6 : us 6 = .pointer (some ⟨g, 1, none⟩) := hR.vals 6 (by decide) (all_on hd ⟨6, Ground.data⟩ (by simp) rfl)
        have hS := hR.at 0 (by decide) (.inl rfl) hL
        have hK := hid (fun v9 A9 W9 h1 (hS' : (fun k _ W => (match k with | 0 => Dsk W B g 74 (rowR false lf2 f0 ⟨v, b, s⟩) f0 ⟨v, b, s⟩ | 1 => Dsk W B g 74 ((rowR false lf2 f0 ⟨v, b, s⟩).setIfInBounds 1 (.slice none 0 0)) f0 ⟨v, b, s⟩ | _ => DR W B g false lf2 f0 ⟨.slice none 0 0, [], 0⟩) ∧ Fr (fun k => k = g) w W) 1 (fun j => if j = 0 then v9 else selV [7, 11] us j) W9) => hK0 v9 A9 W9 h1 (hR.next (by decide) 0 (by decide) (.inl rfl) hL hS')); clear hK0
        obtain ⟨hD, hF⟩ := hS
        have z1 : W.frozen? ⟨g, 1, none⟩ = false := by have hh := ((hD)).hg; simp [World.frozen?, hh]
        have c0 : W.cell? ⟨g, 1, none⟩ = some (v) := (cell_row (j := 1) (hD).hg).trans rfl
        have D1 := hid hD
        have F1 := hid hF
        clear hD hF
        clear hd
        simp only [putF]
        rw [hA, e6]
        go_frame
        go_wp2_with fail
        refine hK.out undef _ _ (by rw [hA]; simp only [putF]; rw [e6]; kernel_rfl) ?_
        exact ⟨D1.out.set 1 (.slice none 0 0), F1.out.trans (G := fun k => k = g) (Fr.set rfl) (fun _ _ h => h)⟩
      · intro K L us W hK0 hL hd hR
        have e2 : us 2 = .pointer (some ⟨g, 0, none⟩) := hR.vals 2 (by decide) (all_on hd ⟨2, Ground.data⟩ (by simp) rfl)
        have hK := hid (fun v9 A9 h1 (h3 : v9 = .pointer (some ⟨g, 0, none⟩)) => hK0 v9 A9 W h1 (hR.pure (by decide) h3)); clear hK0
        clear hd
        simp only [putF]
        rw [hA, e2]
        go_frame
        go_wp2_with fail
        exact hK.out _ _ (by rw [hA]; simp only [putF]; rw [e2]; kernel_rfl) rfl
      · intro K L us W hK0 hL hd hR
        have e8 : us 8 = .pointer (some ⟨g, 0, none⟩) := hR.vals 8 (by decide) (all_on hd ⟨8, Ground.data⟩ (by simp) rfl)
        have hK := hid (fun v9 A9 h1 (h3 : v9 = .pointer (some ⟨g, 2, none⟩)) => hK0 v9 A9 W h1 (hR.pure (by decide) h3)); clear hK0
        clear hd
        simp only [putF]
        rw [hA, e8]
        go_frame
        go_wp2_with fail
        exact hK.out _ _ (by rw [hA]; simp only [putF]; rw [e8]; kernel_rfl) rfl
      · intro K L us W hK0 hL hd hR
        have e9 : us 9 = .pointer (some ⟨g, 2, none⟩) := hR.vals 9 (by decide) (all_on hd ⟨9, Ground.data⟩ (by simp) rfl)
        have e3 : us 3 = .int .i64 1 := hR.vals 3 (by decide) (all_on hd ⟨3, Ground.data⟩ (by simp) rfl)
        have hK := hid (fun v9 A9 h1 (h3 : v9 = .pointer (some ⟨g, 3, none⟩)) => hK0 v9 A9 W h1 (hR.pure (by decide) h3)); clear hK0
        clear hd
        simp only [putF]
        rw [hA, e9, e3]
        go_frame
        go_wp2_with fail
        exact hK.out _ _ (by rw [hA]; simp only [putF]; rw [e9, e3]; kernel_rfl) rfl
      · intro K L us W hK0 hL hd hR
        have e10 : us 10 = .pointer (some ⟨g, 3, none⟩) := hR.vals 10 (by decide) (all_on hd ⟨10, Ground.data⟩ (by simp) rfl)
        have hS := hR.at 1 (by decide) (.inr ⟨by decide, all_on hd ⟨7, Ground.chain⟩ (by simp) rfl⟩) hL
        have hK := hid (fun v9 A9 W9 h1 (hS' : (fun k _ W => (match k with | 0 => Dsk W B g 74 (rowR false lf2 f0 ⟨v, b, s⟩) f0 ⟨v, b, s⟩ | 1 => Dsk W B g 74 ((rowR false lf2 f0 ⟨v, b, s⟩).setIfInBounds 1 (.slice none 0 0)) f0 ⟨v, b, s⟩ | _ => DR W B g false lf2 f0 ⟨.slice none 0 0, [], 0⟩) ∧ Fr (fun k => k = g) w W) 2 (fun j => if j = 1 then v9 else selV [7, 11] us j) W9) => hK0 v9 A9 W9 h1 (hR.next (by decide) 1 (by decide) (.inr ⟨by decide, all_on hd ⟨7, Ground.chain⟩ (by simp) rfl⟩) hL hS')); clear hK0
        obtain ⟨hD, hF⟩ := hS
        have z1 : W.frozen? ⟨g, 3, none⟩ = false := by have hh := ((hD)).hg; simp [World.frozen?, hh]
        have c0 : W.cell? ⟨g, 3, none⟩ = some (.int .i64 (s : Int)) := (cell_row (j := 3) (hD).hg).trans rfl
        have D1 := hid hD
        have F1 := hid hF
        clear hD hF
        clear hd
        simp only [putF]
        rw [hA, e10]
        go_frame
        go_wp2_with fail
        refine hK.out undef _ _ (by rw [hA]; simp only [putF]; rw [e10]; kernel_rfl) ?_
        exact ⟨(D1.out.set 3 (.int .i64 0)).swap1 (own_none _ _) (by simp [Value.ownBlock]) (by simp [Value.ownBlock]), F1.out.trans (G := fun k => k = g) (Fr.set rfl) (fun _ _ h => h)⟩
    case htC1 =>
      intro L us W2 hall hR
      have hS := hR.last (fun i hi => match i, hi with | 0, _ => hall 7 (by decide) | 1, _ => hall 11 (by decide))
      have e0 : us 0 = .pointer (some ⟨g, 0, none⟩) := hR.vals 0 (by decide) (hall 0 (by decide))
      have e1 : us 1 = .int .i64 1 := hR.vals 1 (by decide) (hall 1 (by decide))
      have e2 : us 2 = .pointer (some ⟨g, 0, none⟩) := hR.vals 2 (by decide) (hall 2 (by decide))
      have e3 : us 3 = .int .i64 1 := hR.vals 3 (by decide) (hall 3 (by decide))
      have e4 : us 4 = .pointer (some ⟨g, 0, none⟩) := hR.vals 4 (by decide) (hall 4 (by decide))
      have e5 : us 5 = .pointer (some ⟨g, 0, none⟩) := hR.vals 5 (by decide) (hall 5 (by decide))
      have e6 : us 6 = .pointer (some ⟨g, 1, none⟩) := hR.vals 6 (by decide) (hall 6 (by decide))
      have e8 : us 8 = .pointer (some ⟨g, 0, none⟩) := hR.vals 8 (by decide) (hall 8 (by decide))
      have e9 : us 9 = .pointer (some ⟨g, 2, none⟩) := hR.vals 9 (by decide) (hall 9 (by decide))
      have e10 : us 10 = .pointer (some ⟨g, 3, none⟩) := hR.vals 10 (by decide) (hall 10 (by decide))
      clear hR hall
      obtain ⟨hD, hF⟩ := hS
      have D2 := hid hD
      have F2 := hid hF
      clear hD hF
      simp only [putF]
      rw [hA, e0, e1, e2, e3, e4, e5, e6, e8, e9, e10]
      go_frame
      clear hA e0 e1 e2 e3 e4 e5 e6 e8 e9 e10
      go_wp2_with fail
      go_ret
      exact ⟨rfl, D2.out, F2.out⟩
end Go.Proofs.Yteanlcefdoigcaa
