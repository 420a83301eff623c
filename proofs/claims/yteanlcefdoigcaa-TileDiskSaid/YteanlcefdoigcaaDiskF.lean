/- The program's disk: Fork 36. (Printed by wip/gen_diskf.py.) -/
import Derived.Test.YteanlcefdoigcaaDiskK
namespace Go.Proofs.Yteanlcefdoigcaa
open Go.RowKit

set_option maxRecDepth 100000 in
set_option maxHeartbeats 1600000 in
theorem xfork_any (g B : Nat) (dn : Bool) (lf : Int) (f0 f1 : Fl) (w : World) (h : DX w B g dn lf f0 f1) (hn0 : f0.b.length ≤ 1000000) (hn1 : f1.b.length ≤ 1000000) :
    Calls Try.prog 36 #[.pointer (some ⟨g, 0, none⟩)] w fun r w' => (∃ g2 v0 v1, r = .returned (.pointer (some ⟨g2, 0, none⟩)) ∧ DX w' w.heap.size g2 dn lf ⟨v0, f0.b, f0.s⟩ ⟨v1, f1.b, f1.s⟩) ∧ Below w.heap.size w w' := by
  have H := hid h
  clear h
  obtain ⟨v0, b0, s0⟩ := f0
  obtain ⟨a0, d0, hv⟩ := own_slice H.out.o0
  obtain rfl : v0 = .slice a0 b0.length d0 := hv
  obtain ⟨v1, b1, s1⟩ := f1
  obtain ⟨a1, d1, hv⟩ := own_slice H.out.o1
  obtain rfl : v1 = .slice a1 b1.length d1 := hv
  simp only at hn0 hn1 ⊢
  go_enter Try.func36, Try.ntmps36
  go_wp2_with fail
  refine (xnone_any g _ H.out.c0).mono ?_
  rintro r w1 ⟨rfl, hb⟩
  have HD := hid (H.out.still hb)
  have HB1 := hid hb
  have hz1 := hb.size
  clear hb
  go_wp2_with fail
  refine gen_act (fun A0 hA => ?_)
  refine wp_region_tail (by kernel_rfl) (by kernel_rfl) [some 7, some 8, some 9, some 10, some 11, some 12, some 13, some 14, some 15, some 16, some 3] rfl (by decide) 9 (by decide) (by kernel_rfl) (by kernel_rfl)
    [IsV (.pointer (some ⟨g, 0, none⟩)), IsV (.pointer (some ⟨g, 0, none⟩)), IsV (.pointer (some ⟨g, 0, none⟩)), IsV (.agg #[.bool true, .bool dn, .int .i64 lf]), IsV (.pointer (some ⟨g, 0, none⟩)), IsV (.pointer (some ⟨g, 0, none⟩)), IsV (.pointer (some ⟨g, 3, none⟩)), IsV (.agg #[.slice a0 b0.length d0, .int .i64 (s0 : Int), .slice a1 b1.length d1, .int .i64 (s1 : Int)]), IsV (.agg #[.bool true, .bool dn, .int .i64 lf, .slice a0 b0.length d0, .int .i64 (s0 : Int), .slice a1 b1.length d1, .int .i64 (s1 : Int)])]
    ⟨IsV.stb _, IsV.stb _, IsV.stb _, IsV.stb _, IsV.stb _, IsV.stb _, IsV.stb _, IsV.stb _, IsV.stb _, trivial⟩ ?hs3 ?ht3
  case hs3 =>
    refine ⟨?_, ?_, ?_, ?_, ?_, ?_, ?_, ?_, ?_, trivial⟩
    · intro K us W hK0 hB hd
      have hK := hid hK0; clear hK0
      have HBW := hid hB
      clear hd
      simp only [putF]
      rw [hA]
      go_frame
      go_wp2_with fail
      exact hK.out _ _ _ (by rw [hA]; simp only [putF]; kernel_rfl) (Below.refl _ _) rfl
    · intro K us W hK0 hB hd
      have hK := hid hK0; clear hK0
      have HBW := hid hB
      have e0 : us 0 = .pointer (some ⟨g, 0, none⟩) := hd ⟨0, Ground.data⟩ (by simp) rfl
      clear hd
      simp only [putF]
      rw [hA, e0]
      go_frame
      go_wp2_with fail
      exact hK.out _ _ _ (by rw [hA]; simp only [putF]; rw [e0]; kernel_rfl) (Below.refl _ _) rfl
    · intro K us W hK0 hB hd
      have hK := hid hK0; clear hK0
      have HBW := hid hB
      have e1 : us 1 = .pointer (some ⟨g, 0, none⟩) := hd ⟨1, Ground.data⟩ (by simp) rfl
      clear hd
      simp only [putF]
      rw [hA, e1]
      go_frame
      go_wp2_with fail
      exact hK.out _ _ _ (by rw [hA]; simp only [putF]; rw [e1]; kernel_rfl) (Below.refl _ _) rfl
    · intro K us W hK0 hB hd
      have hK := hid hK0; clear hK0
      have HBW := hid hB
      have e2 : us 2 = .pointer (some ⟨g, 0, none⟩) := hd ⟨2, Ground.data⟩ (by simp) rfl
      clear hd
      have c0 : W.cell? ⟨g, 0, none⟩ = some (.bool true) := (HD.out.still hB).c0
      have c1 : W.cell? ⟨g, 1, none⟩ = some (.bool dn) := (HD.out.still hB).c1
      have c2 : W.cell? ⟨g, 2, none⟩ = some (.int .i64 lf) := (HD.out.still hB).c2
      simp only [putF]
      rw [hA, e2]
      go_frame
      go_wp2_with fail
      exact hK.out _ _ _ (by rw [hA]; simp only [putF]; rw [e2]; kernel_rfl) (Below.refl _ _) rfl
    · intro K us W hK0 hB hd
      have hK := hid hK0; clear hK0
      have HBW := hid hB
      clear hd
      simp only [putF]
      rw [hA]
      go_frame
      go_wp2_with fail
      exact hK.out _ _ _ (by rw [hA]; simp only [putF]; kernel_rfl) (Below.refl _ _) rfl
    · intro K us W hK0 hB hd
      have hK := hid hK0; clear hK0
      have HBW := hid hB
      have e4 : us 4 = .pointer (some ⟨g, 0, none⟩) := hd ⟨4, Ground.data⟩ (by simp) rfl
      clear hd
      simp only [putF]
      rw [hA, e4]
      go_frame
      go_wp2_with fail
      exact hK.out _ _ _ (by rw [hA]; simp only [putF]; rw [e4]; kernel_rfl) (Below.refl _ _) rfl
    · intro K us W hK0 hB hd
      have hK := hid hK0; clear hK0
      have HBW := hid hB
      have e5 : us 5 = .pointer (some ⟨g, 0, none⟩) := hd ⟨5, Ground.data⟩ (by simp) rfl
      clear hd
      simp only [putF]
      rw [hA, e5]
      go_frame
      go_wp2_with fail
      exact hK.out _ _ _ (by rw [hA]; simp only [putF]; rw [e5]; kernel_rfl) (Below.refl _ _) rfl
    · intro K us W hK0 hB hd
      have hK := hid hK0; clear hK0
      have HBW := hid hB
      have e6 : us 6 = .pointer (some ⟨g, 3, none⟩) := hd ⟨6, Ground.data⟩ (by simp) rfl
      clear hd
      have c3 : W.cell? ⟨g, 3, none⟩ = some (.slice a0 b0.length d0) := (HD.out.still hB).c3
      have c4 : W.cell? ⟨g, 4, none⟩ = some (.int .i64 (s0 : Int)) := (HD.out.still hB).c4
      have c5 : W.cell? ⟨g, 5, none⟩ = some (.slice a1 b1.length d1) := (HD.out.still hB).c5
      have c6 : W.cell? ⟨g, 6, none⟩ = some (.int .i64 (s1 : Int)) := (HD.out.still hB).c6
      simp only [putF]
      rw [hA, e6]
      go_frame
      go_wp2_with fail
      exact hK.out _ _ _ (by rw [hA]; simp only [putF]; rw [e6]; kernel_rfl) (Below.refl _ _) rfl
    · intro K us W hK0 hB hd
      have hK := hid hK0; clear hK0
      have HBW := hid hB
      have e3 : us 3 = .agg #[.bool true, .bool dn, .int .i64 lf] := hd ⟨3, Ground.data⟩ (by simp) rfl
      have e7 : us 7 = .agg #[.slice a0 b0.length d0, .int .i64 (s0 : Int), .slice a1 b1.length d1, .int .i64 (s1 : Int)] := hd ⟨7, Ground.data⟩ (by simp) rfl
      clear hd
      simp only [putF]
      rw [hA, e3, e7]
      go_frame
      go_wp2_with fail
      exact hK.out _ _ _ (by rw [hA]; simp only [putF]; rw [e3, e7]; kernel_rfl) (Below.refl _ _) rfl
  case ht3 =>
    intro us W2 hBB hp
    have e8 : us 8 = .agg #[.bool true, .bool dn, .int .i64 lf, .slice a0 b0.length d0, .int .i64 (s0 : Int), .slice a1 b1.length d1, .int .i64 (s1 : Int)] := hp 8 (by decide)
    have e0 : us 0 = .pointer (some ⟨g, 0, none⟩) := hp 0 (by decide)
    have e1 : us 1 = .pointer (some ⟨g, 0, none⟩) := hp 1 (by decide)
    have e2 : us 2 = .pointer (some ⟨g, 0, none⟩) := hp 2 (by decide)
    have e3 : us 3 = .agg #[.bool true, .bool dn, .int .i64 lf] := hp 3 (by decide)
    have e4 : us 4 = .pointer (some ⟨g, 0, none⟩) := hp 4 (by decide)
    have e5 : us 5 = .pointer (some ⟨g, 0, none⟩) := hp 5 (by decide)
    have e6 : us 6 = .pointer (some ⟨g, 3, none⟩) := hp 6 (by decide)
    have e7 : us 7 = .agg #[.slice a0 b0.length d0, .int .i64 (s0 : Int), .slice a1 b1.length d1, .int .i64 (s1 : Int)] := hp 7 (by decide)
    clear hp
    have HD := hid (HD.out.still hBB)
    have HB2 := hid (HB1.out.trans (hBB.mono hz1))
    have hz2 := HB2.out.size
    clear hBB HB1
    refine seqs_step rfl ?_
    intro K hK0
    have hK := hid hK0; clear hK0
    simp only [putF]
    rw [hA, e0, e1, e2, e3, e4, e5, e6, e7, e8]
    go_frame
    go_wp2_with fail
    refine hK.out (.pointer (some ⟨W2.heap.size, 0, none⟩)) _ _ (by rw [hA]; simp only [putF]; rw [e0, e1, e2, e3, e4, e5, e6, e7, e8]; kernel_rfl) ?_
    clear hK hA e0 e1 e2 e3 e4 e5 e6 e7 e8
    refine seqs_step rfl ?_
    intro K hK0
    have hK := hid hK0; clear hK0
    go_wp2_with fail
    refine hK.out (.pointer (some ⟨W2.heap.size, 0, none⟩)) _ _ (by kernel_rfl) ?_
    clear hK
    refine seqs_end rfl ?_
    go_wp2_with fail
    refine gen_world (fun W3 hW3 => ?_)
    have KN := hid (show W3.heap[W2.heap.size]? = some (.cells #[.bool true, .bool dn, .int .i64 lf, .slice a0 b0.length d0, .int .i64 (s0 : Int), .slice a1 b1.length d1, .int .i64 (s1 : Int)] 107) by rw [hW3]; exact heap_alloc_at _ _ _ rfl)
    have HD := hid (show DX W3 B g dn lf ⟨.slice a0 b0.length d0, b0, s0⟩ ⟨.slice a1 b1.length d1, b1, s1⟩ by rw [hW3]; exact HD.out.still ((Below.refl _ _).alloc (Nat.le_refl _) _))
    have HB3 := hid (show Below w.heap.size w W3 by rw [hW3]; exact HB2.out.alloc hz2 _)
    clear hW3 HB2
    have hgn := HD.out.lt
    obtain ⟨gn, hgn2⟩ : ∃ gn, gn = W2.heap.size := ⟨_, rfl⟩
    rw [← hgn2] at KN ⊢
    have hge : w.heap.size ≤ gn := by omega
    have HGN := hid (show g ≠ gn from fun e => by have := H.out.lt; omega)
    have hgk0 := hid (show gn < W3.heap.size from (Array.getElem?_eq_some_iff.1 KN.out).1)
    have hft := hid (fun k (hk : foot g ⟨.slice a0 b0.length d0, b0, s0⟩ ⟨.slice a1 b1.length d1, b1, s1⟩ k) => show k < gn by have h1 := (Dsk.foot_lt H.out) k hk; omega)
    clear hgn2 hz2
    refine wp_loop_rounds 3 ?_
    rw [rounds_succ]
    go_wp2_with fail
    refine gen_act (fun A0 hA => ?_)
    refine wp_region_tail (by kernel_rfl) (by kernel_rfl) [some 20, some 21, some 22, some 23, some 24, some 25, some 26, some 27, some 28, some 29, some 30, some 31, some 32, some 33, none] rfl (by decide) 12 (by decide) (by kernel_rfl) (by kernel_rfl)
      [IsV (.pointer (some ⟨gn, 0, none⟩)), IsV (.int .i64 0), IsV (.pointer (some ⟨g, 0, none⟩)), IsV (.int .i64 0), IsV (.pointer (some ⟨g, 0, none⟩)), IsV (.pointer (some ⟨g, 3, none⟩)), IsV (.pointer (some ⟨g, 3, none⟩)), IsV (.pointer (some ⟨g, 3, none⟩)), IsV (.slice a0 b0.length d0), NewB W3.heap.size b0.length (u8s b0), IsV (.pointer (some ⟨gn, 0, none⟩)), IsV (.pointer (some ⟨gn, 3, none⟩))]
      ⟨IsV.stb _, IsV.stb _, IsV.stb _, IsV.stb _, IsV.stb _, IsV.stb _, IsV.stb _, IsV.stb _, IsV.stb _, NewB.stb _ _ _, IsV.stb _, IsV.stb _, trivial⟩ ?hs70 ?ht70
    case hs70 =>
      refine ⟨?_, ?_, ?_, ?_, ?_, ?_, ?_, ?_, ?_, ?_, ?_, ?_, trivial⟩
      · intro K us W hK0 hB hd
        have hK := hid hK0; clear hK0
        have HBW := hid hB
        clear hd
        simp only [putF]
        rw [hA]
        go_frame
        go_wp2_with fail
        exact hK.out _ _ _ (by rw [hA]; simp only [putF]; kernel_rfl) (Below.refl _ _) rfl
      · intro K us W hK0 hB hd
        have hK := hid hK0; clear hK0
        have HBW := hid hB
        clear hd
        simp only [putF]
        rw [hA]
        go_frame
        go_wp2_with fail
        exact hK.out _ _ _ (by rw [hA]; simp only [putF]; kernel_rfl) (Below.refl _ _) rfl
      · intro K us W hK0 hB hd
        have hK := hid hK0; clear hK0
        have HBW := hid hB
        clear hd
        simp only [putF]
        rw [hA]
        go_frame
        go_wp2_with fail
        exact hK.out _ _ _ (by rw [hA]; simp only [putF]; kernel_rfl) (Below.refl _ _) rfl
      · intro K us W hK0 hB hd
        have hK := hid hK0; clear hK0
        have HBW := hid hB
        clear hd
        simp only [putF]
        rw [hA]
        go_frame
        go_wp2_with fail
        exact hK.out _ _ _ (by rw [hA]; simp only [putF]; kernel_rfl) (Below.refl _ _) rfl
      · intro K us W hK0 hB hd
        have hK := hid hK0; clear hK0
        have HBW := hid hB
        have e2 : us 2 = .pointer (some ⟨g, 0, none⟩) := hd ⟨2, Ground.data⟩ (by simp) rfl
        clear hd
        simp only [putF]
        rw [hA, e2]
        go_frame
        go_wp2_with fail
        exact hK.out _ _ _ (by rw [hA]; simp only [putF]; rw [e2]; kernel_rfl) (Below.refl _ _) rfl
      · intro K us W hK0 hB hd
        have hK := hid hK0; clear hK0
        have HBW := hid hB
        have e4 : us 4 = .pointer (some ⟨g, 0, none⟩) := hd ⟨4, Ground.data⟩ (by simp) rfl
        clear hd
        simp only [putF]
        rw [hA, e4]
        go_frame
        go_wp2_with fail
        exact hK.out _ _ _ (by rw [hA]; simp only [putF]; rw [e4]; kernel_rfl) (Below.refl _ _) rfl
      · intro K us W hK0 hB hd
        have hK := hid hK0; clear hK0
        have HBW := hid hB
        have e5 : us 5 = .pointer (some ⟨g, 3, none⟩) := hd ⟨5, Ground.data⟩ (by simp) rfl
        have e3 : us 3 = .int .i64 0 := hd ⟨3, Ground.data⟩ (by simp) rfl
        clear hd
        simp only [putF]
        rw [hA, e5, e3]
        go_frame
        go_wp2_with fail
        exact hK.out _ _ _ (by rw [hA]; simp only [putF]; rw [e5, e3]; kernel_rfl) (Below.refl _ _) rfl
      · intro K us W hK0 hB hd
        have hK := hid hK0; clear hK0
        have HBW := hid hB
        have e6 : us 6 = .pointer (some ⟨g, 3, none⟩) := hd ⟨6, Ground.data⟩ (by simp) rfl
        clear hd
        simp only [putF]
        rw [hA, e6]
        go_frame
        go_wp2_with fail
        exact hK.out _ _ _ (by rw [hA]; simp only [putF]; rw [e6]; kernel_rfl) (Below.refl _ _) rfl
      · intro K us W hK0 hB hd
        have hK := hid hK0; clear hK0
        have HBW := hid hB
        have e7 : us 7 = .pointer (some ⟨g, 3, none⟩) := hd ⟨7, Ground.data⟩ (by simp) rfl
        clear hd
        have c0 : W.cell? ⟨g, 3, none⟩ = some (.slice a0 b0.length d0) := (HD.out.still hB).c3
        simp only [putF]
        rw [hA, e7]
        go_frame
        go_wp2_with fail
        exact hK.out _ _ _ (by rw [hA]; simp only [putF]; rw [e7]; kernel_rfl) (Below.refl _ _) rfl
      · intro K us W hK0 hB hd
        have hK := hid hK0; clear hK0
        have HBW := hid hB
        have e8 : us 8 = .slice a0 b0.length d0 := hd ⟨8, Ground.data⟩ (by simp) rfl
        clear hd
        simp only [putF]
        rw [hA, e8]
        go_frame
        go_wp2_with fail
        refine (xclone_any _ b0 _ (own_rdb (HD.out.still HBW.out).o0) hn0).mono ?_
        rintro r W9 ⟨⟨v9, rfl, hv9⟩, hb9⟩
        go_wp2_with fail
        exact hK.out _ _ _ (by rw [hA]; simp only [putF]; rw [e8]; kernel_rfl) hb9 (own_low hv9 HBW.out.size)
      · intro K us W hK0 hB hd
        have hK := hid hK0; clear hK0
        have HBW := hid hB
        have e0 : us 0 = .pointer (some ⟨gn, 0, none⟩) := hd ⟨0, Ground.data⟩ (by simp) rfl
        clear hd
        simp only [putF]
        rw [hA, e0]
        go_frame
        go_wp2_with fail
        exact hK.out _ _ _ (by rw [hA]; simp only [putF]; rw [e0]; kernel_rfl) (Below.refl _ _) rfl
      · intro K us W hK0 hB hd
        have hK := hid hK0; clear hK0
        have HBW := hid hB
        have e10 : us 10 = .pointer (some ⟨gn, 0, none⟩) := hd ⟨10, Ground.data⟩ (by simp) rfl
        clear hd
        simp only [putF]
        rw [hA, e10]
        go_frame
        go_wp2_with fail
        exact hK.out _ _ _ (by rw [hA]; simp only [putF]; rw [e10]; kernel_rfl) (Below.refl _ _) rfl
    case ht70 =>
      intro us X0 hBB hp
      have e0 : us 0 = .pointer (some ⟨gn, 0, none⟩) := hp 0 (by decide)
      have e1 : us 1 = .int .i64 0 := hp 1 (by decide)
      have e2 : us 2 = .pointer (some ⟨g, 0, none⟩) := hp 2 (by decide)
      have e3 : us 3 = .int .i64 0 := hp 3 (by decide)
      have e4 : us 4 = .pointer (some ⟨g, 0, none⟩) := hp 4 (by decide)
      have e5 : us 5 = .pointer (some ⟨g, 3, none⟩) := hp 5 (by decide)
      have e6 : us 6 = .pointer (some ⟨g, 3, none⟩) := hp 6 (by decide)
      have e7 : us 7 = .pointer (some ⟨g, 3, none⟩) := hp 7 (by decide)
      have e8 : us 8 = .slice a0 b0.length d0 := hp 8 (by decide)
      have e10 : us 10 = .pointer (some ⟨gn, 0, none⟩) := hp 10 (by decide)
      have e11 : us 11 = .pointer (some ⟨gn, 3, none⟩) := hp 11 (by decide)
      have e9n : NewB W3.heap.size b0.length (u8s b0) X0 (us 9) := hp 9 (by decide)
      obtain ⟨p0, q0, e9⟩ := own_slice e9n
      rw [e9] at e9n
      have HN0 := hid (own_low (B' := w.heap.size) e9n HB3.out.size)
      have HNL0 := hid (fun k (hk : (Value.slice p0 b0.length q0).ownBlock = some k) => (e9n.lt k hk).1)
      clear e9n hp
      have HD := hid (HD.out.still hBB)
      have KN := hid (heap_still hBB KN.out)
      have HB3 := hid (HB3.out.trans (hBB.mono HB3.out.size))
      clear hBB
      have c0 : X0.cell? ⟨gn, 3, none⟩ = some (.slice a0 b0.length d0) := (cell_row (j := 3) KN.out).trans rfl
      have z0 : X0.frozen? ⟨gn, 3, none⟩ = false := by have hh := KN.out; simp [World.frozen?, hh]
      refine seqs_step rfl ?_
      intro K hK0
      have hK := hid hK0; clear hK0
      simp only [putF]
      rw [hA, e0, e1, e2, e3, e4, e5, e6, e7, e8, e9, e10, e11]
      go_frame
      go_wp2_with fail
      refine hK.out (.pointer (some ⟨gn, 3, none⟩)) _ _ (by rw [hA]; simp only [putF]; rw [e0, e1, e2, e3, e4, e5, e6, e7, e8, e9, e10, e11]; kernel_rfl) ?_
      clear hK hA e0 e1 e2 e3 e4 e5 e6 e7 e8 e9 e10 e11
      refine seqs_step rfl ?_
      intro K hK0
      have hK := hid hK0; clear hK0
      go_wp2_with fail
      refine hK.out (.pointer (some ⟨gn, 3, none⟩)) _ _ (by kernel_rfl) ?_
      clear hK
      refine seqs_step rfl ?_
      intro K hK0
      have hK := hid hK0; clear hK0
      go_wp2_with fail
      refine hK.out undef _ _ (by kernel_rfl) ?_
      clear hK z0 c0
      refine seqs_end rfl ?_
      go_wp2_with fail
      refine gen_world (fun Y0 hY => ?_)
      have HN0k : ∀ k, (Value.slice p0 b0.length q0).ownBlock = some k → k ≠ gn := fun k hk e => by have h1 := HNL0.out k hk; have h2 := hgk0.out; omega
      have KN := hid (show Y0.heap[gn]? = some (.cells #[.bool true, .bool dn, .int .i64 lf, .slice p0 b0.length q0, .int .i64 (s0 : Int), .slice a1 b1.length d1, .int .i64 (s1 : Int)] 107) by rw [hY]; exact heap_setCell KN.out _)
      have hoth : ∀ k, k ≠ gn → Y0.heap[k]? = X0.heap[k]? := fun k hk => by rw [hY]; exact Below.heap_setCell X0 ⟨gn, 3, none⟩ _ k hk
      have HN0 := hid (own_same (W' := Y0) HN0.out (fun k hk => hoth k (HN0k k hk)))
      have HN0q := hid HN0k
      have HD := hid (show DX Y0 B g dn lf ⟨.slice a0 b0.length d0, b0, s0⟩ ⟨.slice a1 b1.length d1, b1, s1⟩ from HD.out.frame (F := fun k => k = gn) (by rw [hY]; exact Fr.set rfl) (fun k hk e => by have h1 := hft.out k hk; omega))
      have HB3 := hid (show Below w.heap.size w Y0 by rw [hY]; exact HB3.out.setCell (p := ⟨gn, 3, none⟩) hge _)
      have HN0s := hid (fun k (hk : (Value.slice p0 b0.length q0).ownBlock = some k) => (HN0.out.lt k hk).2)
      have hgk0 := hid (show gn < Y0.heap.size from (Array.getElem?_eq_some_iff.1 KN.out).1)
      clear hY hoth HN0k
      (try rw [rounds_succ])
      go_wp2_with fail
      refine gen_act (fun A0 hA => ?_)
      refine wp_region_tail (by kernel_rfl) (by kernel_rfl) [some 20, some 21, some 22, some 23, some 24, some 25, some 26, some 27, some 28, some 29, some 30, some 31, some 32, some 33, none] rfl (by decide) 12 (by decide) (by kernel_rfl) (by kernel_rfl)
        [IsV (.pointer (some ⟨gn, 0, none⟩)), IsV (.int .i64 1), IsV (.pointer (some ⟨g, 0, none⟩)), IsV (.int .i64 1), IsV (.pointer (some ⟨g, 0, none⟩)), IsV (.pointer (some ⟨g, 3, none⟩)), IsV (.pointer (some ⟨g, 5, none⟩)), IsV (.pointer (some ⟨g, 5, none⟩)), IsV (.slice a1 b1.length d1), NewB Y0.heap.size b1.length (u8s b1), IsV (.pointer (some ⟨gn, 0, none⟩)), IsV (.pointer (some ⟨gn, 3, none⟩))]
        ⟨IsV.stb _, IsV.stb _, IsV.stb _, IsV.stb _, IsV.stb _, IsV.stb _, IsV.stb _, IsV.stb _, IsV.stb _, NewB.stb _ _ _, IsV.stb _, IsV.stb _, trivial⟩ ?hs71 ?ht71
      case hs71 =>
        refine ⟨?_, ?_, ?_, ?_, ?_, ?_, ?_, ?_, ?_, ?_, ?_, ?_, trivial⟩
        · intro K us W hK0 hB hd
          have hK := hid hK0; clear hK0
          have HBW := hid hB
          clear hd
          simp only [putF]
          rw [hA]
          go_frame
          go_wp2_with fail
          exact hK.out _ _ _ (by rw [hA]; simp only [putF]; kernel_rfl) (Below.refl _ _) rfl
        · intro K us W hK0 hB hd
          have hK := hid hK0; clear hK0
          have HBW := hid hB
          clear hd
          simp only [putF]
          rw [hA]
          go_frame
          go_wp2_with fail
          exact hK.out _ _ _ (by rw [hA]; simp only [putF]; kernel_rfl) (Below.refl _ _) rfl
        · intro K us W hK0 hB hd
          have hK := hid hK0; clear hK0
          have HBW := hid hB
          clear hd
          simp only [putF]
          rw [hA]
          go_frame
          go_wp2_with fail
          exact hK.out _ _ _ (by rw [hA]; simp only [putF]; kernel_rfl) (Below.refl _ _) rfl
        · intro K us W hK0 hB hd
          have hK := hid hK0; clear hK0
          have HBW := hid hB
          clear hd
          simp only [putF]
          rw [hA]
          go_frame
          go_wp2_with fail
          exact hK.out _ _ _ (by rw [hA]; simp only [putF]; kernel_rfl) (Below.refl _ _) rfl
        · intro K us W hK0 hB hd
          have hK := hid hK0; clear hK0
          have HBW := hid hB
          have e2 : us 2 = .pointer (some ⟨g, 0, none⟩) := hd ⟨2, Ground.data⟩ (by simp) rfl
          clear hd
          simp only [putF]
          rw [hA, e2]
          go_frame
          go_wp2_with fail
          exact hK.out _ _ _ (by rw [hA]; simp only [putF]; rw [e2]; kernel_rfl) (Below.refl _ _) rfl
        · intro K us W hK0 hB hd
          have hK := hid hK0; clear hK0
          have HBW := hid hB
          have e4 : us 4 = .pointer (some ⟨g, 0, none⟩) := hd ⟨4, Ground.data⟩ (by simp) rfl
          clear hd
          simp only [putF]
          rw [hA, e4]
          go_frame
          go_wp2_with fail
          exact hK.out _ _ _ (by rw [hA]; simp only [putF]; rw [e4]; kernel_rfl) (Below.refl _ _) rfl
        · intro K us W hK0 hB hd
          have hK := hid hK0; clear hK0
          have HBW := hid hB
          have e5 : us 5 = .pointer (some ⟨g, 3, none⟩) := hd ⟨5, Ground.data⟩ (by simp) rfl
          have e3 : us 3 = .int .i64 1 := hd ⟨3, Ground.data⟩ (by simp) rfl
          clear hd
          simp only [putF]
          rw [hA, e5, e3]
          go_frame
          go_wp2_with fail
          exact hK.out _ _ _ (by rw [hA]; simp only [putF]; rw [e5, e3]; kernel_rfl) (Below.refl _ _) rfl
        · intro K us W hK0 hB hd
          have hK := hid hK0; clear hK0
          have HBW := hid hB
          have e6 : us 6 = .pointer (some ⟨g, 5, none⟩) := hd ⟨6, Ground.data⟩ (by simp) rfl
          clear hd
          simp only [putF]
          rw [hA, e6]
          go_frame
          go_wp2_with fail
          exact hK.out _ _ _ (by rw [hA]; simp only [putF]; rw [e6]; kernel_rfl) (Below.refl _ _) rfl
        · intro K us W hK0 hB hd
          have hK := hid hK0; clear hK0
          have HBW := hid hB
          have e7 : us 7 = .pointer (some ⟨g, 5, none⟩) := hd ⟨7, Ground.data⟩ (by simp) rfl
          clear hd
          have c0 : W.cell? ⟨g, 5, none⟩ = some (.slice a1 b1.length d1) := (HD.out.still hB).c5
          simp only [putF]
          rw [hA, e7]
          go_frame
          go_wp2_with fail
          exact hK.out _ _ _ (by rw [hA]; simp only [putF]; rw [e7]; kernel_rfl) (Below.refl _ _) rfl
        · intro K us W hK0 hB hd
          have hK := hid hK0; clear hK0
          have HBW := hid hB
          have e8 : us 8 = .slice a1 b1.length d1 := hd ⟨8, Ground.data⟩ (by simp) rfl
          clear hd
          simp only [putF]
          rw [hA, e8]
          go_frame
          go_wp2_with fail
          refine (xclone_any _ b1 _ (own_rdb (HD.out.still HBW.out).o1) hn1).mono ?_
          rintro r W9 ⟨⟨v9, rfl, hv9⟩, hb9⟩
          go_wp2_with fail
          exact hK.out _ _ _ (by rw [hA]; simp only [putF]; rw [e8]; kernel_rfl) hb9 (own_low hv9 HBW.out.size)
        · intro K us W hK0 hB hd
          have hK := hid hK0; clear hK0
          have HBW := hid hB
          have e0 : us 0 = .pointer (some ⟨gn, 0, none⟩) := hd ⟨0, Ground.data⟩ (by simp) rfl
          clear hd
          simp only [putF]
          rw [hA, e0]
          go_frame
          go_wp2_with fail
          exact hK.out _ _ _ (by rw [hA]; simp only [putF]; rw [e0]; kernel_rfl) (Below.refl _ _) rfl
        · intro K us W hK0 hB hd
          have hK := hid hK0; clear hK0
          have HBW := hid hB
          have e10 : us 10 = .pointer (some ⟨gn, 0, none⟩) := hd ⟨10, Ground.data⟩ (by simp) rfl
          clear hd
          simp only [putF]
          rw [hA, e10]
          go_frame
          go_wp2_with fail
          exact hK.out _ _ _ (by rw [hA]; simp only [putF]; rw [e10]; kernel_rfl) (Below.refl _ _) rfl
      case ht71 =>
        intro us X1 hBB hp
        have e0 : us 0 = .pointer (some ⟨gn, 0, none⟩) := hp 0 (by decide)
        have e1 : us 1 = .int .i64 1 := hp 1 (by decide)
        have e2 : us 2 = .pointer (some ⟨g, 0, none⟩) := hp 2 (by decide)
        have e3 : us 3 = .int .i64 1 := hp 3 (by decide)
        have e4 : us 4 = .pointer (some ⟨g, 0, none⟩) := hp 4 (by decide)
        have e5 : us 5 = .pointer (some ⟨g, 3, none⟩) := hp 5 (by decide)
        have e6 : us 6 = .pointer (some ⟨g, 5, none⟩) := hp 6 (by decide)
        have e7 : us 7 = .pointer (some ⟨g, 5, none⟩) := hp 7 (by decide)
        have e8 : us 8 = .slice a1 b1.length d1 := hp 8 (by decide)
        have e10 : us 10 = .pointer (some ⟨gn, 0, none⟩) := hp 10 (by decide)
        have e11 : us 11 = .pointer (some ⟨gn, 3, none⟩) := hp 11 (by decide)
        have e9n : NewB Y0.heap.size b1.length (u8s b1) X1 (us 9) := hp 9 (by decide)
        obtain ⟨p1, q1, e9⟩ := own_slice e9n
        rw [e9] at e9n
        have HN1 := hid (own_low (B' := w.heap.size) e9n HB3.out.size)
        have HNL1 := hid (fun k (hk : (Value.slice p1 b1.length q1).ownBlock = some k) => (e9n.lt k hk).1)
        clear e9n hp
        have HD := hid (HD.out.still hBB)
        have HN0 := hid (own_same (W' := X1) HN0.out (fun k hk => hBB.block k (HN0.out.lt k hk).2))
        have KN := hid (heap_still hBB KN.out)
        have HB3 := hid (HB3.out.trans (hBB.mono HB3.out.size))
        clear hBB
        have c0 : X1.cell? ⟨gn, 5, none⟩ = some (.slice a1 b1.length d1) := (cell_row (j := 5) KN.out).trans rfl
        have z0 : X1.frozen? ⟨gn, 5, none⟩ = false := by have hh := KN.out; simp [World.frozen?, hh]
        refine seqs_step rfl ?_
        intro K hK0
        have hK := hid hK0; clear hK0
        simp only [putF]
        rw [hA, e0, e1, e2, e3, e4, e5, e6, e7, e8, e9, e10, e11]
        go_frame
        go_wp2_with fail
        refine hK.out (.pointer (some ⟨gn, 5, none⟩)) _ _ (by rw [hA]; simp only [putF]; rw [e0, e1, e2, e3, e4, e5, e6, e7, e8, e9, e10, e11]; kernel_rfl) ?_
        clear hK hA e0 e1 e2 e3 e4 e5 e6 e7 e8 e9 e10 e11
        refine seqs_step rfl ?_
        intro K hK0
        have hK := hid hK0; clear hK0
        go_wp2_with fail
        refine hK.out (.pointer (some ⟨gn, 5, none⟩)) _ _ (by kernel_rfl) ?_
        clear hK
        refine seqs_step rfl ?_
        intro K hK0
        have hK := hid hK0; clear hK0
        go_wp2_with fail
        refine hK.out undef _ _ (by kernel_rfl) ?_
        clear hK z0 c0
        refine seqs_end rfl ?_
        go_wp2_with fail
        refine gen_world (fun Y1 hY => ?_)
        have HN1k : ∀ k, (Value.slice p1 b1.length q1).ownBlock = some k → k ≠ gn := fun k hk e => by have h1 := HNL1.out k hk; have h2 := hgk0.out; omega
        have KN := hid (show Y1.heap[gn]? = some (.cells #[.bool true, .bool dn, .int .i64 lf, .slice p0 b0.length q0, .int .i64 (s0 : Int), .slice p1 b1.length q1, .int .i64 (s1 : Int)] 107) by rw [hY]; exact heap_setCell KN.out _)
        have hoth : ∀ k, k ≠ gn → Y1.heap[k]? = X1.heap[k]? := fun k hk => by rw [hY]; exact Below.heap_setCell X1 ⟨gn, 5, none⟩ _ k hk
        have HN1 := hid (own_same (W' := Y1) HN1.out (fun k hk => hoth k (HN1k k hk)))
        have HN0 := hid (own_same (W' := Y1) HN0.out (fun k hk => hoth k (HN0q.out k hk)))
        have HD := hid (show DX Y1 B g dn lf ⟨.slice a0 b0.length d0, b0, s0⟩ ⟨.slice a1 b1.length d1, b1, s1⟩ from HD.out.frame (F := fun k => k = gn) (by rw [hY]; exact Fr.set rfl) (fun k hk e => by have h1 := hft.out k hk; omega))
        have HB3 := hid (show Below w.heap.size w Y1 by rw [hY]; exact HB3.out.setCell (p := ⟨gn, 5, none⟩) hge _)
        clear hY hoth HN1k
        (try rw [rounds_succ])
        go_wp2_with fail
        go_ret
        refine ⟨⟨gn, rfl, .slice p0 b0.length q0, .slice p1 b1.length q1, KN.out, hge, HN0.out, HN1.out, fun e => HN0q.out _ e rfl, fun e => by have h1 := HNL1.out _ e; have h2 := hgk0.out; omega, fun k hk e => ?_⟩, HB3.out⟩
        have h1 := HNL1.out k e
        have h2 := HN0s.out k hk
        omega
end Go.Proofs.Yteanlcefdoigcaa
