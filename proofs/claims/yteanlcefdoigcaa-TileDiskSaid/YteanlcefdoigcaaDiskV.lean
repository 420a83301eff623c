/- The reference's disk: Fork 37. (Printed by wip/gen_diskv.py.) -/
import Derived.Test.YteanlcefdoigcaaDiskU
namespace Go.Proofs.Yteanlcefdoigcaa
open Go.RowKit

set_option maxRecDepth 100000 in
set_option maxHeartbeats 6400000 in
theorem rfork_any (g B : Nat) (dn : Bool) (lf : Int) (f0 f1 : Fl) (w : World) (h : DR w B g dn lf f0 f1) (hn0 : f0.b.length ≤ 1000000) (hn1 : f1.b.length ≤ 1000000) :
    Calls Try.prog 37 #[.pointer (some ⟨g, 0, none⟩)] w fun r w' => (∃ g2 v0 v1, r = .returned (.pointer (some ⟨g2, 0, none⟩)) ∧ DR w' w.heap.size g2 dn lf ⟨v0, f0.b, f0.s⟩ ⟨v1, f1.b, f1.s⟩) ∧ Below w.heap.size w w' := by
  have HD := hid h
  have HLT := hid (Dsk.foot_lt h)
  clear h
  obtain ⟨v0, b0, s0⟩ := f0
  obtain ⟨v1, b1, s1⟩ := f1
  simp only at hn0 hn1 ⊢
  have HR0 := hid (own_rdb HD.out.o0)
  have HR1 := hid (own_rdb HD.out.o1)
  obtain ⟨n0, hn0e⟩ : ∃ n0, n0 = b0.length := ⟨_, rfl⟩
  obtain ⟨n1, hn1e⟩ : ∃ n1, n1 = b1.length := ⟨_, rfl⟩
  have HN0 := hid hn0e
  have HN1 := hid hn1e
  rw [← hn0e] at hn0
  rw [← hn1e] at hn1
  obtain ⟨i0, hi0, hz0, hz1, hz2⟩ := info_parts info5
  have HI := hid hi0
  have HZ0 := hid hz0
  have HZ1 := hid hz1
  have HZ2 := hid hz2
  clear hi0 hz0 hz1 hz2
  have HB0 := hid (Below.refl w.heap.size w)
  rcases HR0.out with ⟨e1, e2⟩ | ⟨ad0, d0, e1, hc0⟩
  · obtain rfl : v0 = .slice none 0 0 := e1
    obtain rfl : b0 = [] := e2
    clear hn0e
    rcases HR1.out with ⟨e1, e2⟩ | ⟨ad1, d1, e1, hc1⟩
    · obtain rfl : v1 = .slice none 0 0 := e1
      obtain rfl : b1 = [] := e2
      clear hn1e HR0 HR1
      go_enter Try.func37, Try.ntmps37
      go_wp2_with fail
      refine gen_act (fun A0 hA => ?_)
      refine wp_region_tail (by kernel_rfl) (by kernel_rfl) [some 5, some 6, some 7, some 8, some 9, some 10, some 11, some 12, some 13, some 14, some 15, some 16, some 17, some 18, some 3] rfl (by decide) 13 (by decide) (by kernel_rfl) (by kernel_rfl)
        [IsV (.pointer (some ⟨g, 0, none⟩)), IsV (.pointer (some ⟨g, 0, none⟩)), IsV (.pointer (some ⟨g, 2, none⟩)), IsV (.agg #[.int .i64 (s0 : Int), .int .i64 (s1 : Int)]), IsV (.pointer (some ⟨g, 0, none⟩)), IsV (.pointer (some ⟨g, 0, none⟩)), IsV (.pointer (some ⟨g, 4, none⟩)), IsV (.bool dn), IsV (.pointer (some ⟨g, 0, none⟩)), IsV (.pointer (some ⟨g, 0, none⟩)), IsV (.pointer (some ⟨g, 5, none⟩)), IsV (.int .i64 lf), IsV (.agg #[.slice none 0 0, .slice none 0 0, .int .i64 (s0 : Int), .int .i64 (s1 : Int), .bool dn, .int .i64 lf])]
        ⟨IsV.stb _, IsV.stb _, IsV.stb _, IsV.stb _, IsV.stb _, IsV.stb _, IsV.stb _, IsV.stb _, IsV.stb _, IsV.stb _, IsV.stb _, IsV.stb _, IsV.stb _, trivial⟩ ?hsM00 ?htM00
      case hsM00 =>
        refine ⟨?_, ?_, ?_, ?_, ?_, ?_, ?_, ?_, ?_, ?_, ?_, ?_, ?_, trivial⟩
        · intro K us W hK0 hB hd
          have hK := hid hK0; clear hK0
          have HBW := hid hB
          clear hd
          simp only [putF]
          rw [hA]
          go_frame
          go_wp2_with fail
          exact hK.out _ _ _ (by rw [hA]; simp only [putF]; kernel_rfl) (Below.refl _ _) rfl
        · intro K us W hK0 hB hd
          have hK := hid hK0; clear hK0
          have HBW := hid hB
          have e0 : us 0 = .pointer (some ⟨g, 0, none⟩) := hd ⟨0, Ground.data⟩ (by simp) rfl
          clear hd
          simp only [putF]
          rw [hA, e0]
          go_frame
          go_wp2_with fail
          exact hK.out _ _ _ (by rw [hA]; simp only [putF]; rw [e0]; kernel_rfl) (Below.refl _ _) rfl
        · intro K us W hK0 hB hd
          have hK := hid hK0; clear hK0
          have HBW := hid hB
          have e1 : us 1 = .pointer (some ⟨g, 0, none⟩) := hd ⟨1, Ground.data⟩ (by simp) rfl
          clear hd
          simp only [putF]
          rw [hA, e1]
          go_frame
          go_wp2_with fail
          exact hK.out _ _ _ (by rw [hA]; simp only [putF]; rw [e1]; kernel_rfl) (Below.refl _ _) rfl
        · intro K us W hK0 hB hd
          have hK := hid hK0; clear hK0
          have HBW := hid hB
          have e2 : us 2 = .pointer (some ⟨g, 2, none⟩) := hd ⟨2, Ground.data⟩ (by simp) rfl
          clear hd
          have z2 : W.cell? ⟨g, 2, none⟩ = some (.int .i64 (s0 : Int)) := (HD.out.still hB).c2
          have z3 : W.cell? ⟨g, 3, none⟩ = some (.int .i64 (s1 : Int)) := (HD.out.still hB).c3
          simp only [putF]
          rw [hA, e2]
          go_frame
          go_wp2_with fail
          exact hK.out _ _ _ (by rw [hA]; simp only [putF]; rw [e2]; kernel_rfl) (Below.refl _ _) rfl
        · intro K us W hK0 hB hd
          have hK := hid hK0; clear hK0
          have HBW := hid hB
          clear hd
          simp only [putF]
          rw [hA]
          go_frame
          go_wp2_with fail
          exact hK.out _ _ _ (by rw [hA]; simp only [putF]; kernel_rfl) (Below.refl _ _) rfl
        · intro K us W hK0 hB hd
          have hK := hid hK0; clear hK0
          have HBW := hid hB
          have e4 : us 4 = .pointer (some ⟨g, 0, none⟩) := hd ⟨4, Ground.data⟩ (by simp) rfl
          clear hd
          simp only [putF]
          rw [hA, e4]
          go_frame
          go_wp2_with fail
          exact hK.out _ _ _ (by rw [hA]; simp only [putF]; rw [e4]; kernel_rfl) (Below.refl _ _) rfl
        · intro K us W hK0 hB hd
          have hK := hid hK0; clear hK0
          have HBW := hid hB
          have e5 : us 5 = .pointer (some ⟨g, 0, none⟩) := hd ⟨5, Ground.data⟩ (by simp) rfl
          clear hd
          simp only [putF]
          rw [hA, e5]
          go_frame
          go_wp2_with fail
          exact hK.out _ _ _ (by rw [hA]; simp only [putF]; rw [e5]; kernel_rfl) (Below.refl _ _) rfl
        · intro K us W hK0 hB hd
          have hK := hid hK0; clear hK0
          have HBW := hid hB
          have e6 : us 6 = .pointer (some ⟨g, 4, none⟩) := hd ⟨6, Ground.data⟩ (by simp) rfl
          clear hd
          have z4 : W.cell? ⟨g, 4, none⟩ = some (.bool dn) := (HD.out.still hB).c4
          simp only [putF]
          rw [hA, e6]
          go_frame
          go_wp2_with fail
          exact hK.out _ _ _ (by rw [hA]; simp only [putF]; rw [e6]; kernel_rfl) (Below.refl _ _) rfl
        · intro K us W hK0 hB hd
          have hK := hid hK0; clear hK0
          have HBW := hid hB
          clear hd
          simp only [putF]
          rw [hA]
          go_frame
          go_wp2_with fail
          exact hK.out _ _ _ (by rw [hA]; simp only [putF]; kernel_rfl) (Below.refl _ _) rfl
        · intro K us W hK0 hB hd
          have hK := hid hK0; clear hK0
          have HBW := hid hB
          have e8 : us 8 = .pointer (some ⟨g, 0, none⟩) := hd ⟨8, Ground.data⟩ (by simp) rfl
          clear hd
          simp only [putF]
          rw [hA, e8]
          go_frame
          go_wp2_with fail
          exact hK.out _ _ _ (by rw [hA]; simp only [putF]; rw [e8]; kernel_rfl) (Below.refl _ _) rfl
        · intro K us W hK0 hB hd
          have hK := hid hK0; clear hK0
          have HBW := hid hB
          have e9 : us 9 = .pointer (some ⟨g, 0, none⟩) := hd ⟨9, Ground.data⟩ (by simp) rfl
          clear hd
          simp only [putF]
          rw [hA, e9]
          go_frame
          go_wp2_with fail
          exact hK.out _ _ _ (by rw [hA]; simp only [putF]; rw [e9]; kernel_rfl) (Below.refl _ _) rfl
        · intro K us W hK0 hB hd
          have hK := hid hK0; clear hK0
          have HBW := hid hB
          have e10 : us 10 = .pointer (some ⟨g, 5, none⟩) := hd ⟨10, Ground.data⟩ (by simp) rfl
          clear hd
          have z5 : W.cell? ⟨g, 5, none⟩ = some (.int .i64 lf) := (HD.out.still hB).c5
          simp only [putF]
          rw [hA, e10]
          go_frame
          go_wp2_with fail
          exact hK.out _ _ _ (by rw [hA]; simp only [putF]; rw [e10]; kernel_rfl) (Below.refl _ _) rfl
        · intro K us W hK0 hB hd
          have hK := hid hK0; clear hK0
          have HBW := hid hB
          have e3 : us 3 = .agg #[.int .i64 (s0 : Int), .int .i64 (s1 : Int)] := hd ⟨3, Ground.data⟩ (by simp) rfl
          have e7 : us 7 = .bool dn := hd ⟨7, Ground.data⟩ (by simp) rfl
          have e11 : us 11 = .int .i64 lf := hd ⟨11, Ground.data⟩ (by simp) rfl
          clear hd
          simp only [putF]
          rw [hA, e3, e7, e11]
          go_frame
          go_wp2_with fail
          exact hK.out _ _ _ (by rw [hA]; simp only [putF]; rw [e3, e7, e11]; kernel_rfl) (Below.refl _ _) rfl
      case htM00 =>
        intro us WW hBB hp
        have e0 : us 0 = .pointer (some ⟨g, 0, none⟩) := hp 0 (by decide)
        have e1 : us 1 = .pointer (some ⟨g, 0, none⟩) := hp 1 (by decide)
        have e2 : us 2 = .pointer (some ⟨g, 2, none⟩) := hp 2 (by decide)
        have e3 : us 3 = .agg #[.int .i64 (s0 : Int), .int .i64 (s1 : Int)] := hp 3 (by decide)
        have e4 : us 4 = .pointer (some ⟨g, 0, none⟩) := hp 4 (by decide)
        have e5 : us 5 = .pointer (some ⟨g, 0, none⟩) := hp 5 (by decide)
        have e6 : us 6 = .pointer (some ⟨g, 4, none⟩) := hp 6 (by decide)
        have e7 : us 7 = .bool dn := hp 7 (by decide)
        have e8 : us 8 = .pointer (some ⟨g, 0, none⟩) := hp 8 (by decide)
        have e9 : us 9 = .pointer (some ⟨g, 0, none⟩) := hp 9 (by decide)
        have e10 : us 10 = .pointer (some ⟨g, 5, none⟩) := hp 10 (by decide)
        have e11 : us 11 = .int .i64 lf := hp 11 (by decide)
        have e12 : us 12 = .agg #[.slice none 0 0, .slice none 0 0, .int .i64 (s0 : Int), .int .i64 (s1 : Int), .bool dn, .int .i64 lf] := hp 12 (by decide)
        clear hp
        have HD := hid (HD.out.still hBB)
        have HB0 := hid (HB0.out.trans (hBB.mono HB0.out.size))
        have hzz := HB0.out.size
        clear hBB
        refine seqs_step rfl ?_
        intro K hK0
        have hK := hid hK0; clear hK0
        simp only [putF]
        rw [hA, e0, e1, e2, e3, e4, e5, e6, e7, e8, e9, e10, e11, e12]
        go_frame
        go_wp2_with fail
        refine hK.out (.pointer (some ⟨WW.heap.size, 0, none⟩)) _ _ (by rw [hA]; simp only [putF]; rw [e0, e1, e2, e3, e4, e5, e6, e7, e8, e9, e10, e11, e12]; kernel_rfl) ?_
        clear hK hA e0 e1 e2 e3 e4 e5 e6 e7 e8 e9 e10 e11 e12
        refine seqs_step rfl ?_
        intro K hK0
        have hK := hid hK0; clear hK0
        go_wp2_with fail
        refine hK.out (.pointer (some ⟨WW.heap.size, 0, none⟩)) _ _ (by kernel_rfl) ?_
        clear hK
        refine seqs_end rfl ?_
        go_wp2_with fail
        refine gen_world (fun W3 hW3 => ?_)
        have KN := hid (show W3.heap[WW.heap.size]? = some (.cells #[.slice none 0 0, .slice none 0 0, .int .i64 (s0 : Int), .int .i64 (s1 : Int), .bool dn, .int .i64 lf] 74) by rw [hW3]; exact heap_alloc_at _ _ _ rfl)
        have HD := hid (show DR W3 B g dn lf ⟨.slice none 0 0, ([] : List Nat), s0⟩ ⟨.slice none 0 0, ([] : List Nat), s1⟩ by rw [hW3]; exact HD.out.still ((Below.refl _ _).alloc (Nat.le_refl _) _))
        have HB3 := hid (show Below w.heap.size w W3 by rw [hW3]; exact HB0.out.alloc hzz _)
        clear hW3 HB0
        obtain ⟨gn, hgn2⟩ : ∃ gn, gn = WW.heap.size := ⟨_, rfl⟩
        rw [← hgn2] at KN ⊢
        have hge : w.heap.size ≤ gn := by omega
        have hgk := hid (show gn < W3.heap.size from (Array.getElem?_eq_some_iff.1 KN.out).1)
        clear hgn2 hzz
        refine wp_loop_rounds 3 ?_
        rw [rounds_succ]
        have HFT := hid (fun k (hk : foot g ⟨.slice none 0 0, ([] : List Nat), s0⟩ ⟨.slice none 0 0, ([] : List Nat), s1⟩ k) => show k < W3.heap.size by have h1 := HLT.out k hk; have h2 := HB3.out.size; omega)
        have HFG := hid (fun k (hk : foot g ⟨.slice none 0 0, ([] : List Nat), s0⟩ ⟨.slice none 0 0, ([] : List Nat), s1⟩ k) => show k ≠ gn from fun e => by have h1 := HLT.out k hk; omega)
        have HGK := hid hgk.out
        have HW0 := hid (show w.heap.size ≤ W3.heap.size from HB3.out.size)
        go_wp2_with fail
        refine gen_act (fun A0 hA => ?_)
        refine wp_region_by (by kernel_rfl) (by kernel_rfl) [some 22, some 23, some 24, some 25, some 26, some 27, some 28, some 29, some 30, some 31, some 32, some 33, some 34, none] rfl (by decide) (StR (fun j => ([.pointer (some ⟨gn, 0, none⟩), .int .i64 0, undef, .pointer (some ⟨g, 0, none⟩), .int .i64 0, .pointer (some ⟨g, 0, none⟩), .pointer (some ⟨g, 0, none⟩), .pointer (some ⟨g, 0, none⟩), .slice none 0 0, undef, .pointer (some ⟨gn, 0, none⟩), .pointer (some ⟨gn, 0, none⟩), .pointer (some ⟨gn, 0, none⟩), undef] : List Value).getD j undef) [2, 9, 13] (fun kk vv WW => (match kk with | 0 => WW.heap[gn]? = some (.cells #[.slice none 0 0, .slice none 0 0, .int .i64 (s0 : Int), .int .i64 (s1 : Int), .bool dn, .int .i64 lf] 74) | 1 => WW.heap[gn]? = some (.cells #[.slice none 0 0, .slice none 0 0, .int .i64 (s0 : Int), .int .i64 (s1 : Int), .bool dn, .int .i64 lf] 74) ∧ (∃ q, vv 0 = .slice (some ⟨q, 0, none⟩) 0 0) ∧ WW.ownsRow W3.heap.size 5 1 (vv 0) 0 [] | 2 => WW.heap[gn]? = some (.cells #[.slice none 0 0, .slice none 0 0, .int .i64 (s0 : Int), .int .i64 (s1 : Int), .bool dn, .int .i64 lf] 74) ∧ WW.ownsRow W3.heap.size 5 1 (vv 1) 0 (u8s ([] : List Nat)) | _ => WW.heap[gn]? = some (.cells #[vv 1, .slice none 0 0, .int .i64 (s0 : Int), .int .i64 (s1 : Int), .bool dn, .int .i64 lf] 74) ∧ WW.ownsRow W3.heap.size 5 1 (vv 1) 0 (u8s ([] : List Nat))) ∧ DR WW B g dn lf ⟨.slice none 0 0, ([] : List Nat), s0⟩ ⟨.slice none 0 0, ([] : List Nat), s1⟩ ∧ Below w.heap.size w WW ∧ W3.heap.size ≤ WW.heap.size)) (selfF A0 _) (putF_self A0 _)
          (StR.start ⟨(((Below.refl _ _).drew).block _ hgk.out).trans KN.out, HD.out.still (Below.refl _ _).drew, HB3.out.drew, ((Below.refl W3.heap.size W3).drew).size⟩ (fun _ => rfl)) ?hsF000 ?htF000
        case hsF000 =>
          refine ⟨?_, ?_, ?_, ?_, ?_, ?_, ?_, ?_, ?_, ?_, ?_, ?_, ?_, ?_, trivial⟩
          · intro K L us W hK0 hL hd hR
            have hK := hid (fun v9 A9 h1 (h3 : v9 = .pointer (some ⟨gn, 0, none⟩)) => hK0 v9 A9 W h1 (hR.pure (by decide) h3)); clear hK0
            clear hd
            simp only [putF]
            rw [hA]
            go_frame
            go_wp2_with fail
            exact hK.out _ _ (by rw [hA]; simp only [putF]; kernel_rfl) rfl
          · intro K L us W hK0 hL hd hR
            have hK := hid (fun v9 A9 h1 (h3 : v9 = .int .i64 0) => hK0 v9 A9 W h1 (hR.pure (by decide) h3)); clear hK0
            clear hd
            simp only [putF]
            rw [hA]
            go_frame
            go_wp2_with fail
            exact hK.out _ _ (by rw [hA]; simp only [putF]; kernel_rfl) rfl
          · intro K L us W hK0 hL hd hR
            have hS := hR.at 0 (by decide) (.inl rfl) hL
            have hK := hid (fun v9 A9 W9 h1 (hS' : (fun kk vv WW => (match kk with | 0 => WW.heap[gn]? = some (.cells #[.slice none 0 0, .slice none 0 0, .int .i64 (s0 : Int), .int .i64 (s1 : Int), .bool dn, .int .i64 lf] 74) | 1 => WW.heap[gn]? = some (.cells #[.slice none 0 0, .slice none 0 0, .int .i64 (s0 : Int), .int .i64 (s1 : Int), .bool dn, .int .i64 lf] 74) ∧ (∃ q, vv 0 = .slice (some ⟨q, 0, none⟩) 0 0) ∧ WW.ownsRow W3.heap.size 5 1 (vv 0) 0 [] | 2 => WW.heap[gn]? = some (.cells #[.slice none 0 0, .slice none 0 0, .int .i64 (s0 : Int), .int .i64 (s1 : Int), .bool dn, .int .i64 lf] 74) ∧ WW.ownsRow W3.heap.size 5 1 (vv 1) 0 (u8s ([] : List Nat)) | _ => WW.heap[gn]? = some (.cells #[vv 1, .slice none 0 0, .int .i64 (s0 : Int), .int .i64 (s1 : Int), .bool dn, .int .i64 lf] 74) ∧ WW.ownsRow W3.heap.size 5 1 (vv 1) 0 (u8s ([] : List Nat))) ∧ DR WW B g dn lf ⟨.slice none 0 0, ([] : List Nat), s0⟩ ⟨.slice none 0 0, ([] : List Nat), s1⟩ ∧ Below w.heap.size w WW ∧ W3.heap.size ≤ WW.heap.size) 1 (fun j => if j = 0 then v9 else selV [2, 9, 13] us j) W9) => hK0 v9 A9 W9 h1 (hR.next (by decide) 0 (by decide) (.inl rfl) hL hS')); clear hK0
            obtain ⟨hK4, hD4, hB4, hz4⟩ := hS
            have K4 := hid hK4
            have D4 := hid hD4
            have B4 := hid hB4
            clear hD4 hB4 hK4
            clear hd
            simp only [putF]
            rw [hA]
            go_frame
            go_wp2_with fail
            refine hK.out (.slice (some ⟨W.heap.size, 0, none⟩) 0 0) _ _ (by rw [hA]; simp only [putF]; kernel_rfl) ?_
            exact ⟨⟨heap_still ((Below.refl W.heap.size W).alloc (Nat.le_refl _) (.cells #[] 5)) K4.out, ⟨_, rfl⟩, World.ownsRow_lit (base := W3.heap.size) W #[] 0 hz4 (by unfold maxLen; omega) rfl⟩, D4.out.still ((Below.refl W.heap.size W).alloc (Nat.le_refl _) (.cells #[] 5)), B4.out.trans (((Below.refl W.heap.size W).alloc (Nat.le_refl _) (.cells #[] 5)).mono B4.out.size), by simp; omega⟩
          · intro K L us W hK0 hL hd hR
            have hK := hid (fun v9 A9 h1 (h3 : v9 = .pointer (some ⟨g, 0, none⟩)) => hK0 v9 A9 W h1 (hR.pure (by decide) h3)); clear hK0
            clear hd
            simp only [putF]
            rw [hA]
            go_frame
            go_wp2_with fail
            exact hK.out _ _ (by rw [hA]; simp only [putF]; kernel_rfl) rfl
          · intro K L us W hK0 hL hd hR
            have hK := hid (fun v9 A9 h1 (h3 : v9 = .int .i64 0) => hK0 v9 A9 W h1 (hR.pure (by decide) h3)); clear hK0
            clear hd
            simp only [putF]
            rw [hA]
            go_frame
            go_wp2_with fail
            exact hK.out _ _ (by rw [hA]; simp only [putF]; kernel_rfl) rfl
          · intro K L us W hK0 hL hd hR
            have e3 : us 3 = .pointer (some ⟨g, 0, none⟩) := hR.vals 3 (by decide) (all_on hd ⟨3, Ground.data⟩ (by simp) rfl)
            have hK := hid (fun v9 A9 h1 (h3 : v9 = .pointer (some ⟨g, 0, none⟩)) => hK0 v9 A9 W h1 (hR.pure (by decide) h3)); clear hK0
            clear hd
            simp only [putF]
            rw [hA, e3]
            go_frame
            go_wp2_with fail
            exact hK.out _ _ (by rw [hA]; simp only [putF]; rw [e3]; kernel_rfl) rfl
          · intro K L us W hK0 hL hd hR
            have e5 : us 5 = .pointer (some ⟨g, 0, none⟩) := hR.vals 5 (by decide) (all_on hd ⟨5, Ground.data⟩ (by simp) rfl)
            have hK := hid (fun v9 A9 h1 (h3 : v9 = .pointer (some ⟨g, 0, none⟩)) => hK0 v9 A9 W h1 (hR.pure (by decide) h3)); clear hK0
            clear hd
            simp only [putF]
            rw [hA, e5]
            go_frame
            go_wp2_with fail
            exact hK.out _ _ (by rw [hA]; simp only [putF]; rw [e5]; kernel_rfl) rfl
          · intro K L us W hK0 hL hd hR
            have e6 : us 6 = .pointer (some ⟨g, 0, none⟩) := hR.vals 6 (by decide) (all_on hd ⟨6, Ground.data⟩ (by simp) rfl)
            have e4 : us 4 = .int .i64 0 := hR.vals 4 (by decide) (all_on hd ⟨4, Ground.data⟩ (by simp) rfl)
            have hK := hid (fun v9 A9 h1 (h3 : v9 = .pointer (some ⟨g, 0, none⟩)) => hK0 v9 A9 W h1 (hR.pure (by decide) h3)); clear hK0
            clear hd
            simp only [putF]
            rw [hA, e6, e4]
            go_frame
            go_wp2_with fail
            exact hK.out _ _ (by rw [hA]; simp only [putF]; rw [e6, e4]; kernel_rfl) rfl
          · intro K L us W hK0 hL hd hR
            have e7 : us 7 = .pointer (some ⟨g, 0, none⟩) := hR.vals 7 (by decide) (all_on hd ⟨7, Ground.data⟩ (by simp) rfl)
            have hK := hid (fun v9 A9 h1 (h3 : v9 = .slice none 0 0) => hK0 v9 A9 W h1 (hR.pure (by decide) h3)); clear hK0
            have hst := hR.st
            obtain ⟨kq, _, _, hSq⟩ := hst
            have hD4 : DR W B g dn lf ⟨.slice none 0 0, ([] : List Nat), s0⟩ ⟨.slice none 0 0, ([] : List Nat), s1⟩ := hSq.2.1
            have z0 : W.cell? ⟨g, 0, none⟩ = some (.slice none 0 0) := hD4.c0
            clear hSq hD4
            clear hd
            simp only [putF]
            rw [hA, e7]
            go_frame
            go_wp2_with fail
            exact hK.out _ _ (by rw [hA]; simp only [putF]; rw [e7]; kernel_rfl) rfl
          · intro K L us W hK0 hL hd hR
            have e8 : us 8 = .slice none 0 0 := hR.vals 8 (by decide) (all_on hd ⟨8, Ground.data⟩ (by simp) rfl)
            have hS := hR.at 1 (by decide) (.inr ⟨by decide, all_on hd ⟨2, Ground.data⟩ (by simp) rfl⟩) hL
            have hK := hid (fun v9 A9 W9 h1 (hS' : (fun kk vv WW => (match kk with | 0 => WW.heap[gn]? = some (.cells #[.slice none 0 0, .slice none 0 0, .int .i64 (s0 : Int), .int .i64 (s1 : Int), .bool dn, .int .i64 lf] 74) | 1 => WW.heap[gn]? = some (.cells #[.slice none 0 0, .slice none 0 0, .int .i64 (s0 : Int), .int .i64 (s1 : Int), .bool dn, .int .i64 lf] 74) ∧ (∃ q, vv 0 = .slice (some ⟨q, 0, none⟩) 0 0) ∧ WW.ownsRow W3.heap.size 5 1 (vv 0) 0 [] | 2 => WW.heap[gn]? = some (.cells #[.slice none 0 0, .slice none 0 0, .int .i64 (s0 : Int), .int .i64 (s1 : Int), .bool dn, .int .i64 lf] 74) ∧ WW.ownsRow W3.heap.size 5 1 (vv 1) 0 (u8s ([] : List Nat)) | _ => WW.heap[gn]? = some (.cells #[vv 1, .slice none 0 0, .int .i64 (s0 : Int), .int .i64 (s1 : Int), .bool dn, .int .i64 lf] 74) ∧ WW.ownsRow W3.heap.size 5 1 (vv 1) 0 (u8s ([] : List Nat))) ∧ DR WW B g dn lf ⟨.slice none 0 0, ([] : List Nat), s0⟩ ⟨.slice none 0 0, ([] : List Nat), s1⟩ ∧ Below w.heap.size w WW ∧ W3.heap.size ≤ WW.heap.size) 2 (fun j => if j = 1 then v9 else selV [2, 9, 13] us j) W9) => hK0 v9 A9 W9 h1 (hR.next (by decide) 1 (by decide) (.inr ⟨by decide, all_on hd ⟨2, Ground.data⟩ (by simp) rfl⟩) hL hS')); clear hK0
            obtain ⟨⟨hK4, ⟨q, hq⟩, hW4⟩, hD4, hB4, hz4⟩ := hS
            have K4 := hid hK4
            have e2 : us 2 = .slice (some ⟨q, 0, none⟩) 0 0 := hq
            have hW5 : W.ownsRow W3.heap.size 5 1 (us 2) 0 [] := hW4
            rw [e2] at hW5
            have O4 := hid hW5
            have D4 := hid hD4
            have B4 := hid hB4
            clear hD4 hB4 hK4 hW4 hW5 hq
            clear hd
            simp only [putF]
            rw [hA, e8, e2]
            go_frame
            go_wp2_with (first | (at_builtin; go_loud (refine wpList_append_own_none rfl (.tmp 24) (.tmp 30) 70 rfl W3.heap.size 5 i0 1 Try.underlying70 HI.out _ 0 [] rfl O4.out rfl ?_)))
            refine hK.out (.slice (some ⟨q, 0, none⟩) 0 0) _ _ (by rw [hA]; simp only [putF]; rw [e8, e2]; kernel_rfl) ?_
            exact ⟨⟨K4.out, O4.out⟩, D4.out, B4.out, hz4⟩
          · intro K L us W hK0 hL hd hR
            have e0 : us 0 = .pointer (some ⟨gn, 0, none⟩) := hR.vals 0 (by decide) (all_on hd ⟨0, Ground.data⟩ (by simp) rfl)
            have hK := hid (fun v9 A9 h1 (h3 : v9 = .pointer (some ⟨gn, 0, none⟩)) => hK0 v9 A9 W h1 (hR.pure (by decide) h3)); clear hK0
            clear hd
            simp only [putF]
            rw [hA, e0]
            go_frame
            go_wp2_with fail
            exact hK.out _ _ (by rw [hA]; simp only [putF]; rw [e0]; kernel_rfl) rfl
          · intro K L us W hK0 hL hd hR
            have e10 : us 10 = .pointer (some ⟨gn, 0, none⟩) := hR.vals 10 (by decide) (all_on hd ⟨10, Ground.data⟩ (by simp) rfl)
            have hK := hid (fun v9 A9 h1 (h3 : v9 = .pointer (some ⟨gn, 0, none⟩)) => hK0 v9 A9 W h1 (hR.pure (by decide) h3)); clear hK0
            clear hd
            simp only [putF]
            rw [hA, e10]
            go_frame
            go_wp2_with fail
            exact hK.out _ _ (by rw [hA]; simp only [putF]; rw [e10]; kernel_rfl) rfl
          · intro K L us W hK0 hL hd hR
            have e11 : us 11 = .pointer (some ⟨gn, 0, none⟩) := hR.vals 11 (by decide) (all_on hd ⟨11, Ground.data⟩ (by simp) rfl)
            have e1 : us 1 = .int .i64 0 := hR.vals 1 (by decide) (all_on hd ⟨1, Ground.data⟩ (by simp) rfl)
            have hK := hid (fun v9 A9 h1 (h3 : v9 = .pointer (some ⟨gn, 0, none⟩)) => hK0 v9 A9 W h1 (hR.pure (by decide) h3)); clear hK0
            clear hd
            simp only [putF]
            rw [hA, e11, e1]
            go_frame
            go_wp2_with fail
            exact hK.out _ _ (by rw [hA]; simp only [putF]; rw [e11, e1]; kernel_rfl) rfl
          · intro K L us W hK0 hL hd hR
            have e12 : us 12 = .pointer (some ⟨gn, 0, none⟩) := hR.vals 12 (by decide) (all_on hd ⟨12, Ground.data⟩ (by simp) rfl)
            have hS := hR.at 2 (by decide) (.inr ⟨by decide, all_on hd ⟨9, Ground.data⟩ (by simp) rfl⟩) hL
            have hK := hid (fun v9 A9 W9 h1 (hS' : (fun kk vv WW => (match kk with | 0 => WW.heap[gn]? = some (.cells #[.slice none 0 0, .slice none 0 0, .int .i64 (s0 : Int), .int .i64 (s1 : Int), .bool dn, .int .i64 lf] 74) | 1 => WW.heap[gn]? = some (.cells #[.slice none 0 0, .slice none 0 0, .int .i64 (s0 : Int), .int .i64 (s1 : Int), .bool dn, .int .i64 lf] 74) ∧ (∃ q, vv 0 = .slice (some ⟨q, 0, none⟩) 0 0) ∧ WW.ownsRow W3.heap.size 5 1 (vv 0) 0 [] | 2 => WW.heap[gn]? = some (.cells #[.slice none 0 0, .slice none 0 0, .int .i64 (s0 : Int), .int .i64 (s1 : Int), .bool dn, .int .i64 lf] 74) ∧ WW.ownsRow W3.heap.size 5 1 (vv 1) 0 (u8s ([] : List Nat)) | _ => WW.heap[gn]? = some (.cells #[vv 1, .slice none 0 0, .int .i64 (s0 : Int), .int .i64 (s1 : Int), .bool dn, .int .i64 lf] 74) ∧ WW.ownsRow W3.heap.size 5 1 (vv 1) 0 (u8s ([] : List Nat))) ∧ DR WW B g dn lf ⟨.slice none 0 0, ([] : List Nat), s0⟩ ⟨.slice none 0 0, ([] : List Nat), s1⟩ ∧ Below w.heap.size w WW ∧ W3.heap.size ≤ WW.heap.size) 3 (fun j => if j = 2 then v9 else selV [2, 9, 13] us j) W9) => hK0 v9 A9 W9 h1 (hR.next (by decide) 2 (by decide) (.inr ⟨by decide, all_on hd ⟨9, Ground.data⟩ (by simp) rfl⟩) hL hS')); clear hK0
            obtain ⟨⟨hK4, hW4⟩, hD4, hB4, hz4⟩ := hS
            have K4 := hid hK4
            obtain ⟨v9, e9⟩ : ∃ v9, us 9 = v9 := ⟨_, rfl⟩
            have hW5 : W.ownsRow W3.heap.size 5 1 (us 9) 0 (u8s ([] : List Nat)) := hW4
            rw [e9] at hW5
            have O4 := hid hW5
            obtain ⟨a9, c9, e99⟩ := own_slice hW5
            subst e99
            have D4 := hid hD4
            have B4 := hid hB4
            clear hD4 hB4 hK4 hW4 hW5
            have z1 : W.frozen? ⟨gn, 0, none⟩ = false := by have hh := K4.out; simp [World.frozen?, hh]
            have z0 : W.cell? ⟨gn, 0, none⟩ = some (.slice none 0 0) := (cell_row (j := 0) K4.out).trans rfl
            clear hd
            simp only [putF]
            rw [hA, e12, e9]
            go_frame
            go_wp2_with fail
            refine hK.out undef _ _ (by rw [hA]; simp only [putF]; rw [e12, e9]; kernel_rfl) ?_
            have hoth : ∀ k, k ≠ gn → (W.setCell ⟨gn, 0, none⟩ (.slice a9 0 c9)).heap[k]? = W.heap[k]? := fun k hk => Below.heap_setCell W ⟨gn, 0, none⟩ _ k hk
            refine ⟨⟨?_, ?_⟩, D4.out.frame (F := fun k => k = gn) (Fr.set rfl) (fun k hk e => by have h1 := HFG.out k hk; omega), B4.out.setCell (p := ⟨gn, 0, none⟩) hge _, by simp; omega⟩
            · show _ = some (Obj.cells #[(us 9), .slice none 0 0, .int .i64 (s0 : Int), .int .i64 (s1 : Int), .bool dn, .int .i64 lf] 74)
              rw [e9]
              exact heap_setCell K4.out _
            · show World.ownsRow _ W3.heap.size 5 1 (us 9) 0 (u8s ([] : List Nat))
              rw [e9]
              exact own_same O4.out (fun k hk => hoth k (fun e => by have h1 := (O4.out.lt k hk).1; have h2 := hgk.out; omega))
        case htF000 =>
          intro L us X0 hall hR
          have hS := hR.last (fun i hi => match i, hi with | 0, _ => hall 2 (by decide) | 1, _ => hall 9 (by decide) | 2, _ => hall 13 (by decide))
          have e0 : us 0 = .pointer (some ⟨gn, 0, none⟩) := hR.vals 0 (by decide) (hall 0 (by decide))
          have e1 : us 1 = .int .i64 0 := hR.vals 1 (by decide) (hall 1 (by decide))
          have e3 : us 3 = .pointer (some ⟨g, 0, none⟩) := hR.vals 3 (by decide) (hall 3 (by decide))
          have e4 : us 4 = .int .i64 0 := hR.vals 4 (by decide) (hall 4 (by decide))
          have e5 : us 5 = .pointer (some ⟨g, 0, none⟩) := hR.vals 5 (by decide) (hall 5 (by decide))
          have e6 : us 6 = .pointer (some ⟨g, 0, none⟩) := hR.vals 6 (by decide) (hall 6 (by decide))
          have e7 : us 7 = .pointer (some ⟨g, 0, none⟩) := hR.vals 7 (by decide) (hall 7 (by decide))
          have e8 : us 8 = .slice none 0 0 := hR.vals 8 (by decide) (hall 8 (by decide))
          have e10 : us 10 = .pointer (some ⟨gn, 0, none⟩) := hR.vals 10 (by decide) (hall 10 (by decide))
          have e11 : us 11 = .pointer (some ⟨gn, 0, none⟩) := hR.vals 11 (by decide) (hall 11 (by decide))
          have e12 : us 12 = .pointer (some ⟨gn, 0, none⟩) := hR.vals 12 (by decide) (hall 12 (by decide))
          clear hR hall
          obtain ⟨⟨hK4, hW4⟩, hD4, hB4, hz4⟩ := hS
          obtain ⟨v2, e2⟩ : ∃ v2, us 2 = v2 := ⟨_, rfl⟩
          obtain ⟨v9, e9⟩ : ∃ v9, us 9 = v9 := ⟨_, rfl⟩
          have hK5 : X0.heap[gn]? = some (.cells #[(us 9), .slice none 0 0, .int .i64 (s0 : Int), .int .i64 (s1 : Int), .bool dn, .int .i64 lf] 74) := hK4
          have hW5 : X0.ownsRow W3.heap.size 5 1 (us 9) 0 (u8s ([] : List Nat)) := hW4
          rw [e9] at hK5 hW5
          obtain ⟨p0, q0, e99⟩ := own_slice hW5
          subst e99
          have KN := hid hK5
          have HD := hid hD4
          have HB3 := hid hB4
          have hgk := hid (show gn < X0.heap.size from (Array.getElem?_eq_some_iff.1 hK5).1)
          have HO0 := hid hW5
          clear hK4 hK5 hD4 hB4 hW4 hW5
          simp only [putF]
          rw [hA, e2, e9, e0, e1, e3, e4, e5, e6, e7, e8, e10, e11, e12]
          go_frame
          clear hA e2 e9 e0 e1 e3 e4 e5 e6 e7 e8 e10 e11 e12
          go_wp2_with fail
          have HP0 := hid (fun k (hk : (Value.ownBlock (.slice p0 0 q0)) = some k) => (HO0.out.lt k hk).2)
          have HPG := hid (fun k (hk : (Value.ownBlock (.slice p0 0 q0)) = some k) => show k ≠ gn from fun e => by have h1 := (HO0.out.lt k hk).1; have h2 := HGK.out; omega)
          have HO0 := hid (own_low HO0.out HW0.out)
          have HFT := hid (fun k hk => show k < X0.heap.size from Nat.lt_of_lt_of_le (HFT.out k hk) hz4)
          have HW1 := hid (show w.heap.size ≤ X0.heap.size by have := HW0.out; omega)
          rw [rounds_succ]
          go_wp2_with fail
          refine gen_act (fun A0 hA => ?_)
          refine wp_region_by (by kernel_rfl) (by kernel_rfl) [some 22, some 23, some 24, some 25, some 26, some 27, some 28, some 29, some 30, some 31, some 32, some 33, some 34, none] rfl (by decide) (StR (fun j => ([.pointer (some ⟨gn, 0, none⟩), .int .i64 1, undef, .pointer (some ⟨g, 0, none⟩), .int .i64 1, .pointer (some ⟨g, 0, none⟩), .pointer (some ⟨g, 0, none⟩), .pointer (some ⟨g, 1, none⟩), .slice none 0 0, undef, .pointer (some ⟨gn, 0, none⟩), .pointer (some ⟨gn, 0, none⟩), .pointer (some ⟨gn, 1, none⟩), undef] : List Value).getD j undef) [2, 9, 13] (fun kk vv WW => (match kk with | 0 => WW.heap[gn]? = some (.cells #[.slice p0 0 q0, .slice none 0 0, .int .i64 (s0 : Int), .int .i64 (s1 : Int), .bool dn, .int .i64 lf] 74) | 1 => WW.heap[gn]? = some (.cells #[.slice p0 0 q0, .slice none 0 0, .int .i64 (s0 : Int), .int .i64 (s1 : Int), .bool dn, .int .i64 lf] 74) ∧ (∃ q, vv 0 = .slice (some ⟨q, 0, none⟩) 0 0) ∧ WW.ownsRow X0.heap.size 5 1 (vv 0) 0 [] | 2 => WW.heap[gn]? = some (.cells #[.slice p0 0 q0, .slice none 0 0, .int .i64 (s0 : Int), .int .i64 (s1 : Int), .bool dn, .int .i64 lf] 74) ∧ WW.ownsRow X0.heap.size 5 1 (vv 1) 0 (u8s ([] : List Nat)) | _ => WW.heap[gn]? = some (.cells #[.slice p0 0 q0, vv 1, .int .i64 (s0 : Int), .int .i64 (s1 : Int), .bool dn, .int .i64 lf] 74) ∧ WW.ownsRow X0.heap.size 5 1 (vv 1) 0 (u8s ([] : List Nat))) ∧ DR WW B g dn lf ⟨.slice none 0 0, ([] : List Nat), s0⟩ ⟨.slice none 0 0, ([] : List Nat), s1⟩ ∧ Below w.heap.size w WW ∧ X0.heap.size ≤ WW.heap.size ∧ WW.ownsRow w.heap.size 5 1 (.slice p0 0 q0) 0 (u8s ([] : List Nat)))) (selfF A0 _) (putF_self A0 _)
            (StR.start ⟨(((Below.refl _ _).drew).block _ hgk.out).trans KN.out, HD.out.still (Below.refl _ _).drew, HB3.out.drew, ((Below.refl X0.heap.size X0).drew).size, own_same HO0.out (fun k hk => ((Below.refl X0.heap.size X0).drew).block k (HO0.out.lt k hk).2)⟩ (fun _ => rfl)) ?hsF100 ?htF100
          case hsF100 =>
            refine ⟨?_, ?_, ?_, ?_, ?_, ?_, ?_, ?_, ?_, ?_, ?_, ?_, ?_, ?_, trivial⟩
            · intro K L us W hK0 hL hd hR
              have hK := hid (fun v9 A9 h1 (h3 : v9 = .pointer (some ⟨gn, 0, none⟩)) => hK0 v9 A9 W h1 (hR.pure (by decide) h3)); clear hK0
              clear hd
              simp only [putF]
              rw [hA]
              go_frame
              go_wp2_with fail
              exact hK.out _ _ (by rw [hA]; simp only [putF]; kernel_rfl) rfl
            · intro K L us W hK0 hL hd hR
              have hK := hid (fun v9 A9 h1 (h3 : v9 = .int .i64 1) => hK0 v9 A9 W h1 (hR.pure (by decide) h3)); clear hK0
              clear hd
              simp only [putF]
              rw [hA]
              go_frame
              go_wp2_with fail
              exact hK.out _ _ (by rw [hA]; simp only [putF]; kernel_rfl) rfl
            · intro K L us W hK0 hL hd hR
              have hS := hR.at 0 (by decide) (.inl rfl) hL
              have hK := hid (fun v9 A9 W9 h1 (hS' : (fun kk vv WW => (match kk with | 0 => WW.heap[gn]? = some (.cells #[.slice p0 0 q0, .slice none 0 0, .int .i64 (s0 : Int), .int .i64 (s1 : Int), .bool dn, .int .i64 lf] 74) | 1 => WW.heap[gn]? = some (.cells #[.slice p0 0 q0, .slice none 0 0, .int .i64 (s0 : Int), .int .i64 (s1 : Int), .bool dn, .int .i64 lf] 74) ∧ (∃ q, vv 0 = .slice (some ⟨q, 0, none⟩) 0 0) ∧ WW.ownsRow X0.heap.size 5 1 (vv 0) 0 [] | 2 => WW.heap[gn]? = some (.cells #[.slice p0 0 q0, .slice none 0 0, .int .i64 (s0 : Int), .int .i64 (s1 : Int), .bool dn, .int .i64 lf] 74) ∧ WW.ownsRow X0.heap.size 5 1 (vv 1) 0 (u8s ([] : List Nat)) | _ => WW.heap[gn]? = some (.cells #[.slice p0 0 q0, vv 1, .int .i64 (s0 : Int), .int .i64 (s1 : Int), .bool dn, .int .i64 lf] 74) ∧ WW.ownsRow X0.heap.size 5 1 (vv 1) 0 (u8s ([] : List Nat))) ∧ DR WW B g dn lf ⟨.slice none 0 0, ([] : List Nat), s0⟩ ⟨.slice none 0 0, ([] : List Nat), s1⟩ ∧ Below w.heap.size w WW ∧ X0.heap.size ≤ WW.heap.size ∧ WW.ownsRow w.heap.size 5 1 (.slice p0 0 q0) 0 (u8s ([] : List Nat))) 1 (fun j => if j = 0 then v9 else selV [2, 9, 13] us j) W9) => hK0 v9 A9 W9 h1 (hR.next (by decide) 0 (by decide) (.inl rfl) hL hS')); clear hK0
              obtain ⟨hK4, hD4, hB4, hz4, hO4⟩ := hS
              have K4 := hid hK4
              have D4 := hid hD4
              have B4 := hid hB4
              have P4 := hid hO4
              clear hD4 hB4 hO4 hK4
              clear hd
              simp only [putF]
              rw [hA]
              go_frame
              go_wp2_with fail
              refine hK.out (.slice (some ⟨W.heap.size, 0, none⟩) 0 0) _ _ (by rw [hA]; simp only [putF]; kernel_rfl) ?_
              exact ⟨⟨heap_still ((Below.refl W.heap.size W).alloc (Nat.le_refl _) (.cells #[] 5)) K4.out, ⟨_, rfl⟩, World.ownsRow_lit (base := X0.heap.size) W #[] 0 hz4 (by unfold maxLen; omega) rfl⟩, D4.out.still ((Below.refl W.heap.size W).alloc (Nat.le_refl _) (.cells #[] 5)), B4.out.trans (((Below.refl W.heap.size W).alloc (Nat.le_refl _) (.cells #[] 5)).mono B4.out.size), by simp; omega, own_same P4.out (fun k hk => ((Below.refl W.heap.size W).alloc (Nat.le_refl _) (.cells #[] 5)).block k (P4.out.lt k hk).2)⟩
            · intro K L us W hK0 hL hd hR
              have hK := hid (fun v9 A9 h1 (h3 : v9 = .pointer (some ⟨g, 0, none⟩)) => hK0 v9 A9 W h1 (hR.pure (by decide) h3)); clear hK0
              clear hd
              simp only [putF]
              rw [hA]
              go_frame
              go_wp2_with fail
              exact hK.out _ _ (by rw [hA]; simp only [putF]; kernel_rfl) rfl
            · intro K L us W hK0 hL hd hR
              have hK := hid (fun v9 A9 h1 (h3 : v9 = .int .i64 1) => hK0 v9 A9 W h1 (hR.pure (by decide) h3)); clear hK0
              clear hd
              simp only [putF]
              rw [hA]
              go_frame
              go_wp2_with fail
              exact hK.out _ _ (by rw [hA]; simp only [putF]; kernel_rfl) rfl
            · intro K L us W hK0 hL hd hR
              have e3 : us 3 = .pointer (some ⟨g, 0, none⟩) := hR.vals 3 (by decide) (all_on hd ⟨3, Ground.data⟩ (by simp) rfl)
              have hK := hid (fun v9 A9 h1 (h3 : v9 = .pointer (some ⟨g, 0, none⟩)) => hK0 v9 A9 W h1 (hR.pure (by decide) h3)); clear hK0
              clear hd
              simp only [putF]
              rw [hA, e3]
              go_frame
              go_wp2_with fail
              exact hK.out _ _ (by rw [hA]; simp only [putF]; rw [e3]; kernel_rfl) rfl
            · intro K L us W hK0 hL hd hR
              have e5 : us 5 = .pointer (some ⟨g, 0, none⟩) := hR.vals 5 (by decide) (all_on hd ⟨5, Ground.data⟩ (by simp) rfl)
              have hK := hid (fun v9 A9 h1 (h3 : v9 = .pointer (some ⟨g, 0, none⟩)) => hK0 v9 A9 W h1 (hR.pure (by decide) h3)); clear hK0
              clear hd
              simp only [putF]
              rw [hA, e5]
              go_frame
              go_wp2_with fail
              exact hK.out _ _ (by rw [hA]; simp only [putF]; rw [e5]; kernel_rfl) rfl
            · intro K L us W hK0 hL hd hR
              have e6 : us 6 = .pointer (some ⟨g, 0, none⟩) := hR.vals 6 (by decide) (all_on hd ⟨6, Ground.data⟩ (by simp) rfl)
              have e4 : us 4 = .int .i64 1 := hR.vals 4 (by decide) (all_on hd ⟨4, Ground.data⟩ (by simp) rfl)
              have hK := hid (fun v9 A9 h1 (h3 : v9 = .pointer (some ⟨g, 1, none⟩)) => hK0 v9 A9 W h1 (hR.pure (by decide) h3)); clear hK0
              clear hd
              simp only [putF]
              rw [hA, e6, e4]
              go_frame
              go_wp2_with fail
              exact hK.out _ _ (by rw [hA]; simp only [putF]; rw [e6, e4]; kernel_rfl) rfl
            · intro K L us W hK0 hL hd hR
              have e7 : us 7 = .pointer (some ⟨g, 1, none⟩) := hR.vals 7 (by decide) (all_on hd ⟨7, Ground.data⟩ (by simp) rfl)
              have hK := hid (fun v9 A9 h1 (h3 : v9 = .slice none 0 0) => hK0 v9 A9 W h1 (hR.pure (by decide) h3)); clear hK0
              have hst := hR.st
              obtain ⟨kq, _, _, hSq⟩ := hst
              have hD4 : DR W B g dn lf ⟨.slice none 0 0, ([] : List Nat), s0⟩ ⟨.slice none 0 0, ([] : List Nat), s1⟩ := hSq.2.1
              have z0 : W.cell? ⟨g, 1, none⟩ = some (.slice none 0 0) := hD4.c1
              clear hSq hD4
              clear hd
              simp only [putF]
              rw [hA, e7]
              go_frame
              go_wp2_with fail
              exact hK.out _ _ (by rw [hA]; simp only [putF]; rw [e7]; kernel_rfl) rfl
            · intro K L us W hK0 hL hd hR
              have e8 : us 8 = .slice none 0 0 := hR.vals 8 (by decide) (all_on hd ⟨8, Ground.data⟩ (by simp) rfl)
              have hS := hR.at 1 (by decide) (.inr ⟨by decide, all_on hd ⟨2, Ground.data⟩ (by simp) rfl⟩) hL
              have hK := hid (fun v9 A9 W9 h1 (hS' : (fun kk vv WW => (match kk with | 0 => WW.heap[gn]? = some (.cells #[.slice p0 0 q0, .slice none 0 0, .int .i64 (s0 : Int), .int .i64 (s1 : Int), .bool dn, .int .i64 lf] 74) | 1 => WW.heap[gn]? = some (.cells #[.slice p0 0 q0, .slice none 0 0, .int .i64 (s0 : Int), .int .i64 (s1 : Int), .bool dn, .int .i64 lf] 74) ∧ (∃ q, vv 0 = .slice (some ⟨q, 0, none⟩) 0 0) ∧ WW.ownsRow X0.heap.size 5 1 (vv 0) 0 [] | 2 => WW.heap[gn]? = some (.cells #[.slice p0 0 q0, .slice none 0 0, .int .i64 (s0 : Int), .int .i64 (s1 : Int), .bool dn, .int .i64 lf] 74) ∧ WW.ownsRow X0.heap.size 5 1 (vv 1) 0 (u8s ([] : List Nat)) | _ => WW.heap[gn]? = some (.cells #[.slice p0 0 q0, vv 1, .int .i64 (s0 : Int), .int .i64 (s1 : Int), .bool dn, .int .i64 lf] 74) ∧ WW.ownsRow X0.heap.size 5 1 (vv 1) 0 (u8s ([] : List Nat))) ∧ DR WW B g dn lf ⟨.slice none 0 0, ([] : List Nat), s0⟩ ⟨.slice none 0 0, ([] : List Nat), s1⟩ ∧ Below w.heap.size w WW ∧ X0.heap.size ≤ WW.heap.size ∧ WW.ownsRow w.heap.size 5 1 (.slice p0 0 q0) 0 (u8s ([] : List Nat))) 2 (fun j => if j = 1 then v9 else selV [2, 9, 13] us j) W9) => hK0 v9 A9 W9 h1 (hR.next (by decide) 1 (by decide) (.inr ⟨by decide, all_on hd ⟨2, Ground.data⟩ (by simp) rfl⟩) hL hS')); clear hK0
              obtain ⟨⟨hK4, ⟨q, hq⟩, hW4⟩, hD4, hB4, hz4, hO4⟩ := hS
              have K4 := hid hK4
              have e2 : us 2 = .slice (some ⟨q, 0, none⟩) 0 0 := hq
              have hW5 : W.ownsRow X0.heap.size 5 1 (us 2) 0 [] := hW4
              rw [e2] at hW5
              have O4 := hid hW5
              have D4 := hid hD4
              have B4 := hid hB4
              have P4 := hid hO4
              clear hD4 hB4 hO4 hK4 hW4 hW5 hq
              clear hd
              simp only [putF]
              rw [hA, e8, e2]
              go_frame
              go_wp2_with (first | (at_builtin; go_loud (refine wpList_append_own_none rfl (.tmp 24) (.tmp 30) 70 rfl X0.heap.size 5 i0 1 Try.underlying70 HI.out _ 0 [] rfl O4.out rfl ?_)))
              refine hK.out (.slice (some ⟨q, 0, none⟩) 0 0) _ _ (by rw [hA]; simp only [putF]; rw [e8, e2]; kernel_rfl) ?_
              exact ⟨⟨K4.out, O4.out⟩, D4.out, B4.out, hz4, P4.out⟩
            · intro K L us W hK0 hL hd hR
              have e0 : us 0 = .pointer (some ⟨gn, 0, none⟩) := hR.vals 0 (by decide) (all_on hd ⟨0, Ground.data⟩ (by simp) rfl)
              have hK := hid (fun v9 A9 h1 (h3 : v9 = .pointer (some ⟨gn, 0, none⟩)) => hK0 v9 A9 W h1 (hR.pure (by decide) h3)); clear hK0
              clear hd
              simp only [putF]
              rw [hA, e0]
              go_frame
              go_wp2_with fail
              exact hK.out _ _ (by rw [hA]; simp only [putF]; rw [e0]; kernel_rfl) rfl
            · intro K L us W hK0 hL hd hR
              have e10 : us 10 = .pointer (some ⟨gn, 0, none⟩) := hR.vals 10 (by decide) (all_on hd ⟨10, Ground.data⟩ (by simp) rfl)
              have hK := hid (fun v9 A9 h1 (h3 : v9 = .pointer (some ⟨gn, 0, none⟩)) => hK0 v9 A9 W h1 (hR.pure (by decide) h3)); clear hK0
              clear hd
              simp only [putF]
              rw [hA, e10]
              go_frame
              go_wp2_with fail
              exact hK.out _ _ (by rw [hA]; simp only [putF]; rw [e10]; kernel_rfl) rfl
            · intro K L us W hK0 hL hd hR
              have e11 : us 11 = .pointer (some ⟨gn, 0, none⟩) := hR.vals 11 (by decide) (all_on hd ⟨11, Ground.data⟩ (by simp) rfl)
              have e1 : us 1 = .int .i64 1 := hR.vals 1 (by decide) (all_on hd ⟨1, Ground.data⟩ (by simp) rfl)
              have hK := hid (fun v9 A9 h1 (h3 : v9 = .pointer (some ⟨gn, 1, none⟩)) => hK0 v9 A9 W h1 (hR.pure (by decide) h3)); clear hK0
              clear hd
              simp only [putF]
              rw [hA, e11, e1]
              go_frame
              go_wp2_with fail
              exact hK.out _ _ (by rw [hA]; simp only [putF]; rw [e11, e1]; kernel_rfl) rfl
            · intro K L us W hK0 hL hd hR
              have e12 : us 12 = .pointer (some ⟨gn, 1, none⟩) := hR.vals 12 (by decide) (all_on hd ⟨12, Ground.data⟩ (by simp) rfl)
              have hS := hR.at 2 (by decide) (.inr ⟨by decide, all_on hd ⟨9, Ground.data⟩ (by simp) rfl⟩) hL
              have hK := hid (fun v9 A9 W9 h1 (hS' : (fun kk vv WW => (match kk with | 0 => WW.heap[gn]? = some (.cells #[.slice p0 0 q0, .slice none 0 0, .int .i64 (s0 : Int), .int .i64 (s1 : Int), .bool dn, .int .i64 lf] 74) | 1 => WW.heap[gn]? = some (.cells #[.slice p0 0 q0, .slice none 0 0, .int .i64 (s0 : Int), .int .i64 (s1 : Int), .bool dn, .int .i64 lf] 74) ∧ (∃ q, vv 0 = .slice (some ⟨q, 0, none⟩) 0 0) ∧ WW.ownsRow X0.heap.size 5 1 (vv 0) 0 [] | 2 => WW.heap[gn]? = some (.cells #[.slice p0 0 q0, .slice none 0 0, .int .i64 (s0 : Int), .int .i64 (s1 : Int), .bool dn, .int .i64 lf] 74) ∧ WW.ownsRow X0.heap.size 5 1 (vv 1) 0 (u8s ([] : List Nat)) | _ => WW.heap[gn]? = some (.cells #[.slice p0 0 q0, vv 1, .int .i64 (s0 : Int), .int .i64 (s1 : Int), .bool dn, .int .i64 lf] 74) ∧ WW.ownsRow X0.heap.size 5 1 (vv 1) 0 (u8s ([] : List Nat))) ∧ DR WW B g dn lf ⟨.slice none 0 0, ([] : List Nat), s0⟩ ⟨.slice none 0 0, ([] : List Nat), s1⟩ ∧ Below w.heap.size w WW ∧ X0.heap.size ≤ WW.heap.size ∧ WW.ownsRow w.heap.size 5 1 (.slice p0 0 q0) 0 (u8s ([] : List Nat))) 3 (fun j => if j = 2 then v9 else selV [2, 9, 13] us j) W9) => hK0 v9 A9 W9 h1 (hR.next (by decide) 2 (by decide) (.inr ⟨by decide, all_on hd ⟨9, Ground.data⟩ (by simp) rfl⟩) hL hS')); clear hK0
              obtain ⟨⟨hK4, hW4⟩, hD4, hB4, hz4, hO4⟩ := hS
              have K4 := hid hK4
              obtain ⟨v9, e9⟩ : ∃ v9, us 9 = v9 := ⟨_, rfl⟩
              have hW5 : W.ownsRow X0.heap.size 5 1 (us 9) 0 (u8s ([] : List Nat)) := hW4
              rw [e9] at hW5
              have O4 := hid hW5
              obtain ⟨a9, c9, e99⟩ := own_slice hW5
              subst e99
              have D4 := hid hD4
              have B4 := hid hB4
              have P4 := hid hO4
              clear hD4 hB4 hO4 hK4 hW4 hW5
              have z1 : W.frozen? ⟨gn, 1, none⟩ = false := by have hh := K4.out; simp [World.frozen?, hh]
              have z0 : W.cell? ⟨gn, 1, none⟩ = some (.slice none 0 0) := (cell_row (j := 1) K4.out).trans rfl
              clear hd
              simp only [putF]
              rw [hA, e12, e9]
              go_frame
              go_wp2_with fail
              refine hK.out undef _ _ (by rw [hA]; simp only [putF]; rw [e12, e9]; kernel_rfl) ?_
              have hoth : ∀ k, k ≠ gn → (W.setCell ⟨gn, 1, none⟩ (.slice a9 0 c9)).heap[k]? = W.heap[k]? := fun k hk => Below.heap_setCell W ⟨gn, 1, none⟩ _ k hk
              refine ⟨⟨?_, ?_⟩, D4.out.frame (F := fun k => k = gn) (Fr.set rfl) (fun k hk e => by have h1 := HFG.out k hk; omega), B4.out.setCell (p := ⟨gn, 1, none⟩) hge _, by simp; omega, own_same P4.out (fun k hk => hoth k (fun e => HPG.out k hk e))⟩
              · show _ = some (Obj.cells #[.slice p0 0 q0, (us 9), .int .i64 (s0 : Int), .int .i64 (s1 : Int), .bool dn, .int .i64 lf] 74)
                rw [e9]
                exact heap_setCell K4.out _
              · show World.ownsRow _ X0.heap.size 5 1 (us 9) 0 (u8s ([] : List Nat))
                rw [e9]
                exact own_same O4.out (fun k hk => hoth k (fun e => by have h1 := (O4.out.lt k hk).1; have h2 := hgk.out; omega))
          case htF100 =>
            intro L us X1 hall hR
            have hS := hR.last (fun i hi => match i, hi with | 0, _ => hall 2 (by decide) | 1, _ => hall 9 (by decide) | 2, _ => hall 13 (by decide))
            have e0 : us 0 = .pointer (some ⟨gn, 0, none⟩) := hR.vals 0 (by decide) (hall 0 (by decide))
            have e1 : us 1 = .int .i64 1 := hR.vals 1 (by decide) (hall 1 (by decide))
            have e3 : us 3 = .pointer (some ⟨g, 0, none⟩) := hR.vals 3 (by decide) (hall 3 (by decide))
            have e4 : us 4 = .int .i64 1 := hR.vals 4 (by decide) (hall 4 (by decide))
            have e5 : us 5 = .pointer (some ⟨g, 0, none⟩) := hR.vals 5 (by decide) (hall 5 (by decide))
            have e6 : us 6 = .pointer (some ⟨g, 0, none⟩) := hR.vals 6 (by decide) (hall 6 (by decide))
            have e7 : us 7 = .pointer (some ⟨g, 1, none⟩) := hR.vals 7 (by decide) (hall 7 (by decide))
            have e8 : us 8 = .slice none 0 0 := hR.vals 8 (by decide) (hall 8 (by decide))
            have e10 : us 10 = .pointer (some ⟨gn, 0, none⟩) := hR.vals 10 (by decide) (hall 10 (by decide))
            have e11 : us 11 = .pointer (some ⟨gn, 0, none⟩) := hR.vals 11 (by decide) (hall 11 (by decide))
            have e12 : us 12 = .pointer (some ⟨gn, 1, none⟩) := hR.vals 12 (by decide) (hall 12 (by decide))
            clear hR hall
            obtain ⟨⟨hK4, hW4⟩, hD4, hB4, hz4, hO4⟩ := hS
            obtain ⟨v2, e2⟩ : ∃ v2, us 2 = v2 := ⟨_, rfl⟩
            obtain ⟨v9, e9⟩ : ∃ v9, us 9 = v9 := ⟨_, rfl⟩
            have hK5 : X1.heap[gn]? = some (.cells #[.slice p0 0 q0, (us 9), .int .i64 (s0 : Int), .int .i64 (s1 : Int), .bool dn, .int .i64 lf] 74) := hK4
            have hW5 : X1.ownsRow X0.heap.size 5 1 (us 9) 0 (u8s ([] : List Nat)) := hW4
            rw [e9] at hK5 hW5
            obtain ⟨p1, q1, e99⟩ := own_slice hW5
            subst e99
            have KN := hid hK5
            have HD := hid hD4
            have HB3 := hid hB4
            have hgk := hid (show gn < X1.heap.size from (Array.getElem?_eq_some_iff.1 hK5).1)
            have HO1 := hid hW5
            clear hK4 hK5 hD4 hB4 hW4 hW5
            have HO0 := hid hO4
            clear hO4
            simp only [putF]
            rw [hA, e2, e9, e0, e1, e3, e4, e5, e6, e7, e8, e10, e11, e12]
            go_frame
            clear hA e2 e9 e0 e1 e3 e4 e5 e6 e7 e8 e10 e11 e12
            go_wp2_with fail
            (try rw [rounds_succ])
            go_wp2_with fail
            go_ret
            refine ⟨⟨gn, .slice p0 0 q0, .slice p1 0 q1, rfl, KN.out, hge, HO0.out, show X1.ownsRow w.heap.size 5 1 (.slice p1 0 q1) (([] : List Nat) : List Nat).length (u8s ([] : List Nat)) from own_low HO1.out HW1.out, fun e => HPG.out gn e rfl, fun e => by have h1 := (HO1.out.lt gn e).1; have h2 := HGK.out; omega, fun k hk e => ?_⟩, HB3.out⟩
            have h1 := (HO1.out.lt k e).1
            have h2 := HP0.out k hk
            omega
    · obtain rfl : v1 = .slice (some ad1) b1.length d1 := e1
      clear hc1
      simp only [← hn1e] at HD HLT
      clear hn1e HR0 HR1
      go_enter Try.func37, Try.ntmps37
      go_wp2_with fail
      refine gen_act (fun A0 hA => ?_)
      refine wp_region_tail (by kernel_rfl) (by kernel_rfl) [some 5, some 6, some 7, some 8, some 9, some 10, some 11, some 12, some 13, some 14, some 15, some 16, some 17, some 18, some 3] rfl (by decide) 13 (by decide) (by kernel_rfl) (by kernel_rfl)
        [IsV (.pointer (some ⟨g, 0, none⟩)), IsV (.pointer (some ⟨g, 0, none⟩)), IsV (.pointer (some ⟨g, 2, none⟩)), IsV (.agg #[.int .i64 (s0 : Int), .int .i64 (s1 : Int)]), IsV (.pointer (some ⟨g, 0, none⟩)), IsV (.pointer (some ⟨g, 0, none⟩)), IsV (.pointer (some ⟨g, 4, none⟩)), IsV (.bool dn), IsV (.pointer (some ⟨g, 0, none⟩)), IsV (.pointer (some ⟨g, 0, none⟩)), IsV (.pointer (some ⟨g, 5, none⟩)), IsV (.int .i64 lf), IsV (.agg #[.slice none 0 0, .slice none 0 0, .int .i64 (s0 : Int), .int .i64 (s1 : Int), .bool dn, .int .i64 lf])]
        ⟨IsV.stb _, IsV.stb _, IsV.stb _, IsV.stb _, IsV.stb _, IsV.stb _, IsV.stb _, IsV.stb _, IsV.stb _, IsV.stb _, IsV.stb _, IsV.stb _, IsV.stb _, trivial⟩ ?hsM01 ?htM01
      case hsM01 =>
        refine ⟨?_, ?_, ?_, ?_, ?_, ?_, ?_, ?_, ?_, ?_, ?_, ?_, ?_, trivial⟩
        · intro K us W hK0 hB hd
          have hK := hid hK0; clear hK0
          have HBW := hid hB
          clear hd
          simp only [putF]
          rw [hA]
          go_frame
          go_wp2_with fail
          exact hK.out _ _ _ (by rw [hA]; simp only [putF]; kernel_rfl) (Below.refl _ _) rfl
        · intro K us W hK0 hB hd
          have hK := hid hK0; clear hK0
          have HBW := hid hB
          have e0 : us 0 = .pointer (some ⟨g, 0, none⟩) := hd ⟨0, Ground.data⟩ (by simp) rfl
          clear hd
          simp only [putF]
          rw [hA, e0]
          go_frame
          go_wp2_with fail
          exact hK.out _ _ _ (by rw [hA]; simp only [putF]; rw [e0]; kernel_rfl) (Below.refl _ _) rfl
        · intro K us W hK0 hB hd
          have hK := hid hK0; clear hK0
          have HBW := hid hB
          have e1 : us 1 = .pointer (some ⟨g, 0, none⟩) := hd ⟨1, Ground.data⟩ (by simp) rfl
          clear hd
          simp only [putF]
          rw [hA, e1]
          go_frame
          go_wp2_with fail
          exact hK.out _ _ _ (by rw [hA]; simp only [putF]; rw [e1]; kernel_rfl) (Below.refl _ _) rfl
        · intro K us W hK0 hB hd
          have hK := hid hK0; clear hK0
          have HBW := hid hB
          have e2 : us 2 = .pointer (some ⟨g, 2, none⟩) := hd ⟨2, Ground.data⟩ (by simp) rfl
          clear hd
          have z2 : W.cell? ⟨g, 2, none⟩ = some (.int .i64 (s0 : Int)) := (HD.out.still hB).c2
          have z3 : W.cell? ⟨g, 3, none⟩ = some (.int .i64 (s1 : Int)) := (HD.out.still hB).c3
          simp only [putF]
          rw [hA, e2]
          go_frame
          go_wp2_with fail
          exact hK.out _ _ _ (by rw [hA]; simp only [putF]; rw [e2]; kernel_rfl) (Below.refl _ _) rfl
        · intro K us W hK0 hB hd
          have hK := hid hK0; clear hK0
          have HBW := hid hB
          clear hd
          simp only [putF]
          rw [hA]
          go_frame
          go_wp2_with fail
          exact hK.out _ _ _ (by rw [hA]; simp only [putF]; kernel_rfl) (Below.refl _ _) rfl
        · intro K us W hK0 hB hd
          have hK := hid hK0; clear hK0
          have HBW := hid hB
          have e4 : us 4 = .pointer (some ⟨g, 0, none⟩) := hd ⟨4, Ground.data⟩ (by simp) rfl
          clear hd
          simp only [putF]
          rw [hA, e4]
          go_frame
          go_wp2_with fail
          exact hK.out _ _ _ (by rw [hA]; simp only [putF]; rw [e4]; kernel_rfl) (Below.refl _ _) rfl
        · intro K us W hK0 hB hd
          have hK := hid hK0; clear hK0
          have HBW := hid hB
          have e5 : us 5 = .pointer (some ⟨g, 0, none⟩) := hd ⟨5, Ground.data⟩ (by simp) rfl
          clear hd
          simp only [putF]
          rw [hA, e5]
          go_frame
          go_wp2_with fail
          exact hK.out _ _ _ (by rw [hA]; simp only [putF]; rw [e5]; kernel_rfl) (Below.refl _ _) rfl
        · intro K us W hK0 hB hd
          have hK := hid hK0; clear hK0
          have HBW := hid hB
          have e6 : us 6 = .pointer (some ⟨g, 4, none⟩) := hd ⟨6, Ground.data⟩ (by simp) rfl
          clear hd
          have z4 : W.cell? ⟨g, 4, none⟩ = some (.bool dn) := (HD.out.still hB).c4
          simp only [putF]
          rw [hA, e6]
          go_frame
          go_wp2_with fail
          exact hK.out _ _ _ (by rw [hA]; simp only [putF]; rw [e6]; kernel_rfl) (Below.refl _ _) rfl
        · intro K us W hK0 hB hd
          have hK := hid hK0; clear hK0
          have HBW := hid hB
          clear hd
          simp only [putF]
          rw [hA]
          go_frame
          go_wp2_with fail
          exact hK.out _ _ _ (by rw [hA]; simp only [putF]; kernel_rfl) (Below.refl _ _) rfl
        · intro K us W hK0 hB hd
          have hK := hid hK0; clear hK0
          have HBW := hid hB
          have e8 : us 8 = .pointer (some ⟨g, 0, none⟩) := hd ⟨8, Ground.data⟩ (by simp) rfl
          clear hd
          simp only [putF]
          rw [hA, e8]
          go_frame
          go_wp2_with fail
          exact hK.out _ _ _ (by rw [hA]; simp only [putF]; rw [e8]; kernel_rfl) (Below.refl _ _) rfl
        · intro K us W hK0 hB hd
          have hK := hid hK0; clear hK0
          have HBW := hid hB
          have e9 : us 9 = .pointer (some ⟨g, 0, none⟩) := hd ⟨9, Ground.data⟩ (by simp) rfl
          clear hd
          simp only [putF]
          rw [hA, e9]
          go_frame
          go_wp2_with fail
          exact hK.out _ _ _ (by rw [hA]; simp only [putF]; rw [e9]; kernel_rfl) (Below.refl _ _) rfl
        · intro K us W hK0 hB hd
          have hK := hid hK0; clear hK0
          have HBW := hid hB
          have e10 : us 10 = .pointer (some ⟨g, 5, none⟩) := hd ⟨10, Ground.data⟩ (by simp) rfl
          clear hd
          have z5 : W.cell? ⟨g, 5, none⟩ = some (.int .i64 lf) := (HD.out.still hB).c5
          simp only [putF]
          rw [hA, e10]
          go_frame
          go_wp2_with fail
          exact hK.out _ _ _ (by rw [hA]; simp only [putF]; rw [e10]; kernel_rfl) (Below.refl _ _) rfl
        · intro K us W hK0 hB hd
          have hK := hid hK0; clear hK0
          have HBW := hid hB
          have e3 : us 3 = .agg #[.int .i64 (s0 : Int), .int .i64 (s1 : Int)] := hd ⟨3, Ground.data⟩ (by simp) rfl
          have e7 : us 7 = .bool dn := hd ⟨7, Ground.data⟩ (by simp) rfl
          have e11 : us 11 = .int .i64 lf := hd ⟨11, Ground.data⟩ (by simp) rfl
          clear hd
          simp only [putF]
          rw [hA, e3, e7, e11]
          go_frame
          go_wp2_with fail
          exact hK.out _ _ _ (by rw [hA]; simp only [putF]; rw [e3, e7, e11]; kernel_rfl) (Below.refl _ _) rfl
      case htM01 =>
        intro us WW hBB hp
        have e0 : us 0 = .pointer (some ⟨g, 0, none⟩) := hp 0 (by decide)
        have e1 : us 1 = .pointer (some ⟨g, 0, none⟩) := hp 1 (by decide)
        have e2 : us 2 = .pointer (some ⟨g, 2, none⟩) := hp 2 (by decide)
        have e3 : us 3 = .agg #[.int .i64 (s0 : Int), .int .i64 (s1 : Int)] := hp 3 (by decide)
        have e4 : us 4 = .pointer (some ⟨g, 0, none⟩) := hp 4 (by decide)
        have e5 : us 5 = .pointer (some ⟨g, 0, none⟩) := hp 5 (by decide)
        have e6 : us 6 = .pointer (some ⟨g, 4, none⟩) := hp 6 (by decide)
        have e7 : us 7 = .bool dn := hp 7 (by decide)
        have e8 : us 8 = .pointer (some ⟨g, 0, none⟩) := hp 8 (by decide)
        have e9 : us 9 = .pointer (some ⟨g, 0, none⟩) := hp 9 (by decide)
        have e10 : us 10 = .pointer (some ⟨g, 5, none⟩) := hp 10 (by decide)
        have e11 : us 11 = .int .i64 lf := hp 11 (by decide)
        have e12 : us 12 = .agg #[.slice none 0 0, .slice none 0 0, .int .i64 (s0 : Int), .int .i64 (s1 : Int), .bool dn, .int .i64 lf] := hp 12 (by decide)
        clear hp
        have HD := hid (HD.out.still hBB)
        have HB0 := hid (HB0.out.trans (hBB.mono HB0.out.size))
        have hzz := HB0.out.size
        clear hBB
        refine seqs_step rfl ?_
        intro K hK0
        have hK := hid hK0; clear hK0
        simp only [putF]
        rw [hA, e0, e1, e2, e3, e4, e5, e6, e7, e8, e9, e10, e11, e12]
        go_frame
        go_wp2_with fail
        refine hK.out (.pointer (some ⟨WW.heap.size, 0, none⟩)) _ _ (by rw [hA]; simp only [putF]; rw [e0, e1, e2, e3, e4, e5, e6, e7, e8, e9, e10, e11, e12]; kernel_rfl) ?_
        clear hK hA e0 e1 e2 e3 e4 e5 e6 e7 e8 e9 e10 e11 e12
        refine seqs_step rfl ?_
        intro K hK0
        have hK := hid hK0; clear hK0
        go_wp2_with fail
        refine hK.out (.pointer (some ⟨WW.heap.size, 0, none⟩)) _ _ (by kernel_rfl) ?_
        clear hK
        refine seqs_end rfl ?_
        go_wp2_with fail
        refine gen_world (fun W3 hW3 => ?_)
        have KN := hid (show W3.heap[WW.heap.size]? = some (.cells #[.slice none 0 0, .slice none 0 0, .int .i64 (s0 : Int), .int .i64 (s1 : Int), .bool dn, .int .i64 lf] 74) by rw [hW3]; exact heap_alloc_at _ _ _ rfl)
        have HD := hid (show DR W3 B g dn lf ⟨.slice none 0 0, ([] : List Nat), s0⟩ ⟨.slice (some ad1) n1 d1, b1, s1⟩ by rw [hW3]; exact HD.out.still ((Below.refl _ _).alloc (Nat.le_refl _) _))
        have HB3 := hid (show Below w.heap.size w W3 by rw [hW3]; exact HB0.out.alloc hzz _)
        clear hW3 HB0
        obtain ⟨gn, hgn2⟩ : ∃ gn, gn = WW.heap.size := ⟨_, rfl⟩
        rw [← hgn2] at KN ⊢
        have hge : w.heap.size ≤ gn := by omega
        have hgk := hid (show gn < W3.heap.size from (Array.getElem?_eq_some_iff.1 KN.out).1)
        clear hgn2 hzz
        refine wp_loop_rounds 3 ?_
        rw [rounds_succ]
        have HFT := hid (fun k (hk : foot g ⟨.slice none 0 0, ([] : List Nat), s0⟩ ⟨.slice (some ad1) n1 d1, b1, s1⟩ k) => show k < W3.heap.size by have h1 := HLT.out k hk; have h2 := HB3.out.size; omega)
        have HFG := hid (fun k (hk : foot g ⟨.slice none 0 0, ([] : List Nat), s0⟩ ⟨.slice (some ad1) n1 d1, b1, s1⟩ k) => show k ≠ gn from fun e => by have h1 := HLT.out k hk; omega)
        have HGK := hid hgk.out
        have HW0 := hid (show w.heap.size ≤ W3.heap.size from HB3.out.size)
        go_wp2_with fail
        refine gen_act (fun A0 hA => ?_)
        refine wp_region_by (by kernel_rfl) (by kernel_rfl) [some 22, some 23, some 24, some 25, some 26, some 27, some 28, some 29, some 30, some 31, some 32, some 33, some 34, none] rfl (by decide) (StR (fun j => ([.pointer (some ⟨gn, 0, none⟩), .int .i64 0, undef, .pointer (some ⟨g, 0, none⟩), .int .i64 0, .pointer (some ⟨g, 0, none⟩), .pointer (some ⟨g, 0, none⟩), .pointer (some ⟨g, 0, none⟩), .slice none 0 0, undef, .pointer (some ⟨gn, 0, none⟩), .pointer (some ⟨gn, 0, none⟩), .pointer (some ⟨gn, 0, none⟩), undef] : List Value).getD j undef) [2, 9, 13] (fun kk vv WW => (match kk with | 0 => WW.heap[gn]? = some (.cells #[.slice none 0 0, .slice none 0 0, .int .i64 (s0 : Int), .int .i64 (s1 : Int), .bool dn, .int .i64 lf] 74) | 1 => WW.heap[gn]? = some (.cells #[.slice none 0 0, .slice none 0 0, .int .i64 (s0 : Int), .int .i64 (s1 : Int), .bool dn, .int .i64 lf] 74) ∧ (∃ q, vv 0 = .slice (some ⟨q, 0, none⟩) 0 0) ∧ WW.ownsRow W3.heap.size 5 1 (vv 0) 0 [] | 2 => WW.heap[gn]? = some (.cells #[.slice none 0 0, .slice none 0 0, .int .i64 (s0 : Int), .int .i64 (s1 : Int), .bool dn, .int .i64 lf] 74) ∧ WW.ownsRow W3.heap.size 5 1 (vv 1) 0 (u8s ([] : List Nat)) | _ => WW.heap[gn]? = some (.cells #[vv 1, .slice none 0 0, .int .i64 (s0 : Int), .int .i64 (s1 : Int), .bool dn, .int .i64 lf] 74) ∧ WW.ownsRow W3.heap.size 5 1 (vv 1) 0 (u8s ([] : List Nat))) ∧ DR WW B g dn lf ⟨.slice none 0 0, ([] : List Nat), s0⟩ ⟨.slice (some ad1) n1 d1, b1, s1⟩ ∧ Below w.heap.size w WW ∧ W3.heap.size ≤ WW.heap.size)) (selfF A0 _) (putF_self A0 _)
          (StR.start ⟨(((Below.refl _ _).drew).block _ hgk.out).trans KN.out, HD.out.still (Below.refl _ _).drew, HB3.out.drew, ((Below.refl W3.heap.size W3).drew).size⟩ (fun _ => rfl)) ?hsF001 ?htF001
        case hsF001 =>
          refine ⟨?_, ?_, ?_, ?_, ?_, ?_, ?_, ?_, ?_, ?_, ?_, ?_, ?_, ?_, trivial⟩
          · intro K L us W hK0 hL hd hR
            have hK := hid (fun v9 A9 h1 (h3 : v9 = .pointer (some ⟨gn, 0, none⟩)) => hK0 v9 A9 W h1 (hR.pure (by decide) h3)); clear hK0
            clear hd
            simp only [putF]
            rw [hA]
            go_frame
            go_wp2_with fail
            exact hK.out _ _ (by rw [hA]; simp only [putF]; kernel_rfl) rfl
          · intro K L us W hK0 hL hd hR
            have hK := hid (fun v9 A9 h1 (h3 : v9 = .int .i64 0) => hK0 v9 A9 W h1 (hR.pure (by decide) h3)); clear hK0
            clear hd
            simp only [putF]
            rw [hA]
            go_frame
            go_wp2_with fail
            exact hK.out _ _ (by rw [hA]; simp only [putF]; kernel_rfl) rfl
          · intro K L us W hK0 hL hd hR
            have hS := hR.at 0 (by decide) (.inl rfl) hL
            have hK := hid (fun v9 A9 W9 h1 (hS' : (fun kk vv WW => (match kk with | 0 => WW.heap[gn]? = some (.cells #[.slice none 0 0, .slice none 0 0, .int .i64 (s0 : Int), .int .i64 (s1 : Int), .bool dn, .int .i64 lf] 74) | 1 => WW.heap[gn]? = some (.cells #[.slice none 0 0, .slice none 0 0, .int .i64 (s0 : Int), .int .i64 (s1 : Int), .bool dn, .int .i64 lf] 74) ∧ (∃ q, vv 0 = .slice (some ⟨q, 0, none⟩) 0 0) ∧ WW.ownsRow W3.heap.size 5 1 (vv 0) 0 [] | 2 => WW.heap[gn]? = some (.cells #[.slice none 0 0, .slice none 0 0, .int .i64 (s0 : Int), .int .i64 (s1 : Int), .bool dn, .int .i64 lf] 74) ∧ WW.ownsRow W3.heap.size 5 1 (vv 1) 0 (u8s ([] : List Nat)) | _ => WW.heap[gn]? = some (.cells #[vv 1, .slice none 0 0, .int .i64 (s0 : Int), .int .i64 (s1 : Int), .bool dn, .int .i64 lf] 74) ∧ WW.ownsRow W3.heap.size 5 1 (vv 1) 0 (u8s ([] : List Nat))) ∧ DR WW B g dn lf ⟨.slice none 0 0, ([] : List Nat), s0⟩ ⟨.slice (some ad1) n1 d1, b1, s1⟩ ∧ Below w.heap.size w WW ∧ W3.heap.size ≤ WW.heap.size) 1 (fun j => if j = 0 then v9 else selV [2, 9, 13] us j) W9) => hK0 v9 A9 W9 h1 (hR.next (by decide) 0 (by decide) (.inl rfl) hL hS')); clear hK0
            obtain ⟨hK4, hD4, hB4, hz4⟩ := hS
            have K4 := hid hK4
            have D4 := hid hD4
            have B4 := hid hB4
            clear hD4 hB4 hK4
            clear hd
            simp only [putF]
            rw [hA]
            go_frame
            go_wp2_with fail
            refine hK.out (.slice (some ⟨W.heap.size, 0, none⟩) 0 0) _ _ (by rw [hA]; simp only [putF]; kernel_rfl) ?_
            exact ⟨⟨heap_still ((Below.refl W.heap.size W).alloc (Nat.le_refl _) (.cells #[] 5)) K4.out, ⟨_, rfl⟩, World.ownsRow_lit (base := W3.heap.size) W #[] 0 hz4 (by unfold maxLen; omega) rfl⟩, D4.out.still ((Below.refl W.heap.size W).alloc (Nat.le_refl _) (.cells #[] 5)), B4.out.trans (((Below.refl W.heap.size W).alloc (Nat.le_refl _) (.cells #[] 5)).mono B4.out.size), by simp; omega⟩
          · intro K L us W hK0 hL hd hR
            have hK := hid (fun v9 A9 h1 (h3 : v9 = .pointer (some ⟨g, 0, none⟩)) => hK0 v9 A9 W h1 (hR.pure (by decide) h3)); clear hK0
            clear hd
            simp only [putF]
            rw [hA]
            go_frame
            go_wp2_with fail
            exact hK.out _ _ (by rw [hA]; simp only [putF]; kernel_rfl) rfl
          · intro K L us W hK0 hL hd hR
            have hK := hid (fun v9 A9 h1 (h3 : v9 = .int .i64 0) => hK0 v9 A9 W h1 (hR.pure (by decide) h3)); clear hK0
            clear hd
            simp only [putF]
            rw [hA]
            go_frame
            go_wp2_with fail
            exact hK.out _ _ (by rw [hA]; simp only [putF]; kernel_rfl) rfl
          · intro K L us W hK0 hL hd hR
            have e3 : us 3 = .pointer (some ⟨g, 0, none⟩) := hR.vals 3 (by decide) (all_on hd ⟨3, Ground.data⟩ (by simp) rfl)
            have hK := hid (fun v9 A9 h1 (h3 : v9 = .pointer (some ⟨g, 0, none⟩)) => hK0 v9 A9 W h1 (hR.pure (by decide) h3)); clear hK0
            clear hd
            simp only [putF]
            rw [hA, e3]
            go_frame
            go_wp2_with fail
            exact hK.out _ _ (by rw [hA]; simp only [putF]; rw [e3]; kernel_rfl) rfl
          · intro K L us W hK0 hL hd hR
            have e5 : us 5 = .pointer (some ⟨g, 0, none⟩) := hR.vals 5 (by decide) (all_on hd ⟨5, Ground.data⟩ (by simp) rfl)
            have hK := hid (fun v9 A9 h1 (h3 : v9 = .pointer (some ⟨g, 0, none⟩)) => hK0 v9 A9 W h1 (hR.pure (by decide) h3)); clear hK0
            clear hd
            simp only [putF]
            rw [hA, e5]
            go_frame
            go_wp2_with fail
            exact hK.out _ _ (by rw [hA]; simp only [putF]; rw [e5]; kernel_rfl) rfl
          · intro K L us W hK0 hL hd hR
            have e6 : us 6 = .pointer (some ⟨g, 0, none⟩) := hR.vals 6 (by decide) (all_on hd ⟨6, Ground.data⟩ (by simp) rfl)
            have e4 : us 4 = .int .i64 0 := hR.vals 4 (by decide) (all_on hd ⟨4, Ground.data⟩ (by simp) rfl)
            have hK := hid (fun v9 A9 h1 (h3 : v9 = .pointer (some ⟨g, 0, none⟩)) => hK0 v9 A9 W h1 (hR.pure (by decide) h3)); clear hK0
            clear hd
            simp only [putF]
            rw [hA, e6, e4]
            go_frame
            go_wp2_with fail
            exact hK.out _ _ (by rw [hA]; simp only [putF]; rw [e6, e4]; kernel_rfl) rfl
          · intro K L us W hK0 hL hd hR
            have e7 : us 7 = .pointer (some ⟨g, 0, none⟩) := hR.vals 7 (by decide) (all_on hd ⟨7, Ground.data⟩ (by simp) rfl)
            have hK := hid (fun v9 A9 h1 (h3 : v9 = .slice none 0 0) => hK0 v9 A9 W h1 (hR.pure (by decide) h3)); clear hK0
            have hst := hR.st
            obtain ⟨kq, _, _, hSq⟩ := hst
            have hD4 : DR W B g dn lf ⟨.slice none 0 0, ([] : List Nat), s0⟩ ⟨.slice (some ad1) n1 d1, b1, s1⟩ := hSq.2.1
            have z0 : W.cell? ⟨g, 0, none⟩ = some (.slice none 0 0) := hD4.c0
            clear hSq hD4
            clear hd
            simp only [putF]
            rw [hA, e7]
            go_frame
            go_wp2_with fail
            exact hK.out _ _ (by rw [hA]; simp only [putF]; rw [e7]; kernel_rfl) rfl
          · intro K L us W hK0 hL hd hR
            have e8 : us 8 = .slice none 0 0 := hR.vals 8 (by decide) (all_on hd ⟨8, Ground.data⟩ (by simp) rfl)
            have hS := hR.at 1 (by decide) (.inr ⟨by decide, all_on hd ⟨2, Ground.data⟩ (by simp) rfl⟩) hL
            have hK := hid (fun v9 A9 W9 h1 (hS' : (fun kk vv WW => (match kk with | 0 => WW.heap[gn]? = some (.cells #[.slice none 0 0, .slice none 0 0, .int .i64 (s0 : Int), .int .i64 (s1 : Int), .bool dn, .int .i64 lf] 74) | 1 => WW.heap[gn]? = some (.cells #[.slice none 0 0, .slice none 0 0, .int .i64 (s0 : Int), .int .i64 (s1 : Int), .bool dn, .int .i64 lf] 74) ∧ (∃ q, vv 0 = .slice (some ⟨q, 0, none⟩) 0 0) ∧ WW.ownsRow W3.heap.size 5 1 (vv 0) 0 [] | 2 => WW.heap[gn]? = some (.cells #[.slice none 0 0, .slice none 0 0, .int .i64 (s0 : Int), .int .i64 (s1 : Int), .bool dn, .int .i64 lf] 74) ∧ WW.ownsRow W3.heap.size 5 1 (vv 1) 0 (u8s ([] : List Nat)) | _ => WW.heap[gn]? = some (.cells #[vv 1, .slice none 0 0, .int .i64 (s0 : Int), .int .i64 (s1 : Int), .bool dn, .int .i64 lf] 74) ∧ WW.ownsRow W3.heap.size 5 1 (vv 1) 0 (u8s ([] : List Nat))) ∧ DR WW B g dn lf ⟨.slice none 0 0, ([] : List Nat), s0⟩ ⟨.slice (some ad1) n1 d1, b1, s1⟩ ∧ Below w.heap.size w WW ∧ W3.heap.size ≤ WW.heap.size) 2 (fun j => if j = 1 then v9 else selV [2, 9, 13] us j) W9) => hK0 v9 A9 W9 h1 (hR.next (by decide) 1 (by decide) (.inr ⟨by decide, all_on hd ⟨2, Ground.data⟩ (by simp) rfl⟩) hL hS')); clear hK0
            obtain ⟨⟨hK4, ⟨q, hq⟩, hW4⟩, hD4, hB4, hz4⟩ := hS
            have K4 := hid hK4
            have e2 : us 2 = .slice (some ⟨q, 0, none⟩) 0 0 := hq
            have hW5 : W.ownsRow W3.heap.size 5 1 (us 2) 0 [] := hW4
            rw [e2] at hW5
            have O4 := hid hW5
            have D4 := hid hD4
            have B4 := hid hB4
            clear hD4 hB4 hK4 hW4 hW5 hq
            clear hd
            simp only [putF]
            rw [hA, e8, e2]
            go_frame
            go_wp2_with (first | (at_builtin; go_loud (refine wpList_append_own_none rfl (.tmp 24) (.tmp 30) 70 rfl W3.heap.size 5 i0 1 Try.underlying70 HI.out _ 0 [] rfl O4.out rfl ?_)))
            refine hK.out (.slice (some ⟨q, 0, none⟩) 0 0) _ _ (by rw [hA]; simp only [putF]; rw [e8, e2]; kernel_rfl) ?_
            exact ⟨⟨K4.out, O4.out⟩, D4.out, B4.out, hz4⟩
          · intro K L us W hK0 hL hd hR
            have e0 : us 0 = .pointer (some ⟨gn, 0, none⟩) := hR.vals 0 (by decide) (all_on hd ⟨0, Ground.data⟩ (by simp) rfl)
            have hK := hid (fun v9 A9 h1 (h3 : v9 = .pointer (some ⟨gn, 0, none⟩)) => hK0 v9 A9 W h1 (hR.pure (by decide) h3)); clear hK0
            clear hd
            simp only [putF]
            rw [hA, e0]
            go_frame
            go_wp2_with fail
            exact hK.out _ _ (by rw [hA]; simp only [putF]; rw [e0]; kernel_rfl) rfl
          · intro K L us W hK0 hL hd hR
            have e10 : us 10 = .pointer (some ⟨gn, 0, none⟩) := hR.vals 10 (by decide) (all_on hd ⟨10, Ground.data⟩ (by simp) rfl)
            have hK := hid (fun v9 A9 h1 (h3 : v9 = .pointer (some ⟨gn, 0, none⟩)) => hK0 v9 A9 W h1 (hR.pure (by decide) h3)); clear hK0
            clear hd
            simp only [putF]
            rw [hA, e10]
            go_frame
            go_wp2_with fail
            exact hK.out _ _ (by rw [hA]; simp only [putF]; rw [e10]; kernel_rfl) rfl
          · intro K L us W hK0 hL hd hR
            have e11 : us 11 = .pointer (some ⟨gn, 0, none⟩) := hR.vals 11 (by decide) (all_on hd ⟨11, Ground.data⟩ (by simp) rfl)
            have e1 : us 1 = .int .i64 0 := hR.vals 1 (by decide) (all_on hd ⟨1, Ground.data⟩ (by simp) rfl)
            have hK := hid (fun v9 A9 h1 (h3 : v9 = .pointer (some ⟨gn, 0, none⟩)) => hK0 v9 A9 W h1 (hR.pure (by decide) h3)); clear hK0
            clear hd
            simp only [putF]
            rw [hA, e11, e1]
            go_frame
            go_wp2_with fail
            exact hK.out _ _ (by rw [hA]; simp only [putF]; rw [e11, e1]; kernel_rfl) rfl
          · intro K L us W hK0 hL hd hR
            have e12 : us 12 = .pointer (some ⟨gn, 0, none⟩) := hR.vals 12 (by decide) (all_on hd ⟨12, Ground.data⟩ (by simp) rfl)
            have hS := hR.at 2 (by decide) (.inr ⟨by decide, all_on hd ⟨9, Ground.data⟩ (by simp) rfl⟩) hL
            have hK := hid (fun v9 A9 W9 h1 (hS' : (fun kk vv WW => (match kk with | 0 => WW.heap[gn]? = some (.cells #[.slice none 0 0, .slice none 0 0, .int .i64 (s0 : Int), .int .i64 (s1 : Int), .bool dn, .int .i64 lf] 74) | 1 => WW.heap[gn]? = some (.cells #[.slice none 0 0, .slice none 0 0, .int .i64 (s0 : Int), .int .i64 (s1 : Int), .bool dn, .int .i64 lf] 74) ∧ (∃ q, vv 0 = .slice (some ⟨q, 0, none⟩) 0 0) ∧ WW.ownsRow W3.heap.size 5 1 (vv 0) 0 [] | 2 => WW.heap[gn]? = some (.cells #[.slice none 0 0, .slice none 0 0, .int .i64 (s0 : Int), .int .i64 (s1 : Int), .bool dn, .int .i64 lf] 74) ∧ WW.ownsRow W3.heap.size 5 1 (vv 1) 0 (u8s ([] : List Nat)) | _ => WW.heap[gn]? = some (.cells #[vv 1, .slice none 0 0, .int .i64 (s0 : Int), .int .i64 (s1 : Int), .bool dn, .int .i64 lf] 74) ∧ WW.ownsRow W3.heap.size 5 1 (vv 1) 0 (u8s ([] : List Nat))) ∧ DR WW B g dn lf ⟨.slice none 0 0, ([] : List Nat), s0⟩ ⟨.slice (some ad1) n1 d1, b1, s1⟩ ∧ Below w.heap.size w WW ∧ W3.heap.size ≤ WW.heap.size) 3 (fun j => if j = 2 then v9 else selV [2, 9, 13] us j) W9) => hK0 v9 A9 W9 h1 (hR.next (by decide) 2 (by decide) (.inr ⟨by decide, all_on hd ⟨9, Ground.data⟩ (by simp) rfl⟩) hL hS')); clear hK0
            obtain ⟨⟨hK4, hW4⟩, hD4, hB4, hz4⟩ := hS
            have K4 := hid hK4
            obtain ⟨v9, e9⟩ : ∃ v9, us 9 = v9 := ⟨_, rfl⟩
            have hW5 : W.ownsRow W3.heap.size 5 1 (us 9) 0 (u8s ([] : List Nat)) := hW4
            rw [e9] at hW5
            have O4 := hid hW5
            obtain ⟨a9, c9, e99⟩ := own_slice hW5
            subst e99
            have D4 := hid hD4
            have B4 := hid hB4
            clear hD4 hB4 hK4 hW4 hW5
            have z1 : W.frozen? ⟨gn, 0, none⟩ = false := by have hh := K4.out; simp [World.frozen?, hh]
            have z0 : W.cell? ⟨gn, 0, none⟩ = some (.slice none 0 0) := (cell_row (j := 0) K4.out).trans rfl
            clear hd
            simp only [putF]
            rw [hA, e12, e9]
            go_frame
            go_wp2_with fail
            refine hK.out undef _ _ (by rw [hA]; simp only [putF]; rw [e12, e9]; kernel_rfl) ?_
            have hoth : ∀ k, k ≠ gn → (W.setCell ⟨gn, 0, none⟩ (.slice a9 0 c9)).heap[k]? = W.heap[k]? := fun k hk => Below.heap_setCell W ⟨gn, 0, none⟩ _ k hk
            refine ⟨⟨?_, ?_⟩, D4.out.frame (F := fun k => k = gn) (Fr.set rfl) (fun k hk e => by have h1 := HFG.out k hk; omega), B4.out.setCell (p := ⟨gn, 0, none⟩) hge _, by simp; omega⟩
            · show _ = some (Obj.cells #[(us 9), .slice none 0 0, .int .i64 (s0 : Int), .int .i64 (s1 : Int), .bool dn, .int .i64 lf] 74)
              rw [e9]
              exact heap_setCell K4.out _
            · show World.ownsRow _ W3.heap.size 5 1 (us 9) 0 (u8s ([] : List Nat))
              rw [e9]
              exact own_same O4.out (fun k hk => hoth k (fun e => by have h1 := (O4.out.lt k hk).1; have h2 := hgk.out; omega))
        case htF001 =>
          intro L us X0 hall hR
          have hS := hR.last (fun i hi => match i, hi with | 0, _ => hall 2 (by decide) | 1, _ => hall 9 (by decide) | 2, _ => hall 13 (by decide))
          have e0 : us 0 = .pointer (some ⟨gn, 0, none⟩) := hR.vals 0 (by decide) (hall 0 (by decide))
          have e1 : us 1 = .int .i64 0 := hR.vals 1 (by decide) (hall 1 (by decide))
          have e3 : us 3 = .pointer (some ⟨g, 0, none⟩) := hR.vals 3 (by decide) (hall 3 (by decide))
          have e4 : us 4 = .int .i64 0 := hR.vals 4 (by decide) (hall 4 (by decide))
          have e5 : us 5 = .pointer (some ⟨g, 0, none⟩) := hR.vals 5 (by decide) (hall 5 (by decide))
          have e6 : us 6 = .pointer (some ⟨g, 0, none⟩) := hR.vals 6 (by decide) (hall 6 (by decide))
          have e7 : us 7 = .pointer (some ⟨g, 0, none⟩) := hR.vals 7 (by decide) (hall 7 (by decide))
          have e8 : us 8 = .slice none 0 0 := hR.vals 8 (by decide) (hall 8 (by decide))
          have e10 : us 10 = .pointer (some ⟨gn, 0, none⟩) := hR.vals 10 (by decide) (hall 10 (by decide))
          have e11 : us 11 = .pointer (some ⟨gn, 0, none⟩) := hR.vals 11 (by decide) (hall 11 (by decide))
          have e12 : us 12 = .pointer (some ⟨gn, 0, none⟩) := hR.vals 12 (by decide) (hall 12 (by decide))
          clear hR hall
          obtain ⟨⟨hK4, hW4⟩, hD4, hB4, hz4⟩ := hS
          obtain ⟨v2, e2⟩ : ∃ v2, us 2 = v2 := ⟨_, rfl⟩
          obtain ⟨v9, e9⟩ : ∃ v9, us 9 = v9 := ⟨_, rfl⟩
          have hK5 : X0.heap[gn]? = some (.cells #[(us 9), .slice none 0 0, .int .i64 (s0 : Int), .int .i64 (s1 : Int), .bool dn, .int .i64 lf] 74) := hK4
          have hW5 : X0.ownsRow W3.heap.size 5 1 (us 9) 0 (u8s ([] : List Nat)) := hW4
          rw [e9] at hK5 hW5
          obtain ⟨p0, q0, e99⟩ := own_slice hW5
          subst e99
          have KN := hid hK5
          have HD := hid hD4
          have HB3 := hid hB4
          have hgk := hid (show gn < X0.heap.size from (Array.getElem?_eq_some_iff.1 hK5).1)
          have HO0 := hid hW5
          clear hK4 hK5 hD4 hB4 hW4 hW5
          simp only [putF]
          rw [hA, e2, e9, e0, e1, e3, e4, e5, e6, e7, e8, e10, e11, e12]
          go_frame
          clear hA e2 e9 e0 e1 e3 e4 e5 e6 e7 e8 e10 e11 e12
          go_wp2_with fail
          have HP0 := hid (fun k (hk : (Value.ownBlock (.slice p0 0 q0)) = some k) => (HO0.out.lt k hk).2)
          have HPG := hid (fun k (hk : (Value.ownBlock (.slice p0 0 q0)) = some k) => show k ≠ gn from fun e => by have h1 := (HO0.out.lt k hk).1; have h2 := HGK.out; omega)
          have HO0 := hid (own_low HO0.out HW0.out)
          have HFT := hid (fun k hk => show k < X0.heap.size from Nat.lt_of_lt_of_le (HFT.out k hk) hz4)
          have HW1 := hid (show w.heap.size ≤ X0.heap.size by have := HW0.out; omega)
          rw [rounds_succ]
          go_wp2_with fail
          refine gen_act (fun A0 hA => ?_)
          refine wp_region_by (by kernel_rfl) (by kernel_rfl) [some 22, some 23, some 24, some 25, some 26, some 27, some 28, some 29, some 30, some 31, some 32, some 33, some 34, none] rfl (by decide) (StR (fun j => ([.pointer (some ⟨gn, 0, none⟩), .int .i64 1, undef, .pointer (some ⟨g, 0, none⟩), .int .i64 1, .pointer (some ⟨g, 0, none⟩), .pointer (some ⟨g, 0, none⟩), .pointer (some ⟨g, 1, none⟩), .slice (some ad1) n1 d1, undef, .pointer (some ⟨gn, 0, none⟩), .pointer (some ⟨gn, 0, none⟩), .pointer (some ⟨gn, 1, none⟩), undef] : List Value).getD j undef) [2, 9, 13] (fun kk vv WW => (match kk with | 0 => WW.heap[gn]? = some (.cells #[.slice p0 0 q0, .slice none 0 0, .int .i64 (s0 : Int), .int .i64 (s1 : Int), .bool dn, .int .i64 lf] 74) | 1 => WW.heap[gn]? = some (.cells #[.slice p0 0 q0, .slice none 0 0, .int .i64 (s0 : Int), .int .i64 (s1 : Int), .bool dn, .int .i64 lf] 74) ∧ (∃ q, vv 0 = .slice (some ⟨q, 0, none⟩) 0 0) ∧ WW.ownsRow X0.heap.size 5 1 (vv 0) 0 [] | 2 => WW.heap[gn]? = some (.cells #[.slice p0 0 q0, .slice none 0 0, .int .i64 (s0 : Int), .int .i64 (s1 : Int), .bool dn, .int .i64 lf] 74) ∧ WW.ownsRow X0.heap.size 5 1 (vv 1) n1 (u8s b1) | _ => WW.heap[gn]? = some (.cells #[.slice p0 0 q0, vv 1, .int .i64 (s0 : Int), .int .i64 (s1 : Int), .bool dn, .int .i64 lf] 74) ∧ WW.ownsRow X0.heap.size 5 1 (vv 1) n1 (u8s b1)) ∧ DR WW B g dn lf ⟨.slice none 0 0, ([] : List Nat), s0⟩ ⟨.slice (some ad1) n1 d1, b1, s1⟩ ∧ Below w.heap.size w WW ∧ X0.heap.size ≤ WW.heap.size ∧ WW.ownsRow w.heap.size 5 1 (.slice p0 0 q0) 0 (u8s ([] : List Nat)))) (selfF A0 _) (putF_self A0 _)
            (StR.start ⟨(((Below.refl _ _).drew).block _ hgk.out).trans KN.out, HD.out.still (Below.refl _ _).drew, HB3.out.drew, ((Below.refl X0.heap.size X0).drew).size, own_same HO0.out (fun k hk => ((Below.refl X0.heap.size X0).drew).block k (HO0.out.lt k hk).2)⟩ (fun _ => rfl)) ?hsF101 ?htF101
          case hsF101 =>
            refine ⟨?_, ?_, ?_, ?_, ?_, ?_, ?_, ?_, ?_, ?_, ?_, ?_, ?_, ?_, trivial⟩
            · intro K L us W hK0 hL hd hR
              have hK := hid (fun v9 A9 h1 (h3 : v9 = .pointer (some ⟨gn, 0, none⟩)) => hK0 v9 A9 W h1 (hR.pure (by decide) h3)); clear hK0
              clear hd
              simp only [putF]
              rw [hA]
              go_frame
              go_wp2_with fail
              exact hK.out _ _ (by rw [hA]; simp only [putF]; kernel_rfl) rfl
            · intro K L us W hK0 hL hd hR
              have hK := hid (fun v9 A9 h1 (h3 : v9 = .int .i64 1) => hK0 v9 A9 W h1 (hR.pure (by decide) h3)); clear hK0
              clear hd
              simp only [putF]
              rw [hA]
              go_frame
              go_wp2_with fail
              exact hK.out _ _ (by rw [hA]; simp only [putF]; kernel_rfl) rfl
            · intro K L us W hK0 hL hd hR
              have hS := hR.at 0 (by decide) (.inl rfl) hL
              have hK := hid (fun v9 A9 W9 h1 (hS' : (fun kk vv WW => (match kk with | 0 => WW.heap[gn]? = some (.cells #[.slice p0 0 q0, .slice none 0 0, .int .i64 (s0 : Int), .int .i64 (s1 : Int), .bool dn, .int .i64 lf] 74) | 1 => WW.heap[gn]? = some (.cells #[.slice p0 0 q0, .slice none 0 0, .int .i64 (s0 : Int), .int .i64 (s1 : Int), .bool dn, .int .i64 lf] 74) ∧ (∃ q, vv 0 = .slice (some ⟨q, 0, none⟩) 0 0) ∧ WW.ownsRow X0.heap.size 5 1 (vv 0) 0 [] | 2 => WW.heap[gn]? = some (.cells #[.slice p0 0 q0, .slice none 0 0, .int .i64 (s0 : Int), .int .i64 (s1 : Int), .bool dn, .int .i64 lf] 74) ∧ WW.ownsRow X0.heap.size 5 1 (vv 1) n1 (u8s b1) | _ => WW.heap[gn]? = some (.cells #[.slice p0 0 q0, vv 1, .int .i64 (s0 : Int), .int .i64 (s1 : Int), .bool dn, .int .i64 lf] 74) ∧ WW.ownsRow X0.heap.size 5 1 (vv 1) n1 (u8s b1)) ∧ DR WW B g dn lf ⟨.slice none 0 0, ([] : List Nat), s0⟩ ⟨.slice (some ad1) n1 d1, b1, s1⟩ ∧ Below w.heap.size w WW ∧ X0.heap.size ≤ WW.heap.size ∧ WW.ownsRow w.heap.size 5 1 (.slice p0 0 q0) 0 (u8s ([] : List Nat))) 1 (fun j => if j = 0 then v9 else selV [2, 9, 13] us j) W9) => hK0 v9 A9 W9 h1 (hR.next (by decide) 0 (by decide) (.inl rfl) hL hS')); clear hK0
              obtain ⟨hK4, hD4, hB4, hz4, hO4⟩ := hS
              have K4 := hid hK4
              have D4 := hid hD4
              have B4 := hid hB4
              have P4 := hid hO4
              clear hD4 hB4 hO4 hK4
              clear hd
              simp only [putF]
              rw [hA]
              go_frame
              go_wp2_with fail
              refine hK.out (.slice (some ⟨W.heap.size, 0, none⟩) 0 0) _ _ (by rw [hA]; simp only [putF]; kernel_rfl) ?_
              exact ⟨⟨heap_still ((Below.refl W.heap.size W).alloc (Nat.le_refl _) (.cells #[] 5)) K4.out, ⟨_, rfl⟩, World.ownsRow_lit (base := X0.heap.size) W #[] 0 hz4 (by unfold maxLen; omega) rfl⟩, D4.out.still ((Below.refl W.heap.size W).alloc (Nat.le_refl _) (.cells #[] 5)), B4.out.trans (((Below.refl W.heap.size W).alloc (Nat.le_refl _) (.cells #[] 5)).mono B4.out.size), by simp; omega, own_same P4.out (fun k hk => ((Below.refl W.heap.size W).alloc (Nat.le_refl _) (.cells #[] 5)).block k (P4.out.lt k hk).2)⟩
            · intro K L us W hK0 hL hd hR
              have hK := hid (fun v9 A9 h1 (h3 : v9 = .pointer (some ⟨g, 0, none⟩)) => hK0 v9 A9 W h1 (hR.pure (by decide) h3)); clear hK0
              clear hd
              simp only [putF]
              rw [hA]
              go_frame
              go_wp2_with fail
              exact hK.out _ _ (by rw [hA]; simp only [putF]; kernel_rfl) rfl
            · intro K L us W hK0 hL hd hR
              have hK := hid (fun v9 A9 h1 (h3 : v9 = .int .i64 1) => hK0 v9 A9 W h1 (hR.pure (by decide) h3)); clear hK0
              clear hd
              simp only [putF]
              rw [hA]
              go_frame
              go_wp2_with fail
              exact hK.out _ _ (by rw [hA]; simp only [putF]; kernel_rfl) rfl
            · intro K L us W hK0 hL hd hR
              have e3 : us 3 = .pointer (some ⟨g, 0, none⟩) := hR.vals 3 (by decide) (all_on hd ⟨3, Ground.data⟩ (by simp) rfl)
              have hK := hid (fun v9 A9 h1 (h3 : v9 = .pointer (some ⟨g, 0, none⟩)) => hK0 v9 A9 W h1 (hR.pure (by decide) h3)); clear hK0
              clear hd
              simp only [putF]
              rw [hA, e3]
              go_frame
              go_wp2_with fail
              exact hK.out _ _ (by rw [hA]; simp only [putF]; rw [e3]; kernel_rfl) rfl
            · intro K L us W hK0 hL hd hR
              have e5 : us 5 = .pointer (some ⟨g, 0, none⟩) := hR.vals 5 (by decide) (all_on hd ⟨5, Ground.data⟩ (by simp) rfl)
              have hK := hid (fun v9 A9 h1 (h3 : v9 = .pointer (some ⟨g, 0, none⟩)) => hK0 v9 A9 W h1 (hR.pure (by decide) h3)); clear hK0
              clear hd
              simp only [putF]
              rw [hA, e5]
              go_frame
              go_wp2_with fail
              exact hK.out _ _ (by rw [hA]; simp only [putF]; rw [e5]; kernel_rfl) rfl
            · intro K L us W hK0 hL hd hR
              have e6 : us 6 = .pointer (some ⟨g, 0, none⟩) := hR.vals 6 (by decide) (all_on hd ⟨6, Ground.data⟩ (by simp) rfl)
              have e4 : us 4 = .int .i64 1 := hR.vals 4 (by decide) (all_on hd ⟨4, Ground.data⟩ (by simp) rfl)
              have hK := hid (fun v9 A9 h1 (h3 : v9 = .pointer (some ⟨g, 1, none⟩)) => hK0 v9 A9 W h1 (hR.pure (by decide) h3)); clear hK0
              clear hd
              simp only [putF]
              rw [hA, e6, e4]
              go_frame
              go_wp2_with fail
              exact hK.out _ _ (by rw [hA]; simp only [putF]; rw [e6, e4]; kernel_rfl) rfl
            · intro K L us W hK0 hL hd hR
              have e7 : us 7 = .pointer (some ⟨g, 1, none⟩) := hR.vals 7 (by decide) (all_on hd ⟨7, Ground.data⟩ (by simp) rfl)
              have hK := hid (fun v9 A9 h1 (h3 : v9 = .slice (some ad1) n1 d1) => hK0 v9 A9 W h1 (hR.pure (by decide) h3)); clear hK0
              have hst := hR.st
              obtain ⟨kq, _, _, hSq⟩ := hst
              have hD4 : DR W B g dn lf ⟨.slice none 0 0, ([] : List Nat), s0⟩ ⟨.slice (some ad1) n1 d1, b1, s1⟩ := hSq.2.1
              have z0 : W.cell? ⟨g, 1, none⟩ = some (.slice (some ad1) n1 d1) := hD4.c1
              clear hSq hD4
              clear hd
              simp only [putF]
              rw [hA, e7]
              go_frame
              go_wp2_with fail
              exact hK.out _ _ (by rw [hA]; simp only [putF]; rw [e7]; kernel_rfl) rfl
            · intro K L us W hK0 hL hd hR
              have e8 : us 8 = .slice (some ad1) n1 d1 := hR.vals 8 (by decide) (all_on hd ⟨8, Ground.data⟩ (by simp) rfl)
              have hS := hR.at 1 (by decide) (.inr ⟨by decide, all_on hd ⟨2, Ground.data⟩ (by simp) rfl⟩) hL
              have hK := hid (fun v9 A9 W9 h1 (hS' : (fun kk vv WW => (match kk with | 0 => WW.heap[gn]? = some (.cells #[.slice p0 0 q0, .slice none 0 0, .int .i64 (s0 : Int), .int .i64 (s1 : Int), .bool dn, .int .i64 lf] 74) | 1 => WW.heap[gn]? = some (.cells #[.slice p0 0 q0, .slice none 0 0, .int .i64 (s0 : Int), .int .i64 (s1 : Int), .bool dn, .int .i64 lf] 74) ∧ (∃ q, vv 0 = .slice (some ⟨q, 0, none⟩) 0 0) ∧ WW.ownsRow X0.heap.size 5 1 (vv 0) 0 [] | 2 => WW.heap[gn]? = some (.cells #[.slice p0 0 q0, .slice none 0 0, .int .i64 (s0 : Int), .int .i64 (s1 : Int), .bool dn, .int .i64 lf] 74) ∧ WW.ownsRow X0.heap.size 5 1 (vv 1) n1 (u8s b1) | _ => WW.heap[gn]? = some (.cells #[.slice p0 0 q0, vv 1, .int .i64 (s0 : Int), .int .i64 (s1 : Int), .bool dn, .int .i64 lf] 74) ∧ WW.ownsRow X0.heap.size 5 1 (vv 1) n1 (u8s b1)) ∧ DR WW B g dn lf ⟨.slice none 0 0, ([] : List Nat), s0⟩ ⟨.slice (some ad1) n1 d1, b1, s1⟩ ∧ Below w.heap.size w WW ∧ X0.heap.size ≤ WW.heap.size ∧ WW.ownsRow w.heap.size 5 1 (.slice p0 0 q0) 0 (u8s ([] : List Nat))) 2 (fun j => if j = 1 then v9 else selV [2, 9, 13] us j) W9) => hK0 v9 A9 W9 h1 (hR.next (by decide) 1 (by decide) (.inr ⟨by decide, all_on hd ⟨2, Ground.data⟩ (by simp) rfl⟩) hL hS')); clear hK0
              obtain ⟨⟨hK4, ⟨q, hq⟩, hW4⟩, hD4, hB4, hz4, hO4⟩ := hS
              have K4 := hid hK4
              have e2 : us 2 = .slice (some ⟨q, 0, none⟩) 0 0 := hq
              have hW5 : W.ownsRow X0.heap.size 5 1 (us 2) 0 [] := hW4
              rw [e2] at hW5
              have O4 := hid hW5
              have D4 := hid hD4
              have B4 := hid hB4
              have P4 := hid hO4
              clear hD4 hB4 hO4 hK4 hW4 hW5 hq
              have HC4 := hid (show ∀ j u, (u8s b1)[j]? = some u → W.cell? (ad1.add j) = some u from by rcases own_rdb (show W.ownsRow B 5 1 (.slice (some ad1) n1 d1) b1.length (u8s b1) from D4.out.o1) with ⟨e, _⟩ | ⟨ad9, c9, e, h9⟩; (· injection e with e; exact absurd e (by simp)); (· injection e with e; injection e with e; subst e; exact h9))
              clear hd
              simp only [putF]
              rw [hA, e8, e2]
              go_frame
              go_wp2_with (first | (at_builtin; go_loud (refine wpList_append_own_at _ rfl (.tmp 24) (.tmp 30) 70 rfl X0.heap.size 5 i0 (.int .u8 0) 1 1 Try.underlying70 HI.out HZ0.out HZ1.out HZ2.out rfl (by decide) _ 0 [] rfl O4.out ad1 n1 d1 (u8s b1) rfl (by simp [u8s, HN1.out]) (fun j u hu => HC4.out j u hu) (u8s_one _) (by unfold maxLen; omega) (by omega) (by omega) ?_; intro v7 w7 ho1 ho2 ho3 ho4; clear ho3; simp only [Nat.zero_add, List.nil_append] at ho1; have HO1 := hid ho1; have HO2 := hid ho2; clear ho1 ho2 ho4)))
              refine hK.out v7 _ _ (by rw [hA]; simp only [putF]; rw [e8, e2]; kernel_rfl) ?_
              have hlt4 : ∀ k, some k = some q → X0.heap.size ≤ k := fun k hk => (O4.out.lt k hk.symm).1
              have hbk : ∀ k, k < X0.heap.size → w7.heap[k]? = W.heap[k]? := fun k hk => HO2.out.block k (by omega) (fun e => by have h1 := hlt4 k e; omega)
              have hfr : Fr (fun k => k = q) W w7 := Fr.grown HO2.out (fun k hk => by injection hk with hk; exact hk.symm)
              have hqz := hlt4 q rfl
              refine ⟨⟨(hbk gn hgk.out).trans K4.out, HO1.out⟩, D4.out.frame hfr (fun k hk e => by have h1 := HFT.out k hk; omega), ⟨HO2.out.os.trans B4.out.os, HO2.out.tape.trans B4.out.tape, HO2.out.output.trans B4.out.output, Nat.le_trans B4.out.size HO2.out.size, fun k hk => (hbk k (by have := HW1.out; omega)).trans (B4.out.block k hk)⟩, by have := HO2.out.size; omega, own_same P4.out (fun k hk => hbk k (HP0.out k hk))⟩
            · intro K L us W hK0 hL hd hR
              have e0 : us 0 = .pointer (some ⟨gn, 0, none⟩) := hR.vals 0 (by decide) (all_on hd ⟨0, Ground.data⟩ (by simp) rfl)
              have hK := hid (fun v9 A9 h1 (h3 : v9 = .pointer (some ⟨gn, 0, none⟩)) => hK0 v9 A9 W h1 (hR.pure (by decide) h3)); clear hK0
              clear hd
              simp only [putF]
              rw [hA, e0]
              go_frame
              go_wp2_with fail
              exact hK.out _ _ (by rw [hA]; simp only [putF]; rw [e0]; kernel_rfl) rfl
            · intro K L us W hK0 hL hd hR
              have e10 : us 10 = .pointer (some ⟨gn, 0, none⟩) := hR.vals 10 (by decide) (all_on hd ⟨10, Ground.data⟩ (by simp) rfl)
              have hK := hid (fun v9 A9 h1 (h3 : v9 = .pointer (some ⟨gn, 0, none⟩)) => hK0 v9 A9 W h1 (hR.pure (by decide) h3)); clear hK0
              clear hd
              simp only [putF]
              rw [hA, e10]
              go_frame
              go_wp2_with fail
              exact hK.out _ _ (by rw [hA]; simp only [putF]; rw [e10]; kernel_rfl) rfl
            · intro K L us W hK0 hL hd hR
              have e11 : us 11 = .pointer (some ⟨gn, 0, none⟩) := hR.vals 11 (by decide) (all_on hd ⟨11, Ground.data⟩ (by simp) rfl)
              have e1 : us 1 = .int .i64 1 := hR.vals 1 (by decide) (all_on hd ⟨1, Ground.data⟩ (by simp) rfl)
              have hK := hid (fun v9 A9 h1 (h3 : v9 = .pointer (some ⟨gn, 1, none⟩)) => hK0 v9 A9 W h1 (hR.pure (by decide) h3)); clear hK0
              clear hd
              simp only [putF]
              rw [hA, e11, e1]
              go_frame
              go_wp2_with fail
              exact hK.out _ _ (by rw [hA]; simp only [putF]; rw [e11, e1]; kernel_rfl) rfl
            · intro K L us W hK0 hL hd hR
              have e12 : us 12 = .pointer (some ⟨gn, 1, none⟩) := hR.vals 12 (by decide) (all_on hd ⟨12, Ground.data⟩ (by simp) rfl)
              have hS := hR.at 2 (by decide) (.inr ⟨by decide, all_on hd ⟨9, Ground.data⟩ (by simp) rfl⟩) hL
              have hK := hid (fun v9 A9 W9 h1 (hS' : (fun kk vv WW => (match kk with | 0 => WW.heap[gn]? = some (.cells #[.slice p0 0 q0, .slice none 0 0, .int .i64 (s0 : Int), .int .i64 (s1 : Int), .bool dn, .int .i64 lf] 74) | 1 => WW.heap[gn]? = some (.cells #[.slice p0 0 q0, .slice none 0 0, .int .i64 (s0 : Int), .int .i64 (s1 : Int), .bool dn, .int .i64 lf] 74) ∧ (∃ q, vv 0 = .slice (some ⟨q, 0, none⟩) 0 0) ∧ WW.ownsRow X0.heap.size 5 1 (vv 0) 0 [] | 2 => WW.heap[gn]? = some (.cells #[.slice p0 0 q0, .slice none 0 0, .int .i64 (s0 : Int), .int .i64 (s1 : Int), .bool dn, .int .i64 lf] 74) ∧ WW.ownsRow X0.heap.size 5 1 (vv 1) n1 (u8s b1) | _ => WW.heap[gn]? = some (.cells #[.slice p0 0 q0, vv 1, .int .i64 (s0 : Int), .int .i64 (s1 : Int), .bool dn, .int .i64 lf] 74) ∧ WW.ownsRow X0.heap.size 5 1 (vv 1) n1 (u8s b1)) ∧ DR WW B g dn lf ⟨.slice none 0 0, ([] : List Nat), s0⟩ ⟨.slice (some ad1) n1 d1, b1, s1⟩ ∧ Below w.heap.size w WW ∧ X0.heap.size ≤ WW.heap.size ∧ WW.ownsRow w.heap.size 5 1 (.slice p0 0 q0) 0 (u8s ([] : List Nat))) 3 (fun j => if j = 2 then v9 else selV [2, 9, 13] us j) W9) => hK0 v9 A9 W9 h1 (hR.next (by decide) 2 (by decide) (.inr ⟨by decide, all_on hd ⟨9, Ground.data⟩ (by simp) rfl⟩) hL hS')); clear hK0
              obtain ⟨⟨hK4, hW4⟩, hD4, hB4, hz4, hO4⟩ := hS
              have K4 := hid hK4
              obtain ⟨v9, e9⟩ : ∃ v9, us 9 = v9 := ⟨_, rfl⟩
              have hW5 : W.ownsRow X0.heap.size 5 1 (us 9) n1 (u8s b1) := hW4
              rw [e9] at hW5
              have O4 := hid hW5
              obtain ⟨a9, c9, e99⟩ := own_slice hW5
              subst e99
              have D4 := hid hD4
              have B4 := hid hB4
              have P4 := hid hO4
              clear hD4 hB4 hO4 hK4 hW4 hW5
              have z1 : W.frozen? ⟨gn, 1, none⟩ = false := by have hh := K4.out; simp [World.frozen?, hh]
              have z0 : W.cell? ⟨gn, 1, none⟩ = some (.slice none 0 0) := (cell_row (j := 1) K4.out).trans rfl
              clear hd
              simp only [putF]
              rw [hA, e12, e9]
              go_frame
              go_wp2_with fail
              refine hK.out undef _ _ (by rw [hA]; simp only [putF]; rw [e12, e9]; kernel_rfl) ?_
              have hoth : ∀ k, k ≠ gn → (W.setCell ⟨gn, 1, none⟩ (.slice a9 n1 c9)).heap[k]? = W.heap[k]? := fun k hk => Below.heap_setCell W ⟨gn, 1, none⟩ _ k hk
              refine ⟨⟨?_, ?_⟩, D4.out.frame (F := fun k => k = gn) (Fr.set rfl) (fun k hk e => by have h1 := HFG.out k hk; omega), B4.out.setCell (p := ⟨gn, 1, none⟩) hge _, by simp; omega, own_same P4.out (fun k hk => hoth k (fun e => HPG.out k hk e))⟩
              · show _ = some (Obj.cells #[.slice p0 0 q0, (us 9), .int .i64 (s0 : Int), .int .i64 (s1 : Int), .bool dn, .int .i64 lf] 74)
                rw [e9]
                exact heap_setCell K4.out _
              · show World.ownsRow _ X0.heap.size 5 1 (us 9) n1 (u8s b1)
                rw [e9]
                exact own_same O4.out (fun k hk => hoth k (fun e => by have h1 := (O4.out.lt k hk).1; have h2 := hgk.out; omega))
          case htF101 =>
            intro L us X1 hall hR
            have hS := hR.last (fun i hi => match i, hi with | 0, _ => hall 2 (by decide) | 1, _ => hall 9 (by decide) | 2, _ => hall 13 (by decide))
            have e0 : us 0 = .pointer (some ⟨gn, 0, none⟩) := hR.vals 0 (by decide) (hall 0 (by decide))
            have e1 : us 1 = .int .i64 1 := hR.vals 1 (by decide) (hall 1 (by decide))
            have e3 : us 3 = .pointer (some ⟨g, 0, none⟩) := hR.vals 3 (by decide) (hall 3 (by decide))
            have e4 : us 4 = .int .i64 1 := hR.vals 4 (by decide) (hall 4 (by decide))
            have e5 : us 5 = .pointer (some ⟨g, 0, none⟩) := hR.vals 5 (by decide) (hall 5 (by decide))
            have e6 : us 6 = .pointer (some ⟨g, 0, none⟩) := hR.vals 6 (by decide) (hall 6 (by decide))
            have e7 : us 7 = .pointer (some ⟨g, 1, none⟩) := hR.vals 7 (by decide) (hall 7 (by decide))
            have e8 : us 8 = .slice (some ad1) n1 d1 := hR.vals 8 (by decide) (hall 8 (by decide))
            have e10 : us 10 = .pointer (some ⟨gn, 0, none⟩) := hR.vals 10 (by decide) (hall 10 (by decide))
            have e11 : us 11 = .pointer (some ⟨gn, 0, none⟩) := hR.vals 11 (by decide) (hall 11 (by decide))
            have e12 : us 12 = .pointer (some ⟨gn, 1, none⟩) := hR.vals 12 (by decide) (hall 12 (by decide))
            clear hR hall
            obtain ⟨⟨hK4, hW4⟩, hD4, hB4, hz4, hO4⟩ := hS
            obtain ⟨v2, e2⟩ : ∃ v2, us 2 = v2 := ⟨_, rfl⟩
            obtain ⟨v9, e9⟩ : ∃ v9, us 9 = v9 := ⟨_, rfl⟩
            have hK5 : X1.heap[gn]? = some (.cells #[.slice p0 0 q0, (us 9), .int .i64 (s0 : Int), .int .i64 (s1 : Int), .bool dn, .int .i64 lf] 74) := hK4
            have hW5 : X1.ownsRow X0.heap.size 5 1 (us 9) n1 (u8s b1) := hW4
            rw [e9] at hK5 hW5
            obtain ⟨p1, q1, e99⟩ := own_slice hW5
            subst e99
            have KN := hid hK5
            have HD := hid hD4
            have HB3 := hid hB4
            have hgk := hid (show gn < X1.heap.size from (Array.getElem?_eq_some_iff.1 hK5).1)
            have HO1 := hid hW5
            clear hK4 hK5 hD4 hB4 hW4 hW5
            have HO0 := hid hO4
            clear hO4
            simp only [putF]
            rw [hA, e2, e9, e0, e1, e3, e4, e5, e6, e7, e8, e10, e11, e12]
            go_frame
            clear hA e2 e9 e0 e1 e3 e4 e5 e6 e7 e8 e10 e11 e12
            go_wp2_with fail
            (try rw [rounds_succ])
            go_wp2_with fail
            go_ret
            refine ⟨⟨gn, .slice p0 0 q0, .slice p1 n1 q1, rfl, KN.out, hge, HO0.out, show X1.ownsRow w.heap.size 5 1 (.slice p1 n1 q1) (b1 : List Nat).length (u8s b1) from (by rw [← HN1.out]; exact own_low HO1.out HW1.out), fun e => HPG.out gn e rfl, fun e => by have h1 := (HO1.out.lt gn e).1; have h2 := HGK.out; omega, fun k hk e => ?_⟩, HB3.out⟩
            have h1 := (HO1.out.lt k e).1
            have h2 := HP0.out k hk
            omega
  · obtain rfl : v0 = .slice (some ad0) b0.length d0 := e1
    clear hc0
    simp only [← hn0e] at HD HLT
    clear hn0e
    rcases HR1.out with ⟨e1, e2⟩ | ⟨ad1, d1, e1, hc1⟩
    · obtain rfl : v1 = .slice none 0 0 := e1
      obtain rfl : b1 = [] := e2
      clear hn1e HR0 HR1
      go_enter Try.func37, Try.ntmps37
      go_wp2_with fail
      refine gen_act (fun A0 hA => ?_)
      refine wp_region_tail (by kernel_rfl) (by kernel_rfl) [some 5, some 6, some 7, some 8, some 9, some 10, some 11, some 12, some 13, some 14, some 15, some 16, some 17, some 18, some 3] rfl (by decide) 13 (by decide) (by kernel_rfl) (by kernel_rfl)
        [IsV (.pointer (some ⟨g, 0, none⟩)), IsV (.pointer (some ⟨g, 0, none⟩)), IsV (.pointer (some ⟨g, 2, none⟩)), IsV (.agg #[.int .i64 (s0 : Int), .int .i64 (s1 : Int)]), IsV (.pointer (some ⟨g, 0, none⟩)), IsV (.pointer (some ⟨g, 0, none⟩)), IsV (.pointer (some ⟨g, 4, none⟩)), IsV (.bool dn), IsV (.pointer (some ⟨g, 0, none⟩)), IsV (.pointer (some ⟨g, 0, none⟩)), IsV (.pointer (some ⟨g, 5, none⟩)), IsV (.int .i64 lf), IsV (.agg #[.slice none 0 0, .slice none 0 0, .int .i64 (s0 : Int), .int .i64 (s1 : Int), .bool dn, .int .i64 lf])]
        ⟨IsV.stb _, IsV.stb _, IsV.stb _, IsV.stb _, IsV.stb _, IsV.stb _, IsV.stb _, IsV.stb _, IsV.stb _, IsV.stb _, IsV.stb _, IsV.stb _, IsV.stb _, trivial⟩ ?hsM10 ?htM10
      case hsM10 =>
        refine ⟨?_, ?_, ?_, ?_, ?_, ?_, ?_, ?_, ?_, ?_, ?_, ?_, ?_, trivial⟩
        · intro K us W hK0 hB hd
          have hK := hid hK0; clear hK0
          have HBW := hid hB
          clear hd
          simp only [putF]
          rw [hA]
          go_frame
          go_wp2_with fail
          exact hK.out _ _ _ (by rw [hA]; simp only [putF]; kernel_rfl) (Below.refl _ _) rfl
        · intro K us W hK0 hB hd
          have hK := hid hK0; clear hK0
          have HBW := hid hB
          have e0 : us 0 = .pointer (some ⟨g, 0, none⟩) := hd ⟨0, Ground.data⟩ (by simp) rfl
          clear hd
          simp only [putF]
          rw [hA, e0]
          go_frame
          go_wp2_with fail
          exact hK.out _ _ _ (by rw [hA]; simp only [putF]; rw [e0]; kernel_rfl) (Below.refl _ _) rfl
        · intro K us W hK0 hB hd
          have hK := hid hK0; clear hK0
          have HBW := hid hB
          have e1 : us 1 = .pointer (some ⟨g, 0, none⟩) := hd ⟨1, Ground.data⟩ (by simp) rfl
          clear hd
          simp only [putF]
          rw [hA, e1]
          go_frame
          go_wp2_with fail
          exact hK.out _ _ _ (by rw [hA]; simp only [putF]; rw [e1]; kernel_rfl) (Below.refl _ _) rfl
        · intro K us W hK0 hB hd
          have hK := hid hK0; clear hK0
          have HBW := hid hB
          have e2 : us 2 = .pointer (some ⟨g, 2, none⟩) := hd ⟨2, Ground.data⟩ (by simp) rfl
          clear hd
          have z2 : W.cell? ⟨g, 2, none⟩ = some (.int .i64 (s0 : Int)) := (HD.out.still hB).c2
          have z3 : W.cell? ⟨g, 3, none⟩ = some (.int .i64 (s1 : Int)) := (HD.out.still hB).c3
          simp only [putF]
          rw [hA, e2]
          go_frame
          go_wp2_with fail
          exact hK.out _ _ _ (by rw [hA]; simp only [putF]; rw [e2]; kernel_rfl) (Below.refl _ _) rfl
        · intro K us W hK0 hB hd
          have hK := hid hK0; clear hK0
          have HBW := hid hB
          clear hd
          simp only [putF]
          rw [hA]
          go_frame
          go_wp2_with fail
          exact hK.out _ _ _ (by rw [hA]; simp only [putF]; kernel_rfl) (Below.refl _ _) rfl
        · intro K us W hK0 hB hd
          have hK := hid hK0; clear hK0
          have HBW := hid hB
          have e4 : us 4 = .pointer (some ⟨g, 0, none⟩) := hd ⟨4, Ground.data⟩ (by simp) rfl
          clear hd
          simp only [putF]
          rw [hA, e4]
          go_frame
          go_wp2_with fail
          exact hK.out _ _ _ (by rw [hA]; simp only [putF]; rw [e4]; kernel_rfl) (Below.refl _ _) rfl
        · intro K us W hK0 hB hd
          have hK := hid hK0; clear hK0
          have HBW := hid hB
          have e5 : us 5 = .pointer (some ⟨g, 0, none⟩) := hd ⟨5, Ground.data⟩ (by simp) rfl
          clear hd
          simp only [putF]
          rw [hA, e5]
          go_frame
          go_wp2_with fail
          exact hK.out _ _ _ (by rw [hA]; simp only [putF]; rw [e5]; kernel_rfl) (Below.refl _ _) rfl
        · intro K us W hK0 hB hd
          have hK := hid hK0; clear hK0
          have HBW := hid hB
          have e6 : us 6 = .pointer (some ⟨g, 4, none⟩) := hd ⟨6, Ground.data⟩ (by simp) rfl
          clear hd
          have z4 : W.cell? ⟨g, 4, none⟩ = some (.bool dn) := (HD.out.still hB).c4
          simp only [putF]
          rw [hA, e6]
          go_frame
          go_wp2_with fail
          exact hK.out _ _ _ (by rw [hA]; simp only [putF]; rw [e6]; kernel_rfl) (Below.refl _ _) rfl
        · intro K us W hK0 hB hd
          have hK := hid hK0; clear hK0
          have HBW := hid hB
          clear hd
          simp only [putF]
          rw [hA]
          go_frame
          go_wp2_with fail
          exact hK.out _ _ _ (by rw [hA]; simp only [putF]; kernel_rfl) (Below.refl _ _) rfl
        · intro K us W hK0 hB hd
          have hK := hid hK0; clear hK0
          have HBW := hid hB
          have e8 : us 8 = .pointer (some ⟨g, 0, none⟩) := hd ⟨8, Ground.data⟩ (by simp) rfl
          clear hd
          simp only [putF]
          rw [hA, e8]
          go_frame
          go_wp2_with fail
          exact hK.out _ _ _ (by rw [hA]; simp only [putF]; rw [e8]; kernel_rfl) (Below.refl _ _) rfl
        · intro K us W hK0 hB hd
          have hK := hid hK0; clear hK0
          have HBW := hid hB
          have e9 : us 9 = .pointer (some ⟨g, 0, none⟩) := hd ⟨9, Ground.data⟩ (by simp) rfl
          clear hd
          simp only [putF]
          rw [hA, e9]
          go_frame
          go_wp2_with fail
          exact hK.out _ _ _ (by rw [hA]; simp only [putF]; rw [e9]; kernel_rfl) (Below.refl _ _) rfl
        · intro K us W hK0 hB hd
          have hK := hid hK0; clear hK0
          have HBW := hid hB
          have e10 : us 10 = .pointer (some ⟨g, 5, none⟩) := hd ⟨10, Ground.data⟩ (by simp) rfl
          clear hd
          have z5 : W.cell? ⟨g, 5, none⟩ = some (.int .i64 lf) := (HD.out.still hB).c5
          simp only [putF]
          rw [hA, e10]
          go_frame
          go_wp2_with fail
          exact hK.out _ _ _ (by rw [hA]; simp only [putF]; rw [e10]; kernel_rfl) (Below.refl _ _) rfl
        · intro K us W hK0 hB hd
          have hK := hid hK0; clear hK0
          have HBW := hid hB
          have e3 : us 3 = .agg #[.int .i64 (s0 : Int), .int .i64 (s1 : Int)] := hd ⟨3, Ground.data⟩ (by simp) rfl
          have e7 : us 7 = .bool dn := hd ⟨7, Ground.data⟩ (by simp) rfl
          have e11 : us 11 = .int .i64 lf := hd ⟨11, Ground.data⟩ (by simp) rfl
          clear hd
          simp only [putF]
          rw [hA, e3, e7, e11]
          go_frame
          go_wp2_with fail
          exact hK.out _ _ _ (by rw [hA]; simp only [putF]; rw [e3, e7, e11]; kernel_rfl) (Below.refl _ _) rfl
      case htM10 =>
        intro us WW hBB hp
        have e0 : us 0 = .pointer (some ⟨g, 0, none⟩) := hp 0 (by decide)
        have e1 : us 1 = .pointer (some ⟨g, 0, none⟩) := hp 1 (by decide)
        have e2 : us 2 = .pointer (some ⟨g, 2, none⟩) := hp 2 (by decide)
        have e3 : us 3 = .agg #[.int .i64 (s0 : Int), .int .i64 (s1 : Int)] := hp 3 (by decide)
        have e4 : us 4 = .pointer (some ⟨g, 0, none⟩) := hp 4 (by decide)
        have e5 : us 5 = .pointer (some ⟨g, 0, none⟩) := hp 5 (by decide)
        have e6 : us 6 = .pointer (some ⟨g, 4, none⟩) := hp 6 (by decide)
        have e7 : us 7 = .bool dn := hp 7 (by decide)
        have e8 : us 8 = .pointer (some ⟨g, 0, none⟩) := hp 8 (by decide)
        have e9 : us 9 = .pointer (some ⟨g, 0, none⟩) := hp 9 (by decide)
        have e10 : us 10 = .pointer (some ⟨g, 5, none⟩) := hp 10 (by decide)
        have e11 : us 11 = .int .i64 lf := hp 11 (by decide)
        have e12 : us 12 = .agg #[.slice none 0 0, .slice none 0 0, .int .i64 (s0 : Int), .int .i64 (s1 : Int), .bool dn, .int .i64 lf] := hp 12 (by decide)
        clear hp
        have HD := hid (HD.out.still hBB)
        have HB0 := hid (HB0.out.trans (hBB.mono HB0.out.size))
        have hzz := HB0.out.size
        clear hBB
        refine seqs_step rfl ?_
        intro K hK0
        have hK := hid hK0; clear hK0
        simp only [putF]
        rw [hA, e0, e1, e2, e3, e4, e5, e6, e7, e8, e9, e10, e11, e12]
        go_frame
        go_wp2_with fail
        refine hK.out (.pointer (some ⟨WW.heap.size, 0, none⟩)) _ _ (by rw [hA]; simp only [putF]; rw [e0, e1, e2, e3, e4, e5, e6, e7, e8, e9, e10, e11, e12]; kernel_rfl) ?_
        clear hK hA e0 e1 e2 e3 e4 e5 e6 e7 e8 e9 e10 e11 e12
        refine seqs_step rfl ?_
        intro K hK0
        have hK := hid hK0; clear hK0
        go_wp2_with fail
        refine hK.out (.pointer (some ⟨WW.heap.size, 0, none⟩)) _ _ (by kernel_rfl) ?_
        clear hK
        refine seqs_end rfl ?_
        go_wp2_with fail
        refine gen_world (fun W3 hW3 => ?_)
        have KN := hid (show W3.heap[WW.heap.size]? = some (.cells #[.slice none 0 0, .slice none 0 0, .int .i64 (s0 : Int), .int .i64 (s1 : Int), .bool dn, .int .i64 lf] 74) by rw [hW3]; exact heap_alloc_at _ _ _ rfl)
        have HD := hid (show DR W3 B g dn lf ⟨.slice (some ad0) n0 d0, b0, s0⟩ ⟨.slice none 0 0, ([] : List Nat), s1⟩ by rw [hW3]; exact HD.out.still ((Below.refl _ _).alloc (Nat.le_refl _) _))
        have HB3 := hid (show Below w.heap.size w W3 by rw [hW3]; exact HB0.out.alloc hzz _)
        clear hW3 HB0
        obtain ⟨gn, hgn2⟩ : ∃ gn, gn = WW.heap.size := ⟨_, rfl⟩
        rw [← hgn2] at KN ⊢
        have hge : w.heap.size ≤ gn := by omega
        have hgk := hid (show gn < W3.heap.size from (Array.getElem?_eq_some_iff.1 KN.out).1)
        clear hgn2 hzz
        refine wp_loop_rounds 3 ?_
        rw [rounds_succ]
        have HFT := hid (fun k (hk : foot g ⟨.slice (some ad0) n0 d0, b0, s0⟩ ⟨.slice none 0 0, ([] : List Nat), s1⟩ k) => show k < W3.heap.size by have h1 := HLT.out k hk; have h2 := HB3.out.size; omega)
        have HFG := hid (fun k (hk : foot g ⟨.slice (some ad0) n0 d0, b0, s0⟩ ⟨.slice none 0 0, ([] : List Nat), s1⟩ k) => show k ≠ gn from fun e => by have h1 := HLT.out k hk; omega)
        have HGK := hid hgk.out
        have HW0 := hid (show w.heap.size ≤ W3.heap.size from HB3.out.size)
        go_wp2_with fail
        refine gen_act (fun A0 hA => ?_)
        refine wp_region_by (by kernel_rfl) (by kernel_rfl) [some 22, some 23, some 24, some 25, some 26, some 27, some 28, some 29, some 30, some 31, some 32, some 33, some 34, none] rfl (by decide) (StR (fun j => ([.pointer (some ⟨gn, 0, none⟩), .int .i64 0, undef, .pointer (some ⟨g, 0, none⟩), .int .i64 0, .pointer (some ⟨g, 0, none⟩), .pointer (some ⟨g, 0, none⟩), .pointer (some ⟨g, 0, none⟩), .slice (some ad0) n0 d0, undef, .pointer (some ⟨gn, 0, none⟩), .pointer (some ⟨gn, 0, none⟩), .pointer (some ⟨gn, 0, none⟩), undef] : List Value).getD j undef) [2, 9, 13] (fun kk vv WW => (match kk with | 0 => WW.heap[gn]? = some (.cells #[.slice none 0 0, .slice none 0 0, .int .i64 (s0 : Int), .int .i64 (s1 : Int), .bool dn, .int .i64 lf] 74) | 1 => WW.heap[gn]? = some (.cells #[.slice none 0 0, .slice none 0 0, .int .i64 (s0 : Int), .int .i64 (s1 : Int), .bool dn, .int .i64 lf] 74) ∧ (∃ q, vv 0 = .slice (some ⟨q, 0, none⟩) 0 0) ∧ WW.ownsRow W3.heap.size 5 1 (vv 0) 0 [] | 2 => WW.heap[gn]? = some (.cells #[.slice none 0 0, .slice none 0 0, .int .i64 (s0 : Int), .int .i64 (s1 : Int), .bool dn, .int .i64 lf] 74) ∧ WW.ownsRow W3.heap.size 5 1 (vv 1) n0 (u8s b0) | _ => WW.heap[gn]? = some (.cells #[vv 1, .slice none 0 0, .int .i64 (s0 : Int), .int .i64 (s1 : Int), .bool dn, .int .i64 lf] 74) ∧ WW.ownsRow W3.heap.size 5 1 (vv 1) n0 (u8s b0)) ∧ DR WW B g dn lf ⟨.slice (some ad0) n0 d0, b0, s0⟩ ⟨.slice none 0 0, ([] : List Nat), s1⟩ ∧ Below w.heap.size w WW ∧ W3.heap.size ≤ WW.heap.size)) (selfF A0 _) (putF_self A0 _)
          (StR.start ⟨(((Below.refl _ _).drew).block _ hgk.out).trans KN.out, HD.out.still (Below.refl _ _).drew, HB3.out.drew, ((Below.refl W3.heap.size W3).drew).size⟩ (fun _ => rfl)) ?hsF010 ?htF010
        case hsF010 =>
          refine ⟨?_, ?_, ?_, ?_, ?_, ?_, ?_, ?_, ?_, ?_, ?_, ?_, ?_, ?_, trivial⟩
          · intro K L us W hK0 hL hd hR
            have hK := hid (fun v9 A9 h1 (h3 : v9 = .pointer (some ⟨gn, 0, none⟩)) => hK0 v9 A9 W h1 (hR.pure (by decide) h3)); clear hK0
            clear hd
            simp only [putF]
            rw [hA]
            go_frame
            go_wp2_with fail
            exact hK.out _ _ (by rw [hA]; simp only [putF]; kernel_rfl) rfl
          · intro K L us W hK0 hL hd hR
            have hK := hid (fun v9 A9 h1 (h3 : v9 = .int .i64 0) => hK0 v9 A9 W h1 (hR.pure (by decide) h3)); clear hK0
            clear hd
            simp only [putF]
            rw [hA]
            go_frame
            go_wp2_with fail
            exact hK.out _ _ (by rw [hA]; simp only [putF]; kernel_rfl) rfl
          · intro K L us W hK0 hL hd hR
            have hS := hR.at 0 (by decide) (.inl rfl) hL
            have hK := hid (fun v9 A9 W9 h1 (hS' : (fun kk vv WW => (match kk with | 0 => WW.heap[gn]? = some (.cells #[.slice none 0 0, .slice none 0 0, .int .i64 (s0 : Int), .int .i64 (s1 : Int), .bool dn, .int .i64 lf] 74) | 1 => WW.heap[gn]? = some (.cells #[.slice none 0 0, .slice none 0 0, .int .i64 (s0 : Int), .int .i64 (s1 : Int), .bool dn, .int .i64 lf] 74) ∧ (∃ q, vv 0 = .slice (some ⟨q, 0, none⟩) 0 0) ∧ WW.ownsRow W3.heap.size 5 1 (vv 0) 0 [] | 2 => WW.heap[gn]? = some (.cells #[.slice none 0 0, .slice none 0 0, .int .i64 (s0 : Int), .int .i64 (s1 : Int), .bool dn, .int .i64 lf] 74) ∧ WW.ownsRow W3.heap.size 5 1 (vv 1) n0 (u8s b0) | _ => WW.heap[gn]? = some (.cells #[vv 1, .slice none 0 0, .int .i64 (s0 : Int), .int .i64 (s1 : Int), .bool dn, .int .i64 lf] 74) ∧ WW.ownsRow W3.heap.size 5 1 (vv 1) n0 (u8s b0)) ∧ DR WW B g dn lf ⟨.slice (some ad0) n0 d0, b0, s0⟩ ⟨.slice none 0 0, ([] : List Nat), s1⟩ ∧ Below w.heap.size w WW ∧ W3.heap.size ≤ WW.heap.size) 1 (fun j => if j = 0 then v9 else selV [2, 9, 13] us j) W9) => hK0 v9 A9 W9 h1 (hR.next (by decide) 0 (by decide) (.inl rfl) hL hS')); clear hK0
            obtain ⟨hK4, hD4, hB4, hz4⟩ := hS
            have K4 := hid hK4
            have D4 := hid hD4
            have B4 := hid hB4
            clear hD4 hB4 hK4
            clear hd
            simp only [putF]
            rw [hA]
            go_frame
            go_wp2_with fail
            refine hK.out (.slice (some ⟨W.heap.size, 0, none⟩) 0 0) _ _ (by rw [hA]; simp only [putF]; kernel_rfl) ?_
            exact ⟨⟨heap_still ((Below.refl W.heap.size W).alloc (Nat.le_refl _) (.cells #[] 5)) K4.out, ⟨_, rfl⟩, World.ownsRow_lit (base := W3.heap.size) W #[] 0 hz4 (by unfold maxLen; omega) rfl⟩, D4.out.still ((Below.refl W.heap.size W).alloc (Nat.le_refl _) (.cells #[] 5)), B4.out.trans (((Below.refl W.heap.size W).alloc (Nat.le_refl _) (.cells #[] 5)).mono B4.out.size), by simp; omega⟩
          · intro K L us W hK0 hL hd hR
            have hK := hid (fun v9 A9 h1 (h3 : v9 = .pointer (some ⟨g, 0, none⟩)) => hK0 v9 A9 W h1 (hR.pure (by decide) h3)); clear hK0
            clear hd
            simp only [putF]
            rw [hA]
            go_frame
            go_wp2_with fail
            exact hK.out _ _ (by rw [hA]; simp only [putF]; kernel_rfl) rfl
          · intro K L us W hK0 hL hd hR
            have hK := hid (fun v9 A9 h1 (h3 : v9 = .int .i64 0) => hK0 v9 A9 W h1 (hR.pure (by decide) h3)); clear hK0
            clear hd
            simp only [putF]
            rw [hA]
            go_frame
            go_wp2_with fail
            exact hK.out _ _ (by rw [hA]; simp only [putF]; kernel_rfl) rfl
          · intro K L us W hK0 hL hd hR
            have e3 : us 3 = .pointer (some ⟨g, 0, none⟩) := hR.vals 3 (by decide) (all_on hd ⟨3, Ground.data⟩ (by simp) rfl)
            have hK := hid (fun v9 A9 h1 (h3 : v9 = .pointer (some ⟨g, 0, none⟩)) => hK0 v9 A9 W h1 (hR.pure (by decide) h3)); clear hK0
            clear hd
            simp only [putF]
            rw [hA, e3]
            go_frame
            go_wp2_with fail
            exact hK.out _ _ (by rw [hA]; simp only [putF]; rw [e3]; kernel_rfl) rfl
          · intro K L us W hK0 hL hd hR
            have e5 : us 5 = .pointer (some ⟨g, 0, none⟩) := hR.vals 5 (by decide) (all_on hd ⟨5, Ground.data⟩ (by simp) rfl)
            have hK := hid (fun v9 A9 h1 (h3 : v9 = .pointer (some ⟨g, 0, none⟩)) => hK0 v9 A9 W h1 (hR.pure (by decide) h3)); clear hK0
            clear hd
            simp only [putF]
            rw [hA, e5]
            go_frame
            go_wp2_with fail
            exact hK.out _ _ (by rw [hA]; simp only [putF]; rw [e5]; kernel_rfl) rfl
          · intro K L us W hK0 hL hd hR
            have e6 : us 6 = .pointer (some ⟨g, 0, none⟩) := hR.vals 6 (by decide) (all_on hd ⟨6, Ground.data⟩ (by simp) rfl)
            have e4 : us 4 = .int .i64 0 := hR.vals 4 (by decide) (all_on hd ⟨4, Ground.data⟩ (by simp) rfl)
            have hK := hid (fun v9 A9 h1 (h3 : v9 = .pointer (some ⟨g, 0, none⟩)) => hK0 v9 A9 W h1 (hR.pure (by decide) h3)); clear hK0
            clear hd
            simp only [putF]
            rw [hA, e6, e4]
            go_frame
            go_wp2_with fail
            exact hK.out _ _ (by rw [hA]; simp only [putF]; rw [e6, e4]; kernel_rfl) rfl
          · intro K L us W hK0 hL hd hR
            have e7 : us 7 = .pointer (some ⟨g, 0, none⟩) := hR.vals 7 (by decide) (all_on hd ⟨7, Ground.data⟩ (by simp) rfl)
            have hK := hid (fun v9 A9 h1 (h3 : v9 = .slice (some ad0) n0 d0) => hK0 v9 A9 W h1 (hR.pure (by decide) h3)); clear hK0
            have hst := hR.st
            obtain ⟨kq, _, _, hSq⟩ := hst
            have hD4 : DR W B g dn lf ⟨.slice (some ad0) n0 d0, b0, s0⟩ ⟨.slice none 0 0, ([] : List Nat), s1⟩ := hSq.2.1
            have z0 : W.cell? ⟨g, 0, none⟩ = some (.slice (some ad0) n0 d0) := hD4.c0
            clear hSq hD4
            clear hd
            simp only [putF]
            rw [hA, e7]
            go_frame
            go_wp2_with fail
            exact hK.out _ _ (by rw [hA]; simp only [putF]; rw [e7]; kernel_rfl) rfl
          · intro K L us W hK0 hL hd hR
            have e8 : us 8 = .slice (some ad0) n0 d0 := hR.vals 8 (by decide) (all_on hd ⟨8, Ground.data⟩ (by simp) rfl)
            have hS := hR.at 1 (by decide) (.inr ⟨by decide, all_on hd ⟨2, Ground.data⟩ (by simp) rfl⟩) hL
            have hK := hid (fun v9 A9 W9 h1 (hS' : (fun kk vv WW => (match kk with | 0 => WW.heap[gn]? = some (.cells #[.slice none 0 0, .slice none 0 0, .int .i64 (s0 : Int), .int .i64 (s1 : Int), .bool dn, .int .i64 lf] 74) | 1 => WW.heap[gn]? = some (.cells #[.slice none 0 0, .slice none 0 0, .int .i64 (s0 : Int), .int .i64 (s1 : Int), .bool dn, .int .i64 lf] 74) ∧ (∃ q, vv 0 = .slice (some ⟨q, 0, none⟩) 0 0) ∧ WW.ownsRow W3.heap.size 5 1 (vv 0) 0 [] | 2 => WW.heap[gn]? = some (.cells #[.slice none 0 0, .slice none 0 0, .int .i64 (s0 : Int), .int .i64 (s1 : Int), .bool dn, .int .i64 lf] 74) ∧ WW.ownsRow W3.heap.size 5 1 (vv 1) n0 (u8s b0) | _ => WW.heap[gn]? = some (.cells #[vv 1, .slice none 0 0, .int .i64 (s0 : Int), .int .i64 (s1 : Int), .bool dn, .int .i64 lf] 74) ∧ WW.ownsRow W3.heap.size 5 1 (vv 1) n0 (u8s b0)) ∧ DR WW B g dn lf ⟨.slice (some ad0) n0 d0, b0, s0⟩ ⟨.slice none 0 0, ([] : List Nat), s1⟩ ∧ Below w.heap.size w WW ∧ W3.heap.size ≤ WW.heap.size) 2 (fun j => if j = 1 then v9 else selV [2, 9, 13] us j) W9) => hK0 v9 A9 W9 h1 (hR.next (by decide) 1 (by decide) (.inr ⟨by decide, all_on hd ⟨2, Ground.data⟩ (by simp) rfl⟩) hL hS')); clear hK0
            obtain ⟨⟨hK4, ⟨q, hq⟩, hW4⟩, hD4, hB4, hz4⟩ := hS
            have K4 := hid hK4
            have e2 : us 2 = .slice (some ⟨q, 0, none⟩) 0 0 := hq
            have hW5 : W.ownsRow W3.heap.size 5 1 (us 2) 0 [] := hW4
            rw [e2] at hW5
            have O4 := hid hW5
            have D4 := hid hD4
            have B4 := hid hB4
            clear hD4 hB4 hK4 hW4 hW5 hq
            have HC4 := hid (show ∀ j u, (u8s b0)[j]? = some u → W.cell? (ad0.add j) = some u from by rcases own_rdb (show W.ownsRow B 5 1 (.slice (some ad0) n0 d0) b0.length (u8s b0) from D4.out.o0) with ⟨e, _⟩ | ⟨ad9, c9, e, h9⟩; (· injection e with e; exact absurd e (by simp)); (· injection e with e; injection e with e; subst e; exact h9))
            clear hd
            simp only [putF]
            rw [hA, e8, e2]
            go_frame
            go_wp2_with (first | (at_builtin; go_loud (refine wpList_append_own_at _ rfl (.tmp 24) (.tmp 30) 70 rfl W3.heap.size 5 i0 (.int .u8 0) 1 1 Try.underlying70 HI.out HZ0.out HZ1.out HZ2.out rfl (by decide) _ 0 [] rfl O4.out ad0 n0 d0 (u8s b0) rfl (by simp [u8s, HN0.out]) (fun j u hu => HC4.out j u hu) (u8s_one _) (by unfold maxLen; omega) (by omega) (by omega) ?_; intro v7 w7 ho1 ho2 ho3 ho4; clear ho3; simp only [Nat.zero_add, List.nil_append] at ho1; have HO1 := hid ho1; have HO2 := hid ho2; clear ho1 ho2 ho4)))
            refine hK.out v7 _ _ (by rw [hA]; simp only [putF]; rw [e8, e2]; kernel_rfl) ?_
            have hlt4 : ∀ k, some k = some q → W3.heap.size ≤ k := fun k hk => (O4.out.lt k hk.symm).1
            have hbk : ∀ k, k < W3.heap.size → w7.heap[k]? = W.heap[k]? := fun k hk => HO2.out.block k (by omega) (fun e => by have h1 := hlt4 k e; omega)
            have hfr : Fr (fun k => k = q) W w7 := Fr.grown HO2.out (fun k hk => by injection hk with hk; exact hk.symm)
            have hqz := hlt4 q rfl
            refine ⟨⟨(hbk gn hgk.out).trans K4.out, HO1.out⟩, D4.out.frame hfr (fun k hk e => by have h1 := HFT.out k hk; omega), ⟨HO2.out.os.trans B4.out.os, HO2.out.tape.trans B4.out.tape, HO2.out.output.trans B4.out.output, Nat.le_trans B4.out.size HO2.out.size, fun k hk => (hbk k (by have := HW0.out; omega)).trans (B4.out.block k hk)⟩, by have := HO2.out.size; omega⟩
          · intro K L us W hK0 hL hd hR
            have e0 : us 0 = .pointer (some ⟨gn, 0, none⟩) := hR.vals 0 (by decide) (all_on hd ⟨0, Ground.data⟩ (by simp) rfl)
            have hK := hid (fun v9 A9 h1 (h3 : v9 = .pointer (some ⟨gn, 0, none⟩)) => hK0 v9 A9 W h1 (hR.pure (by decide) h3)); clear hK0
            clear hd
            simp only [putF]
            rw [hA, e0]
            go_frame
            go_wp2_with fail
            exact hK.out _ _ (by rw [hA]; simp only [putF]; rw [e0]; kernel_rfl) rfl
          · intro K L us W hK0 hL hd hR
            have e10 : us 10 = .pointer (some ⟨gn, 0, none⟩) := hR.vals 10 (by decide) (all_on hd ⟨10, Ground.data⟩ (by simp) rfl)
            have hK := hid (fun v9 A9 h1 (h3 : v9 = .pointer (some ⟨gn, 0, none⟩)) => hK0 v9 A9 W h1 (hR.pure (by decide) h3)); clear hK0
            clear hd
            simp only [putF]
            rw [hA, e10]
            go_frame
            go_wp2_with fail
            exact hK.out _ _ (by rw [hA]; simp only [putF]; rw [e10]; kernel_rfl) rfl
          · intro K L us W hK0 hL hd hR
            have e11 : us 11 = .pointer (some ⟨gn, 0, none⟩) := hR.vals 11 (by decide) (all_on hd ⟨11, Ground.data⟩ (by simp) rfl)
            have e1 : us 1 = .int .i64 0 := hR.vals 1 (by decide) (all_on hd ⟨1, Ground.data⟩ (by simp) rfl)
            have hK := hid (fun v9 A9 h1 (h3 : v9 = .pointer (some ⟨gn, 0, none⟩)) => hK0 v9 A9 W h1 (hR.pure (by decide) h3)); clear hK0
            clear hd
            simp only [putF]
            rw [hA, e11, e1]
            go_frame
            go_wp2_with fail
            exact hK.out _ _ (by rw [hA]; simp only [putF]; rw [e11, e1]; kernel_rfl) rfl
          · intro K L us W hK0 hL hd hR
            have e12 : us 12 = .pointer (some ⟨gn, 0, none⟩) := hR.vals 12 (by decide) (all_on hd ⟨12, Ground.data⟩ (by simp) rfl)
            have hS := hR.at 2 (by decide) (.inr ⟨by decide, all_on hd ⟨9, Ground.data⟩ (by simp) rfl⟩) hL
            have hK := hid (fun v9 A9 W9 h1 (hS' : (fun kk vv WW => (match kk with | 0 => WW.heap[gn]? = some (.cells #[.slice none 0 0, .slice none 0 0, .int .i64 (s0 : Int), .int .i64 (s1 : Int), .bool dn, .int .i64 lf] 74) | 1 => WW.heap[gn]? = some (.cells #[.slice none 0 0, .slice none 0 0, .int .i64 (s0 : Int), .int .i64 (s1 : Int), .bool dn, .int .i64 lf] 74) ∧ (∃ q, vv 0 = .slice (some ⟨q, 0, none⟩) 0 0) ∧ WW.ownsRow W3.heap.size 5 1 (vv 0) 0 [] | 2 => WW.heap[gn]? = some (.cells #[.slice none 0 0, .slice none 0 0, .int .i64 (s0 : Int), .int .i64 (s1 : Int), .bool dn, .int .i64 lf] 74) ∧ WW.ownsRow W3.heap.size 5 1 (vv 1) n0 (u8s b0) | _ => WW.heap[gn]? = some (.cells #[vv 1, .slice none 0 0, .int .i64 (s0 : Int), .int .i64 (s1 : Int), .bool dn, .int .i64 lf] 74) ∧ WW.ownsRow W3.heap.size 5 1 (vv 1) n0 (u8s b0)) ∧ DR WW B g dn lf ⟨.slice (some ad0) n0 d0, b0, s0⟩ ⟨.slice none 0 0, ([] : List Nat), s1⟩ ∧ Below w.heap.size w WW ∧ W3.heap.size ≤ WW.heap.size) 3 (fun j => if j = 2 then v9 else selV [2, 9, 13] us j) W9) => hK0 v9 A9 W9 h1 (hR.next (by decide) 2 (by decide) (.inr ⟨by decide, all_on hd ⟨9, Ground.data⟩ (by simp) rfl⟩) hL hS')); clear hK0
            obtain ⟨⟨hK4, hW4⟩, hD4, hB4, hz4⟩ := hS
            have K4 := hid hK4
            obtain ⟨v9, e9⟩ : ∃ v9, us 9 = v9 := ⟨_, rfl⟩
            have hW5 : W.ownsRow W3.heap.size 5 1 (us 9) n0 (u8s b0) := hW4
            rw [e9] at hW5
            have O4 := hid hW5
            obtain ⟨a9, c9, e99⟩ := own_slice hW5
            subst e99
            have D4 := hid hD4
            have B4 := hid hB4
            clear hD4 hB4 hK4 hW4 hW5
            have z1 : W.frozen? ⟨gn, 0, none⟩ = false := by have hh := K4.out; simp [World.frozen?, hh]
            have z0 : W.cell? ⟨gn, 0, none⟩ = some (.slice none 0 0) := (cell_row (j := 0) K4.out).trans rfl
            clear hd
            simp only [putF]
            rw [hA, e12, e9]
            go_frame
            go_wp2_with fail
            refine hK.out undef _ _ (by rw [hA]; simp only [putF]; rw [e12, e9]; kernel_rfl) ?_
            have hoth : ∀ k, k ≠ gn → (W.setCell ⟨gn, 0, none⟩ (.slice a9 n0 c9)).heap[k]? = W.heap[k]? := fun k hk => Below.heap_setCell W ⟨gn, 0, none⟩ _ k hk
            refine ⟨⟨?_, ?_⟩, D4.out.frame (F := fun k => k = gn) (Fr.set rfl) (fun k hk e => by have h1 := HFG.out k hk; omega), B4.out.setCell (p := ⟨gn, 0, none⟩) hge _, by simp; omega⟩
            · show _ = some (Obj.cells #[(us 9), .slice none 0 0, .int .i64 (s0 : Int), .int .i64 (s1 : Int), .bool dn, .int .i64 lf] 74)
              rw [e9]
              exact heap_setCell K4.out _
            · show World.ownsRow _ W3.heap.size 5 1 (us 9) n0 (u8s b0)
              rw [e9]
              exact own_same O4.out (fun k hk => hoth k (fun e => by have h1 := (O4.out.lt k hk).1; have h2 := hgk.out; omega))
        case htF010 =>
          intro L us X0 hall hR
          have hS := hR.last (fun i hi => match i, hi with | 0, _ => hall 2 (by decide) | 1, _ => hall 9 (by decide) | 2, _ => hall 13 (by decide))
          have e0 : us 0 = .pointer (some ⟨gn, 0, none⟩) := hR.vals 0 (by decide) (hall 0 (by decide))
          have e1 : us 1 = .int .i64 0 := hR.vals 1 (by decide) (hall 1 (by decide))
          have e3 : us 3 = .pointer (some ⟨g, 0, none⟩) := hR.vals 3 (by decide) (hall 3 (by decide))
          have e4 : us 4 = .int .i64 0 := hR.vals 4 (by decide) (hall 4 (by decide))
          have e5 : us 5 = .pointer (some ⟨g, 0, none⟩) := hR.vals 5 (by decide) (hall 5 (by decide))
          have e6 : us 6 = .pointer (some ⟨g, 0, none⟩) := hR.vals 6 (by decide) (hall 6 (by decide))
          have e7 : us 7 = .pointer (some ⟨g, 0, none⟩) := hR.vals 7 (by decide) (hall 7 (by decide))
          have e8 : us 8 = .slice (some ad0) n0 d0 := hR.vals 8 (by decide) (hall 8 (by decide))
          have e10 : us 10 = .pointer (some ⟨gn, 0, none⟩) := hR.vals 10 (by decide) (hall 10 (by decide))
          have e11 : us 11 = .pointer (some ⟨gn, 0, none⟩) := hR.vals 11 (by decide) (hall 11 (by decide))
          have e12 : us 12 = .pointer (some ⟨gn, 0, none⟩) := hR.vals 12 (by decide) (hall 12 (by decide))
          clear hR hall
          obtain ⟨⟨hK4, hW4⟩, hD4, hB4, hz4⟩ := hS
          obtain ⟨v2, e2⟩ : ∃ v2, us 2 = v2 := ⟨_, rfl⟩
          obtain ⟨v9, e9⟩ : ∃ v9, us 9 = v9 := ⟨_, rfl⟩
          have hK5 : X0.heap[gn]? = some (.cells #[(us 9), .slice none 0 0, .int .i64 (s0 : Int), .int .i64 (s1 : Int), .bool dn, .int .i64 lf] 74) := hK4
          have hW5 : X0.ownsRow W3.heap.size 5 1 (us 9) n0 (u8s b0) := hW4
          rw [e9] at hK5 hW5
          obtain ⟨p0, q0, e99⟩ := own_slice hW5
          subst e99
          have KN := hid hK5
          have HD := hid hD4
          have HB3 := hid hB4
          have hgk := hid (show gn < X0.heap.size from (Array.getElem?_eq_some_iff.1 hK5).1)
          have HO0 := hid hW5
          clear hK4 hK5 hD4 hB4 hW4 hW5
          simp only [putF]
          rw [hA, e2, e9, e0, e1, e3, e4, e5, e6, e7, e8, e10, e11, e12]
          go_frame
          clear hA e2 e9 e0 e1 e3 e4 e5 e6 e7 e8 e10 e11 e12
          go_wp2_with fail
          have HP0 := hid (fun k (hk : (Value.ownBlock (.slice p0 n0 q0)) = some k) => (HO0.out.lt k hk).2)
          have HPG := hid (fun k (hk : (Value.ownBlock (.slice p0 n0 q0)) = some k) => show k ≠ gn from fun e => by have h1 := (HO0.out.lt k hk).1; have h2 := HGK.out; omega)
          have HO0 := hid (own_low HO0.out HW0.out)
          have HFT := hid (fun k hk => show k < X0.heap.size from Nat.lt_of_lt_of_le (HFT.out k hk) hz4)
          have HW1 := hid (show w.heap.size ≤ X0.heap.size by have := HW0.out; omega)
          rw [rounds_succ]
          go_wp2_with fail
          refine gen_act (fun A0 hA => ?_)
          refine wp_region_by (by kernel_rfl) (by kernel_rfl) [some 22, some 23, some 24, some 25, some 26, some 27, some 28, some 29, some 30, some 31, some 32, some 33, some 34, none] rfl (by decide) (StR (fun j => ([.pointer (some ⟨gn, 0, none⟩), .int .i64 1, undef, .pointer (some ⟨g, 0, none⟩), .int .i64 1, .pointer (some ⟨g, 0, none⟩), .pointer (some ⟨g, 0, none⟩), .pointer (some ⟨g, 1, none⟩), .slice none 0 0, undef, .pointer (some ⟨gn, 0, none⟩), .pointer (some ⟨gn, 0, none⟩), .pointer (some ⟨gn, 1, none⟩), undef] : List Value).getD j undef) [2, 9, 13] (fun kk vv WW => (match kk with | 0 => WW.heap[gn]? = some (.cells #[.slice p0 n0 q0, .slice none 0 0, .int .i64 (s0 : Int), .int .i64 (s1 : Int), .bool dn, .int .i64 lf] 74) | 1 => WW.heap[gn]? = some (.cells #[.slice p0 n0 q0, .slice none 0 0, .int .i64 (s0 : Int), .int .i64 (s1 : Int), .bool dn, .int .i64 lf] 74) ∧ (∃ q, vv 0 = .slice (some ⟨q, 0, none⟩) 0 0) ∧ WW.ownsRow X0.heap.size 5 1 (vv 0) 0 [] | 2 => WW.heap[gn]? = some (.cells #[.slice p0 n0 q0, .slice none 0 0, .int .i64 (s0 : Int), .int .i64 (s1 : Int), .bool dn, .int .i64 lf] 74) ∧ WW.ownsRow X0.heap.size 5 1 (vv 1) 0 (u8s ([] : List Nat)) | _ => WW.heap[gn]? = some (.cells #[.slice p0 n0 q0, vv 1, .int .i64 (s0 : Int), .int .i64 (s1 : Int), .bool dn, .int .i64 lf] 74) ∧ WW.ownsRow X0.heap.size 5 1 (vv 1) 0 (u8s ([] : List Nat))) ∧ DR WW B g dn lf ⟨.slice (some ad0) n0 d0, b0, s0⟩ ⟨.slice none 0 0, ([] : List Nat), s1⟩ ∧ Below w.heap.size w WW ∧ X0.heap.size ≤ WW.heap.size ∧ WW.ownsRow w.heap.size 5 1 (.slice p0 n0 q0) n0 (u8s b0))) (selfF A0 _) (putF_self A0 _)
            (StR.start ⟨(((Below.refl _ _).drew).block _ hgk.out).trans KN.out, HD.out.still (Below.refl _ _).drew, HB3.out.drew, ((Below.refl X0.heap.size X0).drew).size, own_same HO0.out (fun k hk => ((Below.refl X0.heap.size X0).drew).block k (HO0.out.lt k hk).2)⟩ (fun _ => rfl)) ?hsF110 ?htF110
          case hsF110 =>
            refine ⟨?_, ?_, ?_, ?_, ?_, ?_, ?_, ?_, ?_, ?_, ?_, ?_, ?_, ?_, trivial⟩
            · intro K L us W hK0 hL hd hR
              have hK := hid (fun v9 A9 h1 (h3 : v9 = .pointer (some ⟨gn, 0, none⟩)) => hK0 v9 A9 W h1 (hR.pure (by decide) h3)); clear hK0
              clear hd
              simp only [putF]
              rw [hA]
              go_frame
              go_wp2_with fail
              exact hK.out _ _ (by rw [hA]; simp only [putF]; kernel_rfl) rfl
            · intro K L us W hK0 hL hd hR
              have hK := hid (fun v9 A9 h1 (h3 : v9 = .int .i64 1) => hK0 v9 A9 W h1 (hR.pure (by decide) h3)); clear hK0
              clear hd
              simp only [putF]
              rw [hA]
              go_frame
              go_wp2_with fail
              exact hK.out _ _ (by rw [hA]; simp only [putF]; kernel_rfl) rfl
            · intro K L us W hK0 hL hd hR
              have hS := hR.at 0 (by decide) (.inl rfl) hL
              have hK := hid (fun v9 A9 W9 h1 (hS' : (fun kk vv WW => (match kk with | 0 => WW.heap[gn]? = some (.cells #[.slice p0 n0 q0, .slice none 0 0, .int .i64 (s0 : Int), .int .i64 (s1 : Int), .bool dn, .int .i64 lf] 74) | 1 => WW.heap[gn]? = some (.cells #[.slice p0 n0 q0, .slice none 0 0, .int .i64 (s0 : Int), .int .i64 (s1 : Int), .bool dn, .int .i64 lf] 74) ∧ (∃ q, vv 0 = .slice (some ⟨q, 0, none⟩) 0 0) ∧ WW.ownsRow X0.heap.size 5 1 (vv 0) 0 [] | 2 => WW.heap[gn]? = some (.cells #[.slice p0 n0 q0, .slice none 0 0, .int .i64 (s0 : Int), .int .i64 (s1 : Int), .bool dn, .int .i64 lf] 74) ∧ WW.ownsRow X0.heap.size 5 1 (vv 1) 0 (u8s ([] : List Nat)) | _ => WW.heap[gn]? = some (.cells #[.slice p0 n0 q0, vv 1, .int .i64 (s0 : Int), .int .i64 (s1 : Int), .bool dn, .int .i64 lf] 74) ∧ WW.ownsRow X0.heap.size 5 1 (vv 1) 0 (u8s ([] : List Nat))) ∧ DR WW B g dn lf ⟨.slice (some ad0) n0 d0, b0, s0⟩ ⟨.slice none 0 0, ([] : List Nat), s1⟩ ∧ Below w.heap.size w WW ∧ X0.heap.size ≤ WW.heap.size ∧ WW.ownsRow w.heap.size 5 1 (.slice p0 n0 q0) n0 (u8s b0)) 1 (fun j => if j = 0 then v9 else selV [2, 9, 13] us j) W9) => hK0 v9 A9 W9 h1 (hR.next (by decide) 0 (by decide) (.inl rfl) hL hS')); clear hK0
              obtain ⟨hK4, hD4, hB4, hz4, hO4⟩ := hS
              have K4 := hid hK4
              have D4 := hid hD4
              have B4 := hid hB4
              have P4 := hid hO4
              clear hD4 hB4 hO4 hK4
              clear hd
              simp only [putF]
              rw [hA]
              go_frame
              go_wp2_with fail
              refine hK.out (.slice (some ⟨W.heap.size, 0, none⟩) 0 0) _ _ (by rw [hA]; simp only [putF]; kernel_rfl) ?_
              exact ⟨⟨heap_still ((Below.refl W.heap.size W).alloc (Nat.le_refl _) (.cells #[] 5)) K4.out, ⟨_, rfl⟩, World.ownsRow_lit (base := X0.heap.size) W #[] 0 hz4 (by unfold maxLen; omega) rfl⟩, D4.out.still ((Below.refl W.heap.size W).alloc (Nat.le_refl _) (.cells #[] 5)), B4.out.trans (((Below.refl W.heap.size W).alloc (Nat.le_refl _) (.cells #[] 5)).mono B4.out.size), by simp; omega, own_same P4.out (fun k hk => ((Below.refl W.heap.size W).alloc (Nat.le_refl _) (.cells #[] 5)).block k (P4.out.lt k hk).2)⟩
            · intro K L us W hK0 hL hd hR
              have hK := hid (fun v9 A9 h1 (h3 : v9 = .pointer (some ⟨g, 0, none⟩)) => hK0 v9 A9 W h1 (hR.pure (by decide) h3)); clear hK0
              clear hd
              simp only [putF]
              rw [hA]
              go_frame
              go_wp2_with fail
              exact hK.out _ _ (by rw [hA]; simp only [putF]; kernel_rfl) rfl
            · intro K L us W hK0 hL hd hR
              have hK := hid (fun v9 A9 h1 (h3 : v9 = .int .i64 1) => hK0 v9 A9 W h1 (hR.pure (by decide) h3)); clear hK0
              clear hd
              simp only [putF]
              rw [hA]
              go_frame
              go_wp2_with fail
              exact hK.out _ _ (by rw [hA]; simp only [putF]; kernel_rfl) rfl
            · intro K L us W hK0 hL hd hR
              have e3 : us 3 = .pointer (some ⟨g, 0, none⟩) := hR.vals 3 (by decide) (all_on hd ⟨3, Ground.data⟩ (by simp) rfl)
              have hK := hid (fun v9 A9 h1 (h3 : v9 = .pointer (some ⟨g, 0, none⟩)) => hK0 v9 A9 W h1 (hR.pure (by decide) h3)); clear hK0
              clear hd
              simp only [putF]
              rw [hA, e3]
              go_frame
              go_wp2_with fail
              exact hK.out _ _ (by rw [hA]; simp only [putF]; rw [e3]; kernel_rfl) rfl
            · intro K L us W hK0 hL hd hR
              have e5 : us 5 = .pointer (some ⟨g, 0, none⟩) := hR.vals 5 (by decide) (all_on hd ⟨5, Ground.data⟩ (by simp) rfl)
              have hK := hid (fun v9 A9 h1 (h3 : v9 = .pointer (some ⟨g, 0, none⟩)) => hK0 v9 A9 W h1 (hR.pure (by decide) h3)); clear hK0
              clear hd
              simp only [putF]
              rw [hA, e5]
              go_frame
              go_wp2_with fail
              exact hK.out _ _ (by rw [hA]; simp only [putF]; rw [e5]; kernel_rfl) rfl
            · intro K L us W hK0 hL hd hR
              have e6 : us 6 = .pointer (some ⟨g, 0, none⟩) := hR.vals 6 (by decide) (all_on hd ⟨6, Ground.data⟩ (by simp) rfl)
              have e4 : us 4 = .int .i64 1 := hR.vals 4 (by decide) (all_on hd ⟨4, Ground.data⟩ (by simp) rfl)
              have hK := hid (fun v9 A9 h1 (h3 : v9 = .pointer (some ⟨g, 1, none⟩)) => hK0 v9 A9 W h1 (hR.pure (by decide) h3)); clear hK0
              clear hd
              simp only [putF]
              rw [hA, e6, e4]
              go_frame
              go_wp2_with fail
              exact hK.out _ _ (by rw [hA]; simp only [putF]; rw [e6, e4]; kernel_rfl) rfl
            · intro K L us W hK0 hL hd hR
              have e7 : us 7 = .pointer (some ⟨g, 1, none⟩) := hR.vals 7 (by decide) (all_on hd ⟨7, Ground.data⟩ (by simp) rfl)
              have hK := hid (fun v9 A9 h1 (h3 : v9 = .slice none 0 0) => hK0 v9 A9 W h1 (hR.pure (by decide) h3)); clear hK0
              have hst := hR.st
              obtain ⟨kq, _, _, hSq⟩ := hst
              have hD4 : DR W B g dn lf ⟨.slice (some ad0) n0 d0, b0, s0⟩ ⟨.slice none 0 0, ([] : List Nat), s1⟩ := hSq.2.1
              have z0 : W.cell? ⟨g, 1, none⟩ = some (.slice none 0 0) := hD4.c1
              clear hSq hD4
              clear hd
              simp only [putF]
              rw [hA, e7]
              go_frame
              go_wp2_with fail
              exact hK.out _ _ (by rw [hA]; simp only [putF]; rw [e7]; kernel_rfl) rfl
            · intro K L us W hK0 hL hd hR
              have e8 : us 8 = .slice none 0 0 := hR.vals 8 (by decide) (all_on hd ⟨8, Ground.data⟩ (by simp) rfl)
              have hS := hR.at 1 (by decide) (.inr ⟨by decide, all_on hd ⟨2, Ground.data⟩ (by simp) rfl⟩) hL
              have hK := hid (fun v9 A9 W9 h1 (hS' : (fun kk vv WW => (match kk with | 0 => WW.heap[gn]? = some (.cells #[.slice p0 n0 q0, .slice none 0 0, .int .i64 (s0 : Int), .int .i64 (s1 : Int), .bool dn, .int .i64 lf] 74) | 1 => WW.heap[gn]? = some (.cells #[.slice p0 n0 q0, .slice none 0 0, .int .i64 (s0 : Int), .int .i64 (s1 : Int), .bool dn, .int .i64 lf] 74) ∧ (∃ q, vv 0 = .slice (some ⟨q, 0, none⟩) 0 0) ∧ WW.ownsRow X0.heap.size 5 1 (vv 0) 0 [] | 2 => WW.heap[gn]? = some (.cells #[.slice p0 n0 q0, .slice none 0 0, .int .i64 (s0 : Int), .int .i64 (s1 : Int), .bool dn, .int .i64 lf] 74) ∧ WW.ownsRow X0.heap.size 5 1 (vv 1) 0 (u8s ([] : List Nat)) | _ => WW.heap[gn]? = some (.cells #[.slice p0 n0 q0, vv 1, .int .i64 (s0 : Int), .int .i64 (s1 : Int), .bool dn, .int .i64 lf] 74) ∧ WW.ownsRow X0.heap.size 5 1 (vv 1) 0 (u8s ([] : List Nat))) ∧ DR WW B g dn lf ⟨.slice (some ad0) n0 d0, b0, s0⟩ ⟨.slice none 0 0, ([] : List Nat), s1⟩ ∧ Below w.heap.size w WW ∧ X0.heap.size ≤ WW.heap.size ∧ WW.ownsRow w.heap.size 5 1 (.slice p0 n0 q0) n0 (u8s b0)) 2 (fun j => if j = 1 then v9 else selV [2, 9, 13] us j) W9) => hK0 v9 A9 W9 h1 (hR.next (by decide) 1 (by decide) (.inr ⟨by decide, all_on hd ⟨2, Ground.data⟩ (by simp) rfl⟩) hL hS')); clear hK0
              obtain ⟨⟨hK4, ⟨q, hq⟩, hW4⟩, hD4, hB4, hz4, hO4⟩ := hS
              have K4 := hid hK4
              have e2 : us 2 = .slice (some ⟨q, 0, none⟩) 0 0 := hq
              have hW5 : W.ownsRow X0.heap.size 5 1 (us 2) 0 [] := hW4
              rw [e2] at hW5
              have O4 := hid hW5
              have D4 := hid hD4
              have B4 := hid hB4
              have P4 := hid hO4
              clear hD4 hB4 hO4 hK4 hW4 hW5 hq
              clear hd
              simp only [putF]
              rw [hA, e8, e2]
              go_frame
              go_wp2_with (first | (at_builtin; go_loud (refine wpList_append_own_none rfl (.tmp 24) (.tmp 30) 70 rfl X0.heap.size 5 i0 1 Try.underlying70 HI.out _ 0 [] rfl O4.out rfl ?_)))
              refine hK.out (.slice (some ⟨q, 0, none⟩) 0 0) _ _ (by rw [hA]; simp only [putF]; rw [e8, e2]; kernel_rfl) ?_
              exact ⟨⟨K4.out, O4.out⟩, D4.out, B4.out, hz4, P4.out⟩
            · intro K L us W hK0 hL hd hR
              have e0 : us 0 = .pointer (some ⟨gn, 0, none⟩) := hR.vals 0 (by decide) (all_on hd ⟨0, Ground.data⟩ (by simp) rfl)
              have hK := hid (fun v9 A9 h1 (h3 : v9 = .pointer (some ⟨gn, 0, none⟩)) => hK0 v9 A9 W h1 (hR.pure (by decide) h3)); clear hK0
              clear hd
              simp only [putF]
              rw [hA, e0]
              go_frame
              go_wp2_with fail
              exact hK.out _ _ (by rw [hA]; simp only [putF]; rw [e0]; kernel_rfl) rfl
            · intro K L us W hK0 hL hd hR
              have e10 : us 10 = .pointer (some ⟨gn, 0, none⟩) := hR.vals 10 (by decide) (all_on hd ⟨10, Ground.data⟩ (by simp) rfl)
              have hK := hid (fun v9 A9 h1 (h3 : v9 = .pointer (some ⟨gn, 0, none⟩)) => hK0 v9 A9 W h1 (hR.pure (by decide) h3)); clear hK0
              clear hd
              simp only [putF]
              rw [hA, e10]
              go_frame
              go_wp2_with fail
              exact hK.out _ _ (by rw [hA]; simp only [putF]; rw [e10]; kernel_rfl) rfl
            · intro K L us W hK0 hL hd hR
              have e11 : us 11 = .pointer (some ⟨gn, 0, none⟩) := hR.vals 11 (by decide) (all_on hd ⟨11, Ground.data⟩ (by simp) rfl)
              have e1 : us 1 = .int .i64 1 := hR.vals 1 (by decide) (all_on hd ⟨1, Ground.data⟩ (by simp) rfl)
              have hK := hid (fun v9 A9 h1 (h3 : v9 = .pointer (some ⟨gn, 1, none⟩)) => hK0 v9 A9 W h1 (hR.pure (by decide) h3)); clear hK0
              clear hd
              simp only [putF]
              rw [hA, e11, e1]
              go_frame
              go_wp2_with fail
              exact hK.out _ _ (by rw [hA]; simp only [putF]; rw [e11, e1]; kernel_rfl) rfl
            · intro K L us W hK0 hL hd hR
              have e12 : us 12 = .pointer (some ⟨gn, 1, none⟩) := hR.vals 12 (by decide) (all_on hd ⟨12, Ground.data⟩ (by simp) rfl)
              have hS := hR.at 2 (by decide) (.inr ⟨by decide, all_on hd ⟨9, Ground.data⟩ (by simp) rfl⟩) hL
              have hK := hid (fun v9 A9 W9 h1 (hS' : (fun kk vv WW => (match kk with | 0 => WW.heap[gn]? = some (.cells #[.slice p0 n0 q0, .slice none 0 0, .int .i64 (s0 : Int), .int .i64 (s1 : Int), .bool dn, .int .i64 lf] 74) | 1 => WW.heap[gn]? = some (.cells #[.slice p0 n0 q0, .slice none 0 0, .int .i64 (s0 : Int), .int .i64 (s1 : Int), .bool dn, .int .i64 lf] 74) ∧ (∃ q, vv 0 = .slice (some ⟨q, 0, none⟩) 0 0) ∧ WW.ownsRow X0.heap.size 5 1 (vv 0) 0 [] | 2 => WW.heap[gn]? = some (.cells #[.slice p0 n0 q0, .slice none 0 0, .int .i64 (s0 : Int), .int .i64 (s1 : Int), .bool dn, .int .i64 lf] 74) ∧ WW.ownsRow X0.heap.size 5 1 (vv 1) 0 (u8s ([] : List Nat)) | _ => WW.heap[gn]? = some (.cells #[.slice p0 n0 q0, vv 1, .int .i64 (s0 : Int), .int .i64 (s1 : Int), .bool dn, .int .i64 lf] 74) ∧ WW.ownsRow X0.heap.size 5 1 (vv 1) 0 (u8s ([] : List Nat))) ∧ DR WW B g dn lf ⟨.slice (some ad0) n0 d0, b0, s0⟩ ⟨.slice none 0 0, ([] : List Nat), s1⟩ ∧ Below w.heap.size w WW ∧ X0.heap.size ≤ WW.heap.size ∧ WW.ownsRow w.heap.size 5 1 (.slice p0 n0 q0) n0 (u8s b0)) 3 (fun j => if j = 2 then v9 else selV [2, 9, 13] us j) W9) => hK0 v9 A9 W9 h1 (hR.next (by decide) 2 (by decide) (.inr ⟨by decide, all_on hd ⟨9, Ground.data⟩ (by simp) rfl⟩) hL hS')); clear hK0
              obtain ⟨⟨hK4, hW4⟩, hD4, hB4, hz4, hO4⟩ := hS
              have K4 := hid hK4
              obtain ⟨v9, e9⟩ : ∃ v9, us 9 = v9 := ⟨_, rfl⟩
              have hW5 : W.ownsRow X0.heap.size 5 1 (us 9) 0 (u8s ([] : List Nat)) := hW4
              rw [e9] at hW5
              have O4 := hid hW5
              obtain ⟨a9, c9, e99⟩ := own_slice hW5
              subst e99
              have D4 := hid hD4
              have B4 := hid hB4
              have P4 := hid hO4
              clear hD4 hB4 hO4 hK4 hW4 hW5
              have z1 : W.frozen? ⟨gn, 1, none⟩ = false := by have hh := K4.out; simp [World.frozen?, hh]
              have z0 : W.cell? ⟨gn, 1, none⟩ = some (.slice none 0 0) := (cell_row (j := 1) K4.out).trans rfl
              clear hd
              simp only [putF]
              rw [hA, e12, e9]
              go_frame
              go_wp2_with fail
              refine hK.out undef _ _ (by rw [hA]; simp only [putF]; rw [e12, e9]; kernel_rfl) ?_
              have hoth : ∀ k, k ≠ gn → (W.setCell ⟨gn, 1, none⟩ (.slice a9 0 c9)).heap[k]? = W.heap[k]? := fun k hk => Below.heap_setCell W ⟨gn, 1, none⟩ _ k hk
              refine ⟨⟨?_, ?_⟩, D4.out.frame (F := fun k => k = gn) (Fr.set rfl) (fun k hk e => by have h1 := HFG.out k hk; omega), B4.out.setCell (p := ⟨gn, 1, none⟩) hge _, by simp; omega, own_same P4.out (fun k hk => hoth k (fun e => HPG.out k hk e))⟩
              · show _ = some (Obj.cells #[.slice p0 n0 q0, (us 9), .int .i64 (s0 : Int), .int .i64 (s1 : Int), .bool dn, .int .i64 lf] 74)
                rw [e9]
                exact heap_setCell K4.out _
              · show World.ownsRow _ X0.heap.size 5 1 (us 9) 0 (u8s ([] : List Nat))
                rw [e9]
                exact own_same O4.out (fun k hk => hoth k (fun e => by have h1 := (O4.out.lt k hk).1; have h2 := hgk.out; omega))
          case htF110 =>
            intro L us X1 hall hR
            have hS := hR.last (fun i hi => match i, hi with | 0, _ => hall 2 (by decide) | 1, _ => hall 9 (by decide) | 2, _ => hall 13 (by decide))
            have e0 : us 0 = .pointer (some ⟨gn, 0, none⟩) := hR.vals 0 (by decide) (hall 0 (by decide))
            have e1 : us 1 = .int .i64 1 := hR.vals 1 (by decide) (hall 1 (by decide))
            have e3 : us 3 = .pointer (some ⟨g, 0, none⟩) := hR.vals 3 (by decide) (hall 3 (by decide))
            have e4 : us 4 = .int .i64 1 := hR.vals 4 (by decide) (hall 4 (by decide))
            have e5 : us 5 = .pointer (some ⟨g, 0, none⟩) := hR.vals 5 (by decide) (hall 5 (by decide))
            have e6 : us 6 = .pointer (some ⟨g, 0, none⟩) := hR.vals 6 (by decide) (hall 6 (by decide))
            have e7 : us 7 = .pointer (some ⟨g, 1, none⟩) := hR.vals 7 (by decide) (hall 7 (by decide))
            have e8 : us 8 = .slice none 0 0 := hR.vals 8 (by decide) (hall 8 (by decide))
            have e10 : us 10 = .pointer (some ⟨gn, 0, none⟩) := hR.vals 10 (by decide) (hall 10 (by decide))
            have e11 : us 11 = .pointer (some ⟨gn, 0, none⟩) := hR.vals 11 (by decide) (hall 11 (by decide))
            have e12 : us 12 = .pointer (some ⟨gn, 1, none⟩) := hR.vals 12 (by decide) (hall 12 (by decide))
            clear hR hall
            obtain ⟨⟨hK4, hW4⟩, hD4, hB4, hz4, hO4⟩ := hS
            obtain ⟨v2, e2⟩ : ∃ v2, us 2 = v2 := ⟨_, rfl⟩
            obtain ⟨v9, e9⟩ : ∃ v9, us 9 = v9 := ⟨_, rfl⟩
            have hK5 : X1.heap[gn]? = some (.cells #[.slice p0 n0 q0, (us 9), .int .i64 (s0 : Int), .int .i64 (s1 : Int), .bool dn, .int .i64 lf] 74) := hK4
            have hW5 : X1.ownsRow X0.heap.size 5 1 (us 9) 0 (u8s ([] : List Nat)) := hW4
            rw [e9] at hK5 hW5
            obtain ⟨p1, q1, e99⟩ := own_slice hW5
            subst e99
            have KN := hid hK5
            have HD := hid hD4
            have HB3 := hid hB4
            have hgk := hid (show gn < X1.heap.size from (Array.getElem?_eq_some_iff.1 hK5).1)
            have HO1 := hid hW5
            clear hK4 hK5 hD4 hB4 hW4 hW5
            have HO0 := hid hO4
            clear hO4
            simp only [putF]
            rw [hA, e2, e9, e0, e1, e3, e4, e5, e6, e7, e8, e10, e11, e12]
            go_frame
            clear hA e2 e9 e0 e1 e3 e4 e5 e6 e7 e8 e10 e11 e12
            go_wp2_with fail
            (try rw [rounds_succ])
            go_wp2_with fail
            go_ret
            refine ⟨⟨gn, .slice p0 n0 q0, .slice p1 0 q1, rfl, KN.out, hge, (by rw [← HN0.out]; exact HO0.out), show X1.ownsRow w.heap.size 5 1 (.slice p1 0 q1) (([] : List Nat) : List Nat).length (u8s ([] : List Nat)) from own_low HO1.out HW1.out, fun e => HPG.out gn e rfl, fun e => by have h1 := (HO1.out.lt gn e).1; have h2 := HGK.out; omega, fun k hk e => ?_⟩, HB3.out⟩
            have h1 := (HO1.out.lt k e).1
            have h2 := HP0.out k hk
            omega
    · obtain rfl : v1 = .slice (some ad1) b1.length d1 := e1
      clear hc1
      simp only [← hn1e] at HD HLT
      clear hn1e HR0 HR1
      go_enter Try.func37, Try.ntmps37
      go_wp2_with fail
      refine gen_act (fun A0 hA => ?_)
      refine wp_region_tail (by kernel_rfl) (by kernel_rfl) [some 5, some 6, some 7, some 8, some 9, some 10, some 11, some 12, some 13, some 14, some 15, some 16, some 17, some 18, some 3] rfl (by decide) 13 (by decide) (by kernel_rfl) (by kernel_rfl)
        [IsV (.pointer (some ⟨g, 0, none⟩)), IsV (.pointer (some ⟨g, 0, none⟩)), IsV (.pointer (some ⟨g, 2, none⟩)), IsV (.agg #[.int .i64 (s0 : Int), .int .i64 (s1 : Int)]), IsV (.pointer (some ⟨g, 0, none⟩)), IsV (.pointer (some ⟨g, 0, none⟩)), IsV (.pointer (some ⟨g, 4, none⟩)), IsV (.bool dn), IsV (.pointer (some ⟨g, 0, none⟩)), IsV (.pointer (some ⟨g, 0, none⟩)), IsV (.pointer (some ⟨g, 5, none⟩)), IsV (.int .i64 lf), IsV (.agg #[.slice none 0 0, .slice none 0 0, .int .i64 (s0 : Int), .int .i64 (s1 : Int), .bool dn, .int .i64 lf])]
        ⟨IsV.stb _, IsV.stb _, IsV.stb _, IsV.stb _, IsV.stb _, IsV.stb _, IsV.stb _, IsV.stb _, IsV.stb _, IsV.stb _, IsV.stb _, IsV.stb _, IsV.stb _, trivial⟩ ?hsM11 ?htM11
      case hsM11 =>
        refine ⟨?_, ?_, ?_, ?_, ?_, ?_, ?_, ?_, ?_, ?_, ?_, ?_, ?_, trivial⟩
        · intro K us W hK0 hB hd
          have hK := hid hK0; clear hK0
          have HBW := hid hB
          clear hd
          simp only [putF]
          rw [hA]
          go_frame
          go_wp2_with fail
          exact hK.out _ _ _ (by rw [hA]; simp only [putF]; kernel_rfl) (Below.refl _ _) rfl
        · intro K us W hK0 hB hd
          have hK := hid hK0; clear hK0
          have HBW := hid hB
          have e0 : us 0 = .pointer (some ⟨g, 0, none⟩) := hd ⟨0, Ground.data⟩ (by simp) rfl
          clear hd
          simp only [putF]
          rw [hA, e0]
          go_frame
          go_wp2_with fail
          exact hK.out _ _ _ (by rw [hA]; simp only [putF]; rw [e0]; kernel_rfl) (Below.refl _ _) rfl
        · intro K us W hK0 hB hd
          have hK := hid hK0; clear hK0
          have HBW := hid hB
          have e1 : us 1 = .pointer (some ⟨g, 0, none⟩) := hd ⟨1, Ground.data⟩ (by simp) rfl
          clear hd
          simp only [putF]
          rw [hA, e1]
          go_frame
          go_wp2_with fail
          exact hK.out _ _ _ (by rw [hA]; simp only [putF]; rw [e1]; kernel_rfl) (Below.refl _ _) rfl
        · intro K us W hK0 hB hd
          have hK := hid hK0; clear hK0
          have HBW := hid hB
          have e2 : us 2 = .pointer (some ⟨g, 2, none⟩) := hd ⟨2, Ground.data⟩ (by simp) rfl
          clear hd
          have z2 : W.cell? ⟨g, 2, none⟩ = some (.int .i64 (s0 : Int)) := (HD.out.still hB).c2
          have z3 : W.cell? ⟨g, 3, none⟩ = some (.int .i64 (s1 : Int)) := (HD.out.still hB).c3
          simp only [putF]
          rw [hA, e2]
          go_frame
          go_wp2_with fail
          exact hK.out _ _ _ (by rw [hA]; simp only [putF]; rw [e2]; kernel_rfl) (Below.refl _ _) rfl
        · intro K us W hK0 hB hd
          have hK := hid hK0; clear hK0
          have HBW := hid hB
          clear hd
          simp only [putF]
          rw [hA]
          go_frame
          go_wp2_with fail
          exact hK.out _ _ _ (by rw [hA]; simp only [putF]; kernel_rfl) (Below.refl _ _) rfl
        · intro K us W hK0 hB hd
          have hK := hid hK0; clear hK0
          have HBW := hid hB
          have e4 : us 4 = .pointer (some ⟨g, 0, none⟩) := hd ⟨4, Ground.data⟩ (by simp) rfl
          clear hd
          simp only [putF]
          rw [hA, e4]
          go_frame
          go_wp2_with fail
          exact hK.out _ _ _ (by rw [hA]; simp only [putF]; rw [e4]; kernel_rfl) (Below.refl _ _) rfl
        · intro K us W hK0 hB hd
          have hK := hid hK0; clear hK0
          have HBW := hid hB
          have e5 : us 5 = .pointer (some ⟨g, 0, none⟩) := hd ⟨5, Ground.data⟩ (by simp) rfl
          clear hd
          simp only [putF]
          rw [hA, e5]
          go_frame
          go_wp2_with fail
          exact hK.out _ _ _ (by rw [hA]; simp only [putF]; rw [e5]; kernel_rfl) (Below.refl _ _) rfl
        · intro K us W hK0 hB hd
          have hK := hid hK0; clear hK0
          have HBW := hid hB
          have e6 : us 6 = .pointer (some ⟨g, 4, none⟩) := hd ⟨6, Ground.data⟩ (by simp) rfl
          clear hd
          have z4 : W.cell? ⟨g, 4, none⟩ = some (.bool dn) := (HD.out.still hB).c4
          simp only [putF]
          rw [hA, e6]
          go_frame
          go_wp2_with fail
          exact hK.out _ _ _ (by rw [hA]; simp only [putF]; rw [e6]; kernel_rfl) (Below.refl _ _) rfl
        · intro K us W hK0 hB hd
          have hK := hid hK0; clear hK0
          have HBW := hid hB
          clear hd
          simp only [putF]
          rw [hA]
          go_frame
          go_wp2_with fail
          exact hK.out _ _ _ (by rw [hA]; simp only [putF]; kernel_rfl) (Below.refl _ _) rfl
        · intro K us W hK0 hB hd
          have hK := hid hK0; clear hK0
          have HBW := hid hB
          have e8 : us 8 = .pointer (some ⟨g, 0, none⟩) := hd ⟨8, Ground.data⟩ (by simp) rfl
          clear hd
          simp only [putF]
          rw [hA, e8]
          go_frame
          go_wp2_with fail
          exact hK.out _ _ _ (by rw [hA]; simp only [putF]; rw [e8]; kernel_rfl) (Below.refl _ _) rfl
        · intro K us W hK0 hB hd
          have hK := hid hK0; clear hK0
          have HBW := hid hB
          have e9 : us 9 = .pointer (some ⟨g, 0, none⟩) := hd ⟨9, Ground.data⟩ (by simp) rfl
          clear hd
          simp only [putF]
          rw [hA, e9]
          go_frame
          go_wp2_with fail
          exact hK.out _ _ _ (by rw [hA]; simp only [putF]; rw [e9]; kernel_rfl) (Below.refl _ _) rfl
        · intro K us W hK0 hB hd
          have hK := hid hK0; clear hK0
          have HBW := hid hB
          have e10 : us 10 = .pointer (some ⟨g, 5, none⟩) := hd ⟨10, Ground.data⟩ (by simp) rfl
          clear hd
          have z5 : W.cell? ⟨g, 5, none⟩ = some (.int .i64 lf) := (HD.out.still hB).c5
          simp only [putF]
          rw [hA, e10]
          go_frame
          go_wp2_with fail
          exact hK.out _ _ _ (by rw [hA]; simp only [putF]; rw [e10]; kernel_rfl) (Below.refl _ _) rfl
        · intro K us W hK0 hB hd
          have hK := hid hK0; clear hK0
          have HBW := hid hB
          have e3 : us 3 = .agg #[.int .i64 (s0 : Int), .int .i64 (s1 : Int)] := hd ⟨3, Ground.data⟩ (by simp) rfl
          have e7 : us 7 = .bool dn := hd ⟨7, Ground.data⟩ (by simp) rfl
          have e11 : us 11 = .int .i64 lf := hd ⟨11, Ground.data⟩ (by simp) rfl
          clear hd
          simp only [putF]
          rw [hA, e3, e7, e11]
          go_frame
          go_wp2_with fail
          exact hK.out _ _ _ (by rw [hA]; simp only [putF]; rw [e3, e7, e11]; kernel_rfl) (Below.refl _ _) rfl
      case htM11 =>
        intro us WW hBB hp
        have e0 : us 0 = .pointer (some ⟨g, 0, none⟩) := hp 0 (by decide)
        have e1 : us 1 = .pointer (some ⟨g, 0, none⟩) := hp 1 (by decide)
        have e2 : us 2 = .pointer (some ⟨g, 2, none⟩) := hp 2 (by decide)
        have e3 : us 3 = .agg #[.int .i64 (s0 : Int), .int .i64 (s1 : Int)] := hp 3 (by decide)
        have e4 : us 4 = .pointer (some ⟨g, 0, none⟩) := hp 4 (by decide)
        have e5 : us 5 = .pointer (some ⟨g, 0, none⟩) := hp 5 (by decide)
        have e6 : us 6 = .pointer (some ⟨g, 4, none⟩) := hp 6 (by decide)
        have e7 : us 7 = .bool dn := hp 7 (by decide)
        have e8 : us 8 = .pointer (some ⟨g, 0, none⟩) := hp 8 (by decide)
        have e9 : us 9 = .pointer (some ⟨g, 0, none⟩) := hp 9 (by decide)
        have e10 : us 10 = .pointer (some ⟨g, 5, none⟩) := hp 10 (by decide)
        have e11 : us 11 = .int .i64 lf := hp 11 (by decide)
        have e12 : us 12 = .agg #[.slice none 0 0, .slice none 0 0, .int .i64 (s0 : Int), .int .i64 (s1 : Int), .bool dn, .int .i64 lf] := hp 12 (by decide)
        clear hp
        have HD := hid (HD.out.still hBB)
        have HB0 := hid (HB0.out.trans (hBB.mono HB0.out.size))
        have hzz := HB0.out.size
        clear hBB
        refine seqs_step rfl ?_
        intro K hK0
        have hK := hid hK0; clear hK0
        simp only [putF]
        rw [hA, e0, e1, e2, e3, e4, e5, e6, e7, e8, e9, e10, e11, e12]
        go_frame
        go_wp2_with fail
        refine hK.out (.pointer (some ⟨WW.heap.size, 0, none⟩)) _ _ (by rw [hA]; simp only [putF]; rw [e0, e1, e2, e3, e4, e5, e6, e7, e8, e9, e10, e11, e12]; kernel_rfl) ?_
        clear hK hA e0 e1 e2 e3 e4 e5 e6 e7 e8 e9 e10 e11 e12
        refine seqs_step rfl ?_
        intro K hK0
        have hK := hid hK0; clear hK0
        go_wp2_with fail
        refine hK.out (.pointer (some ⟨WW.heap.size, 0, none⟩)) _ _ (by kernel_rfl) ?_
        clear hK
        refine seqs_end rfl ?_
        go_wp2_with fail
        refine gen_world (fun W3 hW3 => ?_)
        have KN := hid (show W3.heap[WW.heap.size]? = some (.cells #[.slice none 0 0, .slice none 0 0, .int .i64 (s0 : Int), .int .i64 (s1 : Int), .bool dn, .int .i64 lf] 74) by rw [hW3]; exact heap_alloc_at _ _ _ rfl)
        have HD := hid (show DR W3 B g dn lf ⟨.slice (some ad0) n0 d0, b0, s0⟩ ⟨.slice (some ad1) n1 d1, b1, s1⟩ by rw [hW3]; exact HD.out.still ((Below.refl _ _).alloc (Nat.le_refl _) _))
        have HB3 := hid (show Below w.heap.size w W3 by rw [hW3]; exact HB0.out.alloc hzz _)
        clear hW3 HB0
        obtain ⟨gn, hgn2⟩ : ∃ gn, gn = WW.heap.size := ⟨_, rfl⟩
        rw [← hgn2] at KN ⊢
        have hge : w.heap.size ≤ gn := by omega
        have hgk := hid (show gn < W3.heap.size from (Array.getElem?_eq_some_iff.1 KN.out).1)
        clear hgn2 hzz
        refine wp_loop_rounds 3 ?_
        rw [rounds_succ]
        have HFT := hid (fun k (hk : foot g ⟨.slice (some ad0) n0 d0, b0, s0⟩ ⟨.slice (some ad1) n1 d1, b1, s1⟩ k) => show k < W3.heap.size by have h1 := HLT.out k hk; have h2 := HB3.out.size; omega)
        have HFG := hid (fun k (hk : foot g ⟨.slice (some ad0) n0 d0, b0, s0⟩ ⟨.slice (some ad1) n1 d1, b1, s1⟩ k) => show k ≠ gn from fun e => by have h1 := HLT.out k hk; omega)
        have HGK := hid hgk.out
        have HW0 := hid (show w.heap.size ≤ W3.heap.size from HB3.out.size)
        go_wp2_with fail
        refine gen_act (fun A0 hA => ?_)
        refine wp_region_by (by kernel_rfl) (by kernel_rfl) [some 22, some 23, some 24, some 25, some 26, some 27, some 28, some 29, some 30, some 31, some 32, some 33, some 34, none] rfl (by decide) (StR (fun j => ([.pointer (some ⟨gn, 0, none⟩), .int .i64 0, undef, .pointer (some ⟨g, 0, none⟩), .int .i64 0, .pointer (some ⟨g, 0, none⟩), .pointer (some ⟨g, 0, none⟩), .pointer (some ⟨g, 0, none⟩), .slice (some ad0) n0 d0, undef, .pointer (some ⟨gn, 0, none⟩), .pointer (some ⟨gn, 0, none⟩), .pointer (some ⟨gn, 0, none⟩), undef] : List Value).getD j undef) [2, 9, 13] (fun kk vv WW => (match kk with | 0 => WW.heap[gn]? = some (.cells #[.slice none 0 0, .slice none 0 0, .int .i64 (s0 : Int), .int .i64 (s1 : Int), .bool dn, .int .i64 lf] 74) | 1 => WW.heap[gn]? = some (.cells #[.slice none 0 0, .slice none 0 0, .int .i64 (s0 : Int), .int .i64 (s1 : Int), .bool dn, .int .i64 lf] 74) ∧ (∃ q, vv 0 = .slice (some ⟨q, 0, none⟩) 0 0) ∧ WW.ownsRow W3.heap.size 5 1 (vv 0) 0 [] | 2 => WW.heap[gn]? = some (.cells #[.slice none 0 0, .slice none 0 0, .int .i64 (s0 : Int), .int .i64 (s1 : Int), .bool dn, .int .i64 lf] 74) ∧ WW.ownsRow W3.heap.size 5 1 (vv 1) n0 (u8s b0) | _ => WW.heap[gn]? = some (.cells #[vv 1, .slice none 0 0, .int .i64 (s0 : Int), .int .i64 (s1 : Int), .bool dn, .int .i64 lf] 74) ∧ WW.ownsRow W3.heap.size 5 1 (vv 1) n0 (u8s b0)) ∧ DR WW B g dn lf ⟨.slice (some ad0) n0 d0, b0, s0⟩ ⟨.slice (some ad1) n1 d1, b1, s1⟩ ∧ Below w.heap.size w WW ∧ W3.heap.size ≤ WW.heap.size)) (selfF A0 _) (putF_self A0 _)
          (StR.start ⟨(((Below.refl _ _).drew).block _ hgk.out).trans KN.out, HD.out.still (Below.refl _ _).drew, HB3.out.drew, ((Below.refl W3.heap.size W3).drew).size⟩ (fun _ => rfl)) ?hsF011 ?htF011
        case hsF011 =>
          refine ⟨?_, ?_, ?_, ?_, ?_, ?_, ?_, ?_, ?_, ?_, ?_, ?_, ?_, ?_, trivial⟩
          · intro K L us W hK0 hL hd hR
            have hK := hid (fun v9 A9 h1 (h3 : v9 = .pointer (some ⟨gn, 0, none⟩)) => hK0 v9 A9 W h1 (hR.pure (by decide) h3)); clear hK0
            clear hd
            simp only [putF]
            rw [hA]
            go_frame
            go_wp2_with fail
            exact hK.out _ _ (by rw [hA]; simp only [putF]; kernel_rfl) rfl
          · intro K L us W hK0 hL hd hR
            have hK := hid (fun v9 A9 h1 (h3 : v9 = .int .i64 0) => hK0 v9 A9 W h1 (hR.pure (by decide) h3)); clear hK0
            clear hd
            simp only [putF]
            rw [hA]
            go_frame
            go_wp2_with fail
            exact hK.out _ _ (by rw [hA]; simp only [putF]; kernel_rfl) rfl
          · intro K L us W hK0 hL hd hR
            have hS := hR.at 0 (by decide) (.inl rfl) hL
            have hK := hid (fun v9 A9 W9 h1 (hS' : (fun kk vv WW => (match kk with | 0 => WW.heap[gn]? = some (.cells #[.slice none 0 0, .slice none 0 0, .int .i64 (s0 : Int), .int .i64 (s1 : Int), .bool dn, .int .i64 lf] 74) | 1 => WW.heap[gn]? = some (.cells #[.slice none 0 0, .slice none 0 0, .int .i64 (s0 : Int), .int .i64 (s1 : Int), .bool dn, .int .i64 lf] 74) ∧ (∃ q, vv 0 = .slice (some ⟨q, 0, none⟩) 0 0) ∧ WW.ownsRow W3.heap.size 5 1 (vv 0) 0 [] | 2 => WW.heap[gn]? = some (.cells #[.slice none 0 0, .slice none 0 0, .int .i64 (s0 : Int), .int .i64 (s1 : Int), .bool dn, .int .i64 lf] 74) ∧ WW.ownsRow W3.heap.size 5 1 (vv 1) n0 (u8s b0) | _ => WW.heap[gn]? = some (.cells #[vv 1, .slice none 0 0, .int .i64 (s0 : Int), .int .i64 (s1 : Int), .bool dn, .int .i64 lf] 74) ∧ WW.ownsRow W3.heap.size 5 1 (vv 1) n0 (u8s b0)) ∧ DR WW B g dn lf ⟨.slice (some ad0) n0 d0, b0, s0⟩ ⟨.slice (some ad1) n1 d1, b1, s1⟩ ∧ Below w.heap.size w WW ∧ W3.heap.size ≤ WW.heap.size) 1 (fun j => if j = 0 then v9 else selV [2, 9, 13] us j) W9) => hK0 v9 A9 W9 h1 (hR.next (by decide) 0 (by decide) (.inl rfl) hL hS')); clear hK0
            obtain ⟨hK4, hD4, hB4, hz4⟩ := hS
            have K4 := hid hK4
            have D4 := hid hD4
            have B4 := hid hB4
            clear hD4 hB4 hK4
            clear hd
            simp only [putF]
            rw [hA]
            go_frame
            go_wp2_with fail
            refine hK.out (.slice (some ⟨W.heap.size, 0, none⟩) 0 0) _ _ (by rw [hA]; simp only [putF]; kernel_rfl) ?_
            exact ⟨⟨heap_still ((Below.refl W.heap.size W).alloc (Nat.le_refl _) (.cells #[] 5)) K4.out, ⟨_, rfl⟩, World.ownsRow_lit (base := W3.heap.size) W #[] 0 hz4 (by unfold maxLen; omega) rfl⟩, D4.out.still ((Below.refl W.heap.size W).alloc (Nat.le_refl _) (.cells #[] 5)), B4.out.trans (((Below.refl W.heap.size W).alloc (Nat.le_refl _) (.cells #[] 5)).mono B4.out.size), by simp; omega⟩
          · intro K L us W hK0 hL hd hR
            have hK := hid (fun v9 A9 h1 (h3 : v9 = .pointer (some ⟨g, 0, none⟩)) => hK0 v9 A9 W h1 (hR.pure (by decide) h3)); clear hK0
            clear hd
            simp only [putF]
            rw [hA]
            go_frame
            go_wp2_with fail
            exact hK.out _ _ (by rw [hA]; simp only [putF]; kernel_rfl) rfl
          · intro K L us W hK0 hL hd hR
            have hK := hid (fun v9 A9 h1 (h3 : v9 = .int .i64 0) => hK0 v9 A9 W h1 (hR.pure (by decide) h3)); clear hK0
            clear hd
            simp only [putF]
            rw [hA]
            go_frame
            go_wp2_with fail
            exact hK.out _ _ (by rw [hA]; simp only [putF]; kernel_rfl) rfl
          · intro K L us W hK0 hL hd hR
            have e3 : us 3 = .pointer (some ⟨g, 0, none⟩) := hR.vals 3 (by decide) (all_on hd ⟨3, Ground.data⟩ (by simp) rfl)
            have hK := hid (fun v9 A9 h1 (h3 : v9 = .pointer (some ⟨g, 0, none⟩)) => hK0 v9 A9 W h1 (hR.pure (by decide) h3)); clear hK0
            clear hd
            simp only [putF]
            rw [hA, e3]
            go_frame
            go_wp2_with fail
            exact hK.out _ _ (by rw [hA]; simp only [putF]; rw [e3]; kernel_rfl) rfl
          · intro K L us W hK0 hL hd hR
            have e5 : us 5 = .pointer (some ⟨g, 0, none⟩) := hR.vals 5 (by decide) (all_on hd ⟨5, Ground.data⟩ (by simp) rfl)
            have hK := hid (fun v9 A9 h1 (h3 : v9 = .pointer (some ⟨g, 0, none⟩)) => hK0 v9 A9 W h1 (hR.pure (by decide) h3)); clear hK0
            clear hd
            simp only [putF]
            rw [hA, e5]
            go_frame
            go_wp2_with fail
            exact hK.out _ _ (by rw [hA]; simp only [putF]; rw [e5]; kernel_rfl) rfl
          · intro K L us W hK0 hL hd hR
            have e6 : us 6 = .pointer (some ⟨g, 0, none⟩) := hR.vals 6 (by decide) (all_on hd ⟨6, Ground.data⟩ (by simp) rfl)
            have e4 : us 4 = .int .i64 0 := hR.vals 4 (by decide) (all_on hd ⟨4, Ground.data⟩ (by simp) rfl)
            have hK := hid (fun v9 A9 h1 (h3 : v9 = .pointer (some ⟨g, 0, none⟩)) => hK0 v9 A9 W h1 (hR.pure (by decide) h3)); clear hK0
            clear hd
            simp only [putF]
            rw [hA, e6, e4]
            go_frame
            go_wp2_with fail
            exact hK.out _ _ (by rw [hA]; simp only [putF]; rw [e6, e4]; kernel_rfl) rfl
          · intro K L us W hK0 hL hd hR
            have e7 : us 7 = .pointer (some ⟨g, 0, none⟩) := hR.vals 7 (by decide) (all_on hd ⟨7, Ground.data⟩ (by simp) rfl)
            have hK := hid (fun v9 A9 h1 (h3 : v9 = .slice (some ad0) n0 d0) => hK0 v9 A9 W h1 (hR.pure (by decide) h3)); clear hK0
            have hst := hR.st
            obtain ⟨kq, _, _, hSq⟩ := hst
            have hD4 : DR W B g dn lf ⟨.slice (some ad0) n0 d0, b0, s0⟩ ⟨.slice (some ad1) n1 d1, b1, s1⟩ := hSq.2.1
            have z0 : W.cell? ⟨g, 0, none⟩ = some (.slice (some ad0) n0 d0) := hD4.c0
            clear hSq hD4
            clear hd
            simp only [putF]
            rw [hA, e7]
            go_frame
            go_wp2_with fail
            exact hK.out _ _ (by rw [hA]; simp only [putF]; rw [e7]; kernel_rfl) rfl
          · intro K L us W hK0 hL hd hR
            have e8 : us 8 = .slice (some ad0) n0 d0 := hR.vals 8 (by decide) (all_on hd ⟨8, Ground.data⟩ (by simp) rfl)
            have hS := hR.at 1 (by decide) (.inr ⟨by decide, all_on hd ⟨2, Ground.data⟩ (by simp) rfl⟩) hL
            have hK := hid (fun v9 A9 W9 h1 (hS' : (fun kk vv WW => (match kk with | 0 => WW.heap[gn]? = some (.cells #[.slice none 0 0, .slice none 0 0, .int .i64 (s0 : Int), .int .i64 (s1 : Int), .bool dn, .int .i64 lf] 74) | 1 => WW.heap[gn]? = some (.cells #[.slice none 0 0, .slice none 0 0, .int .i64 (s0 : Int), .int .i64 (s1 : Int), .bool dn, .int .i64 lf] 74) ∧ (∃ q, vv 0 = .slice (some ⟨q, 0, none⟩) 0 0) ∧ WW.ownsRow W3.heap.size 5 1 (vv 0) 0 [] | 2 => WW.heap[gn]? = some (.cells #[.slice none 0 0, .slice none 0 0, .int .i64 (s0 : Int), .int .i64 (s1 : Int), .bool dn, .int .i64 lf] 74) ∧ WW.ownsRow W3.heap.size 5 1 (vv 1) n0 (u8s b0) | _ => WW.heap[gn]? = some (.cells #[vv 1, .slice none 0 0, .int .i64 (s0 : Int), .int .i64 (s1 : Int), .bool dn, .int .i64 lf] 74) ∧ WW.ownsRow W3.heap.size 5 1 (vv 1) n0 (u8s b0)) ∧ DR WW B g dn lf ⟨.slice (some ad0) n0 d0, b0, s0⟩ ⟨.slice (some ad1) n1 d1, b1, s1⟩ ∧ Below w.heap.size w WW ∧ W3.heap.size ≤ WW.heap.size) 2 (fun j => if j = 1 then v9 else selV [2, 9, 13] us j) W9) => hK0 v9 A9 W9 h1 (hR.next (by decide) 1 (by decide) (.inr ⟨by decide, all_on hd ⟨2, Ground.data⟩ (by simp) rfl⟩) hL hS')); clear hK0
            obtain ⟨⟨hK4, ⟨q, hq⟩, hW4⟩, hD4, hB4, hz4⟩ := hS
            have K4 := hid hK4
            have e2 : us 2 = .slice (some ⟨q, 0, none⟩) 0 0 := hq
            have hW5 : W.ownsRow W3.heap.size 5 1 (us 2) 0 [] := hW4
            rw [e2] at hW5
            have O4 := hid hW5
            have D4 := hid hD4
            have B4 := hid hB4
            clear hD4 hB4 hK4 hW4 hW5 hq
            have HC4 := hid (show ∀ j u, (u8s b0)[j]? = some u → W.cell? (ad0.add j) = some u from by rcases own_rdb (show W.ownsRow B 5 1 (.slice (some ad0) n0 d0) b0.length (u8s b0) from D4.out.o0) with ⟨e, _⟩ | ⟨ad9, c9, e, h9⟩; (· injection e with e; exact absurd e (by simp)); (· injection e with e; injection e with e; subst e; exact h9))
            clear hd
            simp only [putF]
            rw [hA, e8, e2]
            go_frame
            go_wp2_with (first | (at_builtin; go_loud (refine wpList_append_own_at _ rfl (.tmp 24) (.tmp 30) 70 rfl W3.heap.size 5 i0 (.int .u8 0) 1 1 Try.underlying70 HI.out HZ0.out HZ1.out HZ2.out rfl (by decide) _ 0 [] rfl O4.out ad0 n0 d0 (u8s b0) rfl (by simp [u8s, HN0.out]) (fun j u hu => HC4.out j u hu) (u8s_one _) (by unfold maxLen; omega) (by omega) (by omega) ?_; intro v7 w7 ho1 ho2 ho3 ho4; clear ho3; simp only [Nat.zero_add, List.nil_append] at ho1; have HO1 := hid ho1; have HO2 := hid ho2; clear ho1 ho2 ho4)))
            refine hK.out v7 _ _ (by rw [hA]; simp only [putF]; rw [e8, e2]; kernel_rfl) ?_
            have hlt4 : ∀ k, some k = some q → W3.heap.size ≤ k := fun k hk => (O4.out.lt k hk.symm).1
            have hbk : ∀ k, k < W3.heap.size → w7.heap[k]? = W.heap[k]? := fun k hk => HO2.out.block k (by omega) (fun e => by have h1 := hlt4 k e; omega)
            have hfr : Fr (fun k => k = q) W w7 := Fr.grown HO2.out (fun k hk => by injection hk with hk; exact hk.symm)
            have hqz := hlt4 q rfl
            refine ⟨⟨(hbk gn hgk.out).trans K4.out, HO1.out⟩, D4.out.frame hfr (fun k hk e => by have h1 := HFT.out k hk; omega), ⟨HO2.out.os.trans B4.out.os, HO2.out.tape.trans B4.out.tape, HO2.out.output.trans B4.out.output, Nat.le_trans B4.out.size HO2.out.size, fun k hk => (hbk k (by have := HW0.out; omega)).trans (B4.out.block k hk)⟩, by have := HO2.out.size; omega⟩
          · intro K L us W hK0 hL hd hR
            have e0 : us 0 = .pointer (some ⟨gn, 0, none⟩) := hR.vals 0 (by decide) (all_on hd ⟨0, Ground.data⟩ (by simp) rfl)
            have hK := hid (fun v9 A9 h1 (h3 : v9 = .pointer (some ⟨gn, 0, none⟩)) => hK0 v9 A9 W h1 (hR.pure (by decide) h3)); clear hK0
            clear hd
            simp only [putF]
            rw [hA, e0]
            go_frame
            go_wp2_with fail
            exact hK.out _ _ (by rw [hA]; simp only [putF]; rw [e0]; kernel_rfl) rfl
          · intro K L us W hK0 hL hd hR
            have e10 : us 10 = .pointer (some ⟨gn, 0, none⟩) := hR.vals 10 (by decide) (all_on hd ⟨10, Ground.data⟩ (by simp) rfl)
            have hK := hid (fun v9 A9 h1 (h3 : v9 = .pointer (some ⟨gn, 0, none⟩)) => hK0 v9 A9 W h1 (hR.pure (by decide) h3)); clear hK0
            clear hd
            simp only [putF]
            rw [hA, e10]
            go_frame
            go_wp2_with fail
            exact hK.out _ _ (by rw [hA]; simp only [putF]; rw [e10]; kernel_rfl) rfl
          · intro K L us W hK0 hL hd hR
            have e11 : us 11 = .pointer (some ⟨gn, 0, none⟩) := hR.vals 11 (by decide) (all_on hd ⟨11, Ground.data⟩ (by simp) rfl)
            have e1 : us 1 = .int .i64 0 := hR.vals 1 (by decide) (all_on hd ⟨1, Ground.data⟩ (by simp) rfl)
            have hK := hid (fun v9 A9 h1 (h3 : v9 = .pointer (some ⟨gn, 0, none⟩)) => hK0 v9 A9 W h1 (hR.pure (by decide) h3)); clear hK0
            clear hd
            simp only [putF]
            rw [hA, e11, e1]
            go_frame
            go_wp2_with fail
            exact hK.out _ _ (by rw [hA]; simp only [putF]; rw [e11, e1]; kernel_rfl) rfl
          · intro K L us W hK0 hL hd hR
            have e12 : us 12 = .pointer (some ⟨gn, 0, none⟩) := hR.vals 12 (by decide) (all_on hd ⟨12, Ground.data⟩ (by simp) rfl)
            have hS := hR.at 2 (by decide) (.inr ⟨by decide, all_on hd ⟨9, Ground.data⟩ (by simp) rfl⟩) hL
            have hK := hid (fun v9 A9 W9 h1 (hS' : (fun kk vv WW => (match kk with | 0 => WW.heap[gn]? = some (.cells #[.slice none 0 0, .slice none 0 0, .int .i64 (s0 : Int), .int .i64 (s1 : Int), .bool dn, .int .i64 lf] 74) | 1 => WW.heap[gn]? = some (.cells #[.slice none 0 0, .slice none 0 0, .int .i64 (s0 : Int), .int .i64 (s1 : Int), .bool dn, .int .i64 lf] 74) ∧ (∃ q, vv 0 = .slice (some ⟨q, 0, none⟩) 0 0) ∧ WW.ownsRow W3.heap.size 5 1 (vv 0) 0 [] | 2 => WW.heap[gn]? = some (.cells #[.slice none 0 0, .slice none 0 0, .int .i64 (s0 : Int), .int .i64 (s1 : Int), .bool dn, .int .i64 lf] 74) ∧ WW.ownsRow W3.heap.size 5 1 (vv 1) n0 (u8s b0) | _ => WW.heap[gn]? = some (.cells #[vv 1, .slice none 0 0, .int .i64 (s0 : Int), .int .i64 (s1 : Int), .bool dn, .int .i64 lf] 74) ∧ WW.ownsRow W3.heap.size 5 1 (vv 1) n0 (u8s b0)) ∧ DR WW B g dn lf ⟨.slice (some ad0) n0 d0, b0, s0⟩ ⟨.slice (some ad1) n1 d1, b1, s1⟩ ∧ Below w.heap.size w WW ∧ W3.heap.size ≤ WW.heap.size) 3 (fun j => if j = 2 then v9 else selV [2, 9, 13] us j) W9) => hK0 v9 A9 W9 h1 (hR.next (by decide) 2 (by decide) (.inr ⟨by decide, all_on hd ⟨9, Ground.data⟩ (by simp) rfl⟩) hL hS')); clear hK0
            obtain ⟨⟨hK4, hW4⟩, hD4, hB4, hz4⟩ := hS
            have K4 := hid hK4
            obtain ⟨v9, e9⟩ : ∃ v9, us 9 = v9 := ⟨_, rfl⟩
            have hW5 : W.ownsRow W3.heap.size 5 1 (us 9) n0 (u8s b0) := hW4
            rw [e9] at hW5
            have O4 := hid hW5
            obtain ⟨a9, c9, e99⟩ := own_slice hW5
            subst e99
            have D4 := hid hD4
            have B4 := hid hB4
            clear hD4 hB4 hK4 hW4 hW5
            have z1 : W.frozen? ⟨gn, 0, none⟩ = false := by have hh := K4.out; simp [World.frozen?, hh]
            have z0 : W.cell? ⟨gn, 0, none⟩ = some (.slice none 0 0) := (cell_row (j := 0) K4.out).trans rfl
            clear hd
            simp only [putF]
            rw [hA, e12, e9]
            go_frame
            go_wp2_with fail
            refine hK.out undef _ _ (by rw [hA]; simp only [putF]; rw [e12, e9]; kernel_rfl) ?_
            have hoth : ∀ k, k ≠ gn → (W.setCell ⟨gn, 0, none⟩ (.slice a9 n0 c9)).heap[k]? = W.heap[k]? := fun k hk => Below.heap_setCell W ⟨gn, 0, none⟩ _ k hk
            refine ⟨⟨?_, ?_⟩, D4.out.frame (F := fun k => k = gn) (Fr.set rfl) (fun k hk e => by have h1 := HFG.out k hk; omega), B4.out.setCell (p := ⟨gn, 0, none⟩) hge _, by simp; omega⟩
            · show _ = some (Obj.cells #[(us 9), .slice none 0 0, .int .i64 (s0 : Int), .int .i64 (s1 : Int), .bool dn, .int .i64 lf] 74)
              rw [e9]
              exact heap_setCell K4.out _
            · show World.ownsRow _ W3.heap.size 5 1 (us 9) n0 (u8s b0)
              rw [e9]
              exact own_same O4.out (fun k hk => hoth k (fun e => by have h1 := (O4.out.lt k hk).1; have h2 := hgk.out; omega))
        case htF011 =>
          intro L us X0 hall hR
          have hS := hR.last (fun i hi => match i, hi with | 0, _ => hall 2 (by decide) | 1, _ => hall 9 (by decide) | 2, _ => hall 13 (by decide))
          have e0 : us 0 = .pointer (some ⟨gn, 0, none⟩) := hR.vals 0 (by decide) (hall 0 (by decide))
          have e1 : us 1 = .int .i64 0 := hR.vals 1 (by decide) (hall 1 (by decide))
          have e3 : us 3 = .pointer (some ⟨g, 0, none⟩) := hR.vals 3 (by decide) (hall 3 (by decide))
          have e4 : us 4 = .int .i64 0 := hR.vals 4 (by decide) (hall 4 (by decide))
          have e5 : us 5 = .pointer (some ⟨g, 0, none⟩) := hR.vals 5 (by decide) (hall 5 (by decide))
          have e6 : us 6 = .pointer (some ⟨g, 0, none⟩) := hR.vals 6 (by decide) (hall 6 (by decide))
          have e7 : us 7 = .pointer (some ⟨g, 0, none⟩) := hR.vals 7 (by decide) (hall 7 (by decide))
          have e8 : us 8 = .slice (some ad0) n0 d0 := hR.vals 8 (by decide) (hall 8 (by decide))
          have e10 : us 10 = .pointer (some ⟨gn, 0, none⟩) := hR.vals 10 (by decide) (hall 10 (by decide))
          have e11 : us 11 = .pointer (some ⟨gn, 0, none⟩) := hR.vals 11 (by decide) (hall 11 (by decide))
          have e12 : us 12 = .pointer (some ⟨gn, 0, none⟩) := hR.vals 12 (by decide) (hall 12 (by decide))
          clear hR hall
          obtain ⟨⟨hK4, hW4⟩, hD4, hB4, hz4⟩ := hS
          obtain ⟨v2, e2⟩ : ∃ v2, us 2 = v2 := ⟨_, rfl⟩
          obtain ⟨v9, e9⟩ : ∃ v9, us 9 = v9 := ⟨_, rfl⟩
          have hK5 : X0.heap[gn]? = some (.cells #[(us 9), .slice none 0 0, .int .i64 (s0 : Int), .int .i64 (s1 : Int), .bool dn, .int .i64 lf] 74) := hK4
          have hW5 : X0.ownsRow W3.heap.size 5 1 (us 9) n0 (u8s b0) := hW4
          rw [e9] at hK5 hW5
          obtain ⟨p0, q0, e99⟩ := own_slice hW5
          subst e99
          have KN := hid hK5
          have HD := hid hD4
          have HB3 := hid hB4
          have hgk := hid (show gn < X0.heap.size from (Array.getElem?_eq_some_iff.1 hK5).1)
          have HO0 := hid hW5
          clear hK4 hK5 hD4 hB4 hW4 hW5
          simp only [putF]
          rw [hA, e2, e9, e0, e1, e3, e4, e5, e6, e7, e8, e10, e11, e12]
          go_frame
          clear hA e2 e9 e0 e1 e3 e4 e5 e6 e7 e8 e10 e11 e12
          go_wp2_with fail
          have HP0 := hid (fun k (hk : (Value.ownBlock (.slice p0 n0 q0)) = some k) => (HO0.out.lt k hk).2)
          have HPG := hid (fun k (hk : (Value.ownBlock (.slice p0 n0 q0)) = some k) => show k ≠ gn from fun e => by have h1 := (HO0.out.lt k hk).1; have h2 := HGK.out; omega)
          have HO0 := hid (own_low HO0.out HW0.out)
          have HFT := hid (fun k hk => show k < X0.heap.size from Nat.lt_of_lt_of_le (HFT.out k hk) hz4)
          have HW1 := hid (show w.heap.size ≤ X0.heap.size by have := HW0.out; omega)
          rw [rounds_succ]
          go_wp2_with fail
          refine gen_act (fun A0 hA => ?_)
          refine wp_region_by (by kernel_rfl) (by kernel_rfl) [some 22, some 23, some 24, some 25, some 26, some 27, some 28, some 29, some 30, some 31, some 32, some 33, some 34, none] rfl (by decide) (StR (fun j => ([.pointer (some ⟨gn, 0, none⟩), .int .i64 1, undef, .pointer (some ⟨g, 0, none⟩), .int .i64 1, .pointer (some ⟨g, 0, none⟩), .pointer (some ⟨g, 0, none⟩), .pointer (some ⟨g, 1, none⟩), .slice (some ad1) n1 d1, undef, .pointer (some ⟨gn, 0, none⟩), .pointer (some ⟨gn, 0, none⟩), .pointer (some ⟨gn, 1, none⟩), undef] : List Value).getD j undef) [2, 9, 13] (fun kk vv WW => (match kk with | 0 => WW.heap[gn]? = some (.cells #[.slice p0 n0 q0, .slice none 0 0, .int .i64 (s0 : Int), .int .i64 (s1 : Int), .bool dn, .int .i64 lf] 74) | 1 => WW.heap[gn]? = some (.cells #[.slice p0 n0 q0, .slice none 0 0, .int .i64 (s0 : Int), .int .i64 (s1 : Int), .bool dn, .int .i64 lf] 74) ∧ (∃ q, vv 0 = .slice (some ⟨q, 0, none⟩) 0 0) ∧ WW.ownsRow X0.heap.size 5 1 (vv 0) 0 [] | 2 => WW.heap[gn]? = some (.cells #[.slice p0 n0 q0, .slice none 0 0, .int .i64 (s0 : Int), .int .i64 (s1 : Int), .bool dn, .int .i64 lf] 74) ∧ WW.ownsRow X0.heap.size 5 1 (vv 1) n1 (u8s b1) | _ => WW.heap[gn]? = some (.cells #[.slice p0 n0 q0, vv 1, .int .i64 (s0 : Int), .int .i64 (s1 : Int), .bool dn, .int .i64 lf] 74) ∧ WW.ownsRow X0.heap.size 5 1 (vv 1) n1 (u8s b1)) ∧ DR WW B g dn lf ⟨.slice (some ad0) n0 d0, b0, s0⟩ ⟨.slice (some ad1) n1 d1, b1, s1⟩ ∧ Below w.heap.size w WW ∧ X0.heap.size ≤ WW.heap.size ∧ WW.ownsRow w.heap.size 5 1 (.slice p0 n0 q0) n0 (u8s b0))) (selfF A0 _) (putF_self A0 _)
            (StR.start ⟨(((Below.refl _ _).drew).block _ hgk.out).trans KN.out, HD.out.still (Below.refl _ _).drew, HB3.out.drew, ((Below.refl X0.heap.size X0).drew).size, own_same HO0.out (fun k hk => ((Below.refl X0.heap.size X0).drew).block k (HO0.out.lt k hk).2)⟩ (fun _ => rfl)) ?hsF111 ?htF111
          case hsF111 =>
            refine ⟨?_, ?_, ?_, ?_, ?_, ?_, ?_, ?_, ?_, ?_, ?_, ?_, ?_, ?_, trivial⟩
            · intro K L us W hK0 hL hd hR
              have hK := hid (fun v9 A9 h1 (h3 : v9 = .pointer (some ⟨gn, 0, none⟩)) => hK0 v9 A9 W h1 (hR.pure (by decide) h3)); clear hK0
              clear hd
              simp only [putF]
              rw [hA]
              go_frame
              go_wp2_with fail
              exact hK.out _ _ (by rw [hA]; simp only [putF]; kernel_rfl) rfl
            · intro K L us W hK0 hL hd hR
              have hK := hid (fun v9 A9 h1 (h3 : v9 = .int .i64 1) => hK0 v9 A9 W h1 (hR.pure (by decide) h3)); clear hK0
              clear hd
              simp only [putF]
              rw [hA]
              go_frame
              go_wp2_with fail
              exact hK.out _ _ (by rw [hA]; simp only [putF]; kernel_rfl) rfl
            · intro K L us W hK0 hL hd hR
              have hS := hR.at 0 (by decide) (.inl rfl) hL
              have hK := hid (fun v9 A9 W9 h1 (hS' : (fun kk vv WW => (match kk with | 0 => WW.heap[gn]? = some (.cells #[.slice p0 n0 q0, .slice none 0 0, .int .i64 (s0 : Int), .int .i64 (s1 : Int), .bool dn, .int .i64 lf] 74) | 1 => WW.heap[gn]? = some (.cells #[.slice p0 n0 q0, .slice none 0 0, .int .i64 (s0 : Int), .int .i64 (s1 : Int), .bool dn, .int .i64 lf] 74) ∧ (∃ q, vv 0 = .slice (some ⟨q, 0, none⟩) 0 0) ∧ WW.ownsRow X0.heap.size 5 1 (vv 0) 0 [] | 2 => WW.heap[gn]? = some (.cells #[.slice p0 n0 q0, .slice none 0 0, .int .i64 (s0 : Int), .int .i64 (s1 : Int), .bool dn, .int .i64 lf] 74) ∧ WW.ownsRow X0.heap.size 5 1 (vv 1) n1 (u8s b1) | _ => WW.heap[gn]? = some (.cells #[.slice p0 n0 q0, vv 1, .int .i64 (s0 : Int), .int .i64 (s1 : Int), .bool dn, .int .i64 lf] 74) ∧ WW.ownsRow X0.heap.size 5 1 (vv 1) n1 (u8s b1)) ∧ DR WW B g dn lf ⟨.slice (some ad0) n0 d0, b0, s0⟩ ⟨.slice (some ad1) n1 d1, b1, s1⟩ ∧ Below w.heap.size w WW ∧ X0.heap.size ≤ WW.heap.size ∧ WW.ownsRow w.heap.size 5 1 (.slice p0 n0 q0) n0 (u8s b0)) 1 (fun j => if j = 0 then v9 else selV [2, 9, 13] us j) W9) => hK0 v9 A9 W9 h1 (hR.next (by decide) 0 (by decide) (.inl rfl) hL hS')); clear hK0
              obtain ⟨hK4, hD4, hB4, hz4, hO4⟩ := hS
              have K4 := hid hK4
              have D4 := hid hD4
              have B4 := hid hB4
              have P4 := hid hO4
              clear hD4 hB4 hO4 hK4
              clear hd
              simp only [putF]
              rw [hA]
              go_frame
              go_wp2_with fail
              refine hK.out (.slice (some ⟨W.heap.size, 0, none⟩) 0 0) _ _ (by rw [hA]; simp only [putF]; kernel_rfl) ?_
              exact ⟨⟨heap_still ((Below.refl W.heap.size W).alloc (Nat.le_refl _) (.cells #[] 5)) K4.out, ⟨_, rfl⟩, World.ownsRow_lit (base := X0.heap.size) W #[] 0 hz4 (by unfold maxLen; omega) rfl⟩, D4.out.still ((Below.refl W.heap.size W).alloc (Nat.le_refl _) (.cells #[] 5)), B4.out.trans (((Below.refl W.heap.size W).alloc (Nat.le_refl _) (.cells #[] 5)).mono B4.out.size), by simp; omega, own_same P4.out (fun k hk => ((Below.refl W.heap.size W).alloc (Nat.le_refl _) (.cells #[] 5)).block k (P4.out.lt k hk).2)⟩
            · intro K L us W hK0 hL hd hR
              have hK := hid (fun v9 A9 h1 (h3 : v9 = .pointer (some ⟨g, 0, none⟩)) => hK0 v9 A9 W h1 (hR.pure (by decide) h3)); clear hK0
              clear hd
              simp only [putF]
              rw [hA]
              go_frame
              go_wp2_with fail
              exact hK.out _ _ (by rw [hA]; simp only [putF]; kernel_rfl) rfl
            · intro K L us W hK0 hL hd hR
              have hK := hid (fun v9 A9 h1 (h3 : v9 = .int .i64 1) => hK0 v9 A9 W h1 (hR.pure (by decide) h3)); clear hK0
              clear hd
              simp only [putF]
              rw [hA]
              go_frame
              go_wp2_with fail
              exact hK.out _ _ (by rw [hA]; simp only [putF]; kernel_rfl) rfl
            · intro K L us W hK0 hL hd hR
              have e3 : us 3 = .pointer (some ⟨g, 0, none⟩) := hR.vals 3 (by decide) (all_on hd ⟨3, Ground.data⟩ (by simp) rfl)
              have hK := hid (fun v9 A9 h1 (h3 : v9 = .pointer (some ⟨g, 0, none⟩)) => hK0 v9 A9 W h1 (hR.pure (by decide) h3)); clear hK0
              clear hd
              simp only [putF]
              rw [hA, e3]
              go_frame
              go_wp2_with fail
              exact hK.out _ _ (by rw [hA]; simp only [putF]; rw [e3]; kernel_rfl) rfl
            · intro K L us W hK0 hL hd hR
              have e5 : us 5 = .pointer (some ⟨g, 0, none⟩) := hR.vals 5 (by decide) (all_on hd ⟨5, Ground.data⟩ (by simp) rfl)
              have hK := hid (fun v9 A9 h1 (h3 : v9 = .pointer (some ⟨g, 0, none⟩)) => hK0 v9 A9 W h1 (hR.pure (by decide) h3)); clear hK0
              clear hd
              simp only [putF]
              rw [hA, e5]
              go_frame
              go_wp2_with fail
              exact hK.out _ _ (by rw [hA]; simp only [putF]; rw [e5]; kernel_rfl) rfl
            · intro K L us W hK0 hL hd hR
              have e6 : us 6 = .pointer (some ⟨g, 0, none⟩) := hR.vals 6 (by decide) (all_on hd ⟨6, Ground.data⟩ (by simp) rfl)
              have e4 : us 4 = .int .i64 1 := hR.vals 4 (by decide) (all_on hd ⟨4, Ground.data⟩ (by simp) rfl)
              have hK := hid (fun v9 A9 h1 (h3 : v9 = .pointer (some ⟨g, 1, none⟩)) => hK0 v9 A9 W h1 (hR.pure (by decide) h3)); clear hK0
              clear hd
              simp only [putF]
              rw [hA, e6, e4]
              go_frame
              go_wp2_with fail
              exact hK.out _ _ (by rw [hA]; simp only [putF]; rw [e6, e4]; kernel_rfl) rfl
            · intro K L us W hK0 hL hd hR
              have e7 : us 7 = .pointer (some ⟨g, 1, none⟩) := hR.vals 7 (by decide) (all_on hd ⟨7, Ground.data⟩ (by simp) rfl)
              have hK := hid (fun v9 A9 h1 (h3 : v9 = .slice (some ad1) n1 d1) => hK0 v9 A9 W h1 (hR.pure (by decide) h3)); clear hK0
              have hst := hR.st
              obtain ⟨kq, _, _, hSq⟩ := hst
              have hD4 : DR W B g dn lf ⟨.slice (some ad0) n0 d0, b0, s0⟩ ⟨.slice (some ad1) n1 d1, b1, s1⟩ := hSq.2.1
              have z0 : W.cell? ⟨g, 1, none⟩ = some (.slice (some ad1) n1 d1) := hD4.c1
              clear hSq hD4
              clear hd
              simp only [putF]
              rw [hA, e7]
              go_frame
              go_wp2_with fail
              exact hK.out _ _ (by rw [hA]; simp only [putF]; rw [e7]; kernel_rfl) rfl
            · intro K L us W hK0 hL hd hR
              have e8 : us 8 = .slice (some ad1) n1 d1 := hR.vals 8 (by decide) (all_on hd ⟨8, Ground.data⟩ (by simp) rfl)
              have hS := hR.at 1 (by decide) (.inr ⟨by decide, all_on hd ⟨2, Ground.data⟩ (by simp) rfl⟩) hL
              have hK := hid (fun v9 A9 W9 h1 (hS' : (fun kk vv WW => (match kk with | 0 => WW.heap[gn]? = some (.cells #[.slice p0 n0 q0, .slice none 0 0, .int .i64 (s0 : Int), .int .i64 (s1 : Int), .bool dn, .int .i64 lf] 74) | 1 => WW.heap[gn]? = some (.cells #[.slice p0 n0 q0, .slice none 0 0, .int .i64 (s0 : Int), .int .i64 (s1 : Int), .bool dn, .int .i64 lf] 74) ∧ (∃ q, vv 0 = .slice (some ⟨q, 0, none⟩) 0 0) ∧ WW.ownsRow X0.heap.size 5 1 (vv 0) 0 [] | 2 => WW.heap[gn]? = some (.cells #[.slice p0 n0 q0, .slice none 0 0, .int .i64 (s0 : Int), .int .i64 (s1 : Int), .bool dn, .int .i64 lf] 74) ∧ WW.ownsRow X0.heap.size 5 1 (vv 1) n1 (u8s b1) | _ => WW.heap[gn]? = some (.cells #[.slice p0 n0 q0, vv 1, .int .i64 (s0 : Int), .int .i64 (s1 : Int), .bool dn, .int .i64 lf] 74) ∧ WW.ownsRow X0.heap.size 5 1 (vv 1) n1 (u8s b1)) ∧ DR WW B g dn lf ⟨.slice (some ad0) n0 d0, b0, s0⟩ ⟨.slice (some ad1) n1 d1, b1, s1⟩ ∧ Below w.heap.size w WW ∧ X0.heap.size ≤ WW.heap.size ∧ WW.ownsRow w.heap.size 5 1 (.slice p0 n0 q0) n0 (u8s b0)) 2 (fun j => if j = 1 then v9 else selV [2, 9, 13] us j) W9) => hK0 v9 A9 W9 h1 (hR.next (by decide) 1 (by decide) (.inr ⟨by decide, all_on hd ⟨2, Ground.data⟩ (by simp) rfl⟩) hL hS')); clear hK0
              obtain ⟨⟨hK4, ⟨q, hq⟩, hW4⟩, hD4, hB4, hz4, hO4⟩ := hS
              have K4 := hid hK4
              have e2 : us 2 = .slice (some ⟨q, 0, none⟩) 0 0 := hq
              have hW5 : W.ownsRow X0.heap.size 5 1 (us 2) 0 [] := hW4
              rw [e2] at hW5
              have O4 := hid hW5
              have D4 := hid hD4
              have B4 := hid hB4
              have P4 := hid hO4
              clear hD4 hB4 hO4 hK4 hW4 hW5 hq
              have HC4 := hid (show ∀ j u, (u8s b1)[j]? = some u → W.cell? (ad1.add j) = some u from by rcases own_rdb (show W.ownsRow B 5 1 (.slice (some ad1) n1 d1) b1.length (u8s b1) from D4.out.o1) with ⟨e, _⟩ | ⟨ad9, c9, e, h9⟩; (· injection e with e; exact absurd e (by simp)); (· injection e with e; injection e with e; subst e; exact h9))
              clear hd
              simp only [putF]
              rw [hA, e8, e2]
              go_frame
              go_wp2_with (first | (at_builtin; go_loud (refine wpList_append_own_at _ rfl (.tmp 24) (.tmp 30) 70 rfl X0.heap.size 5 i0 (.int .u8 0) 1 1 Try.underlying70 HI.out HZ0.out HZ1.out HZ2.out rfl (by decide) _ 0 [] rfl O4.out ad1 n1 d1 (u8s b1) rfl (by simp [u8s, HN1.out]) (fun j u hu => HC4.out j u hu) (u8s_one _) (by unfold maxLen; omega) (by omega) (by omega) ?_; intro v7 w7 ho1 ho2 ho3 ho4; clear ho3; simp only [Nat.zero_add, List.nil_append] at ho1; have HO1 := hid ho1; have HO2 := hid ho2; clear ho1 ho2 ho4)))
              refine hK.out v7 _ _ (by rw [hA]; simp only [putF]; rw [e8, e2]; kernel_rfl) ?_
              have hlt4 : ∀ k, some k = some q → X0.heap.size ≤ k := fun k hk => (O4.out.lt k hk.symm).1
              have hbk : ∀ k, k < X0.heap.size → w7.heap[k]? = W.heap[k]? := fun k hk => HO2.out.block k (by omega) (fun e => by have h1 := hlt4 k e; omega)
              have hfr : Fr (fun k => k = q) W w7 := Fr.grown HO2.out (fun k hk => by injection hk with hk; exact hk.symm)
              have hqz := hlt4 q rfl
              refine ⟨⟨(hbk gn hgk.out).trans K4.out, HO1.out⟩, D4.out.frame hfr (fun k hk e => by have h1 := HFT.out k hk; omega), ⟨HO2.out.os.trans B4.out.os, HO2.out.tape.trans B4.out.tape, HO2.out.output.trans B4.out.output, Nat.le_trans B4.out.size HO2.out.size, fun k hk => (hbk k (by have := HW1.out; omega)).trans (B4.out.block k hk)⟩, by have := HO2.out.size; omega, own_same P4.out (fun k hk => hbk k (HP0.out k hk))⟩
            · intro K L us W hK0 hL hd hR
              have e0 : us 0 = .pointer (some ⟨gn, 0, none⟩) := hR.vals 0 (by decide) (all_on hd ⟨0, Ground.data⟩ (by simp) rfl)
              have hK := hid (fun v9 A9 h1 (h3 : v9 = .pointer (some ⟨gn, 0, none⟩)) => hK0 v9 A9 W h1 (hR.pure (by decide) h3)); clear hK0
              clear hd
              simp only [putF]
              rw [hA, e0]
              go_frame
              go_wp2_with fail
              exact hK.out _ _ (by rw [hA]; simp only [putF]; rw [e0]; kernel_rfl) rfl
            · intro K L us W hK0 hL hd hR
              have e10 : us 10 = .pointer (some ⟨gn, 0, none⟩) := hR.vals 10 (by decide) (all_on hd ⟨10, Ground.data⟩ (by simp) rfl)
              have hK := hid (fun v9 A9 h1 (h3 : v9 = .pointer (some ⟨gn, 0, none⟩)) => hK0 v9 A9 W h1 (hR.pure (by decide) h3)); clear hK0
              clear hd
              simp only [putF]
              rw [hA, e10]
              go_frame
              go_wp2_with fail
              exact hK.out _ _ (by rw [hA]; simp only [putF]; rw [e10]; kernel_rfl) rfl
            · intro K L us W hK0 hL hd hR
              have e11 : us 11 = .pointer (some ⟨gn, 0, none⟩) := hR.vals 11 (by decide) (all_on hd ⟨11, Ground.data⟩ (by simp) rfl)
              have e1 : us 1 = .int .i64 1 := hR.vals 1 (by decide) (all_on hd ⟨1, Ground.data⟩ (by simp) rfl)
              have hK := hid (fun v9 A9 h1 (h3 : v9 = .pointer (some ⟨gn, 1, none⟩)) => hK0 v9 A9 W h1 (hR.pure (by decide) h3)); clear hK0
              clear hd
              simp only [putF]
              rw [hA, e11, e1]
              go_frame
              go_wp2_with fail
              exact hK.out _ _ (by rw [hA]; simp only [putF]; rw [e11, e1]; kernel_rfl) rfl
            · intro K L us W hK0 hL hd hR
              have e12 : us 12 = .pointer (some ⟨gn, 1, none⟩) := hR.vals 12 (by decide) (all_on hd ⟨12, Ground.data⟩ (by simp) rfl)
              have hS := hR.at 2 (by decide) (.inr ⟨by decide, all_on hd ⟨9, Ground.data⟩ (by simp) rfl⟩) hL
              have hK := hid (fun v9 A9 W9 h1 (hS' : (fun kk vv WW => (match kk with | 0 => WW.heap[gn]? = some (.cells #[.slice p0 n0 q0, .slice none 0 0, .int .i64 (s0 : Int), .int .i64 (s1 : Int), .bool dn, .int .i64 lf] 74) | 1 => WW.heap[gn]? = some (.cells #[.slice p0 n0 q0, .slice none 0 0, .int .i64 (s0 : Int), .int .i64 (s1 : Int), .bool dn, .int .i64 lf] 74) ∧ (∃ q, vv 0 = .slice (some ⟨q, 0, none⟩) 0 0) ∧ WW.ownsRow X0.heap.size 5 1 (vv 0) 0 [] | 2 => WW.heap[gn]? = some (.cells #[.slice p0 n0 q0, .slice none 0 0, .int .i64 (s0 : Int), .int .i64 (s1 : Int), .bool dn, .int .i64 lf] 74) ∧ WW.ownsRow X0.heap.size 5 1 (vv 1) n1 (u8s b1) | _ => WW.heap[gn]? = some (.cells #[.slice p0 n0 q0, vv 1, .int .i64 (s0 : Int), .int .i64 (s1 : Int), .bool dn, .int .i64 lf] 74) ∧ WW.ownsRow X0.heap.size 5 1 (vv 1) n1 (u8s b1)) ∧ DR WW B g dn lf ⟨.slice (some ad0) n0 d0, b0, s0⟩ ⟨.slice (some ad1) n1 d1, b1, s1⟩ ∧ Below w.heap.size w WW ∧ X0.heap.size ≤ WW.heap.size ∧ WW.ownsRow w.heap.size 5 1 (.slice p0 n0 q0) n0 (u8s b0)) 3 (fun j => if j = 2 then v9 else selV [2, 9, 13] us j) W9) => hK0 v9 A9 W9 h1 (hR.next (by decide) 2 (by decide) (.inr ⟨by decide, all_on hd ⟨9, Ground.data⟩ (by simp) rfl⟩) hL hS')); clear hK0
              obtain ⟨⟨hK4, hW4⟩, hD4, hB4, hz4, hO4⟩ := hS
              have K4 := hid hK4
              obtain ⟨v9, e9⟩ : ∃ v9, us 9 = v9 := ⟨_, rfl⟩
              have hW5 : W.ownsRow X0.heap.size 5 1 (us 9) n1 (u8s b1) := hW4
              rw [e9] at hW5
              have O4 := hid hW5
              obtain ⟨a9, c9, e99⟩ := own_slice hW5
              subst e99
              have D4 := hid hD4
              have B4 := hid hB4
              have P4 := hid hO4
              clear hD4 hB4 hO4 hK4 hW4 hW5
              have z1 : W.frozen? ⟨gn, 1, none⟩ = false := by have hh := K4.out; simp [World.frozen?, hh]
              have z0 : W.cell? ⟨gn, 1, none⟩ = some (.slice none 0 0) := (cell_row (j := 1) K4.out).trans rfl
              clear hd
              simp only [putF]
              rw [hA, e12, e9]
              go_frame
              go_wp2_with fail
              refine hK.out undef _ _ (by rw [hA]; simp only [putF]; rw [e12, e9]; kernel_rfl) ?_
              have hoth : ∀ k, k ≠ gn → (W.setCell ⟨gn, 1, none⟩ (.slice a9 n1 c9)).heap[k]? = W.heap[k]? := fun k hk => Below.heap_setCell W ⟨gn, 1, none⟩ _ k hk
              refine ⟨⟨?_, ?_⟩, D4.out.frame (F := fun k => k = gn) (Fr.set rfl) (fun k hk e => by have h1 := HFG.out k hk; omega), B4.out.setCell (p := ⟨gn, 1, none⟩) hge _, by simp; omega, own_same P4.out (fun k hk => hoth k (fun e => HPG.out k hk e))⟩
              · show _ = some (Obj.cells #[.slice p0 n0 q0, (us 9), .int .i64 (s0 : Int), .int .i64 (s1 : Int), .bool dn, .int .i64 lf] 74)
                rw [e9]
                exact heap_setCell K4.out _
              · show World.ownsRow _ X0.heap.size 5 1 (us 9) n1 (u8s b1)
                rw [e9]
                exact own_same O4.out (fun k hk => hoth k (fun e => by have h1 := (O4.out.lt k hk).1; have h2 := hgk.out; omega))
          case htF111 =>
            intro L us X1 hall hR
            have hS := hR.last (fun i hi => match i, hi with | 0, _ => hall 2 (by decide) | 1, _ => hall 9 (by decide) | 2, _ => hall 13 (by decide))
            have e0 : us 0 = .pointer (some ⟨gn, 0, none⟩) := hR.vals 0 (by decide) (hall 0 (by decide))
            have e1 : us 1 = .int .i64 1 := hR.vals 1 (by decide) (hall 1 (by decide))
            have e3 : us 3 = .pointer (some ⟨g, 0, none⟩) := hR.vals 3 (by decide) (hall 3 (by decide))
            have e4 : us 4 = .int .i64 1 := hR.vals 4 (by decide) (hall 4 (by decide))
            have e5 : us 5 = .pointer (some ⟨g, 0, none⟩) := hR.vals 5 (by decide) (hall 5 (by decide))
            have e6 : us 6 = .pointer (some ⟨g, 0, none⟩) := hR.vals 6 (by decide) (hall 6 (by decide))
            have e7 : us 7 = .pointer (some ⟨g, 1, none⟩) := hR.vals 7 (by decide) (hall 7 (by decide))
            have e8 : us 8 = .slice (some ad1) n1 d1 := hR.vals 8 (by decide) (hall 8 (by decide))
            have e10 : us 10 = .pointer (some ⟨gn, 0, none⟩) := hR.vals 10 (by decide) (hall 10 (by decide))
            have e11 : us 11 = .pointer (some ⟨gn, 0, none⟩) := hR.vals 11 (by decide) (hall 11 (by decide))
            have e12 : us 12 = .pointer (some ⟨gn, 1, none⟩) := hR.vals 12 (by decide) (hall 12 (by decide))
            clear hR hall
            obtain ⟨⟨hK4, hW4⟩, hD4, hB4, hz4, hO4⟩ := hS
            obtain ⟨v2, e2⟩ : ∃ v2, us 2 = v2 := ⟨_, rfl⟩
            obtain ⟨v9, e9⟩ : ∃ v9, us 9 = v9 := ⟨_, rfl⟩
            have hK5 : X1.heap[gn]? = some (.cells #[.slice p0 n0 q0, (us 9), .int .i64 (s0 : Int), .int .i64 (s1 : Int), .bool dn, .int .i64 lf] 74) := hK4
            have hW5 : X1.ownsRow X0.heap.size 5 1 (us 9) n1 (u8s b1) := hW4
            rw [e9] at hK5 hW5
            obtain ⟨p1, q1, e99⟩ := own_slice hW5
            subst e99
            have KN := hid hK5
            have HD := hid hD4
            have HB3 := hid hB4
            have hgk := hid (show gn < X1.heap.size from (Array.getElem?_eq_some_iff.1 hK5).1)
            have HO1 := hid hW5
            clear hK4 hK5 hD4 hB4 hW4 hW5
            have HO0 := hid hO4
            clear hO4
            simp only [putF]
            rw [hA, e2, e9, e0, e1, e3, e4, e5, e6, e7, e8, e10, e11, e12]
            go_frame
            clear hA e2 e9 e0 e1 e3 e4 e5 e6 e7 e8 e10 e11 e12
            go_wp2_with fail
            (try rw [rounds_succ])
            go_wp2_with fail
            go_ret
            refine ⟨⟨gn, .slice p0 n0 q0, .slice p1 n1 q1, rfl, KN.out, hge, (by rw [← HN0.out]; exact HO0.out), show X1.ownsRow w.heap.size 5 1 (.slice p1 n1 q1) (b1 : List Nat).length (u8s b1) from (by rw [← HN1.out]; exact own_low HO1.out HW1.out), fun e => HPG.out gn e rfl, fun e => by have h1 := (HO1.out.lt gn e).1; have h2 := HGK.out; omega, fun k hk e => ?_⟩, HB3.out⟩
            have h1 := (HO1.out.lt k e).1
            have h2 := HP0.out k hk
            omega
end Go.Proofs.Yteanlcefdoigcaa
