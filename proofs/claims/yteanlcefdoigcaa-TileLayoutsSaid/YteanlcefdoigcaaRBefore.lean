/- The reference's Before (57): the order of keys. -/
import Derived.Test.YteanlcefdoigcaaBoxes
import Derived.Test.YteanlcefdoigcaaRSort
namespace Go.Proofs.Yteanlcefdoigcaa
open Go.RowKit Go.Sort

instance (a b : Ky) : Decidable (a.lt b) := by unfold Ky.lt; infer_instance
theorem size136 : (Try.prog.info? 136).map (·.size) = some 4 := by kernel_rfl
set_option maxRecDepth 100000 in
set_option maxHeartbeats 1600000 in
theorem before_any (a b : Ky) (w : World) : Calls Try.prog 57 #[.agg a.row.toArray, .agg b.row.toArray] w fun r w' => r = .returned (.bool (decide (a.lt b))) ∧ Below w.heap.size w w' := by
  obtain ⟨aL, ax, ay, az⟩ := a
  obtain ⟨bL, bx, b_y, bz⟩ := b
  have HV := hid (show Ky.lt ⟨aL, ax, ay, az⟩ ⟨bL, bx, b_y, bz⟩ ↔ (aL < bL ∨ (aL = bL ∧ (ax < bx ∨ (ax = bx ∧ (ay < b_y ∨ (ay = b_y ∧ az < bz)))))) from Iff.rfl)
  simp only [Ky.row]
  generalize hr : decide (Ky.lt ⟨aL, ax, ay, az⟩ ⟨bL, bx, b_y, bz⟩) = r
  have HR := hid hr
  clear hr
  go_enter Try.func57, Try.ntmps57
  go_upto_region 1 with fail
  refine gen_world (fun W0 hW => ?_)
  have HB0 := hid (show Below w.heap.size w W0 by rw [hW]; (repeat' (first | (with_reducible exact Below.refl _ _) | (with_reducible assumption) | (with_reducible refine Below.alloc ?_ ?_ _) | (with_reducible refine Below.drew ?_) | (with_reducible refine below_drewN ?_ _) | (with_reducible refine Below.setCell ?_ ?_ _) | (with_reducible refine below_setRow ?_ ?_ _) | go_size)))
  have AK := hid (show W0.heap[w.heap.size]? = some (.cells #[.int .i64 aL, .int .i64 ax, .int .i64 ay, .int .i64 az] 39) by rw [hW]; exact (by repeat' (first | (refine heap_alloc_at _ _ _ ?_; (first | rfl | (simp; done) | (simp; omega))) | (refine heap_alloc_past _ _ _ _ ?_))))
  have BK := hid (show W0.heap[w.heap.size + 1]? = some (.cells #[.int .i64 bL, .int .i64 bx, .int .i64 b_y, .int .i64 bz] 39) by rw [hW]; exact (by repeat' (first | (refine heap_alloc_at _ _ _ ?_; (first | rfl | (simp; done) | (simp; omega))) | (refine heap_alloc_past _ _ _ _ ?_))))
  clear hW
  refine gen_act (fun A0 hA => ?_)
  refine wp_region_by (by kernel_rfl) (by kernel_rfl) [some 8, some 9, some 10, some 11, some 12, some 13, some 14, some 15, some 16, some 17, some 18, some 19, some 20, some 21, some 22, some 23, some 24, some 25, some 5, some 6, none, none] rfl (by decide) (BoxR W0 18 2 (fun j => [.pointer (some ⟨w.heap.size, 0, none⟩), .int .i64 aL, .pointer (some ⟨w.heap.size, 1, none⟩), .int .i64 ax, .pointer (some ⟨w.heap.size, 2, none⟩), .int .i64 ay, .pointer (some ⟨w.heap.size, 3, none⟩), .int .i64 az, .agg #[.int .i64 aL, .int .i64 ax, .int .i64 ay, .int .i64 az], .pointer (some ⟨w.heap.size + 1, 0, none⟩), .int .i64 bL, .pointer (some ⟨w.heap.size + 1, 1, none⟩), .int .i64 bx, .pointer (some ⟨w.heap.size + 1, 2, none⟩), .int .i64 b_y, .pointer (some ⟨w.heap.size + 1, 3, none⟩), .int .i64 bz, .agg #[.int .i64 bL, .int .i64 bx, .int .i64 b_y, .int .i64 bz]].getD j undef) (fun i => [#[.int .i64 0, .int .i64 0, .int .i64 0, .int .i64 0], #[.int .i64 0, .int .i64 0, .int .i64 0, .int .i64 0]].getD i #[]) (fun i => [#[.int .i64 aL, .int .i64 ax, .int .i64 ay, .int .i64 az], #[.int .i64 bL, .int .i64 bx, .int .i64 b_y, .int .i64 bz]].getD i #[]) (fun i => ([136, 136] : List Nat).getD i 0)) (selfF A0 _) (putF_self A0 _) BoxR.start ?hs1_1_W1 ?hend_1_W1
  case hs1_1_W1 =>
    refine ⟨?_, ?_, ?_, ?_, ?_, ?_, ?_, ?_, ?_, ?_, ?_, ?_, ?_, ?_, ?_, ?_, ?_, ?_, ?_, ?_, ?_, ?_, trivial⟩
    · intro K L us W hK0 hL hd hR
      have hK := hid (fun v A' W' h1 h2 h3 => hK0 v A' W' h1 (hR.pure (k := 0) (by decide) h2 h3)); clear hK0
      (try simp [Region.binds] at hd)
      have hB := hR.grow
      have GB := hid hB
      clear hd hR hB
      simp only [putF]
      rw [hA]
      go_frame
      go_wp2_with fail
      exact hK.out _ _ _ (by rw [hA]; simp only [putF]; kernel_rfl) (Below.refl _ _) rfl
    · intro K L us W hK0 hL hd hR
      have hK := hid (fun v A' W' h1 h2 h3 => hK0 v A' W' h1 (hR.pure (k := 1) (by decide) h2 h3)); clear hK0
      (try simp [Region.binds] at hd)
      have hB := hR.grow
      have GB := hid hB
      have e0 : us 0 = .pointer (some ⟨w.heap.size, 0, none⟩) := hR.vals 0 (by decide) (by first | exact hd | exact hd.1 | exact hd.2.1 | simp_all)
      have G0 := hid (heap_still hB AK.out)
      have c0 : W.cell? ⟨w.heap.size, 0, none⟩ = some (.int .i64 aL) := (cell_row (j := 0) G0.out).trans rfl
      clear hd hR hB
      simp only [putF]
      rw [hA, e0]
      go_frame
      go_wp2_with fail
      exact hK.out _ _ _ (by rw [hA]; simp only [putF]; rw [e0]; kernel_rfl) (Below.refl _ _) rfl
    · intro K L us W hK0 hL hd hR
      have hK := hid (fun v A' W' h1 h2 h3 => hK0 v A' W' h1 (hR.pure (k := 2) (by decide) h2 h3)); clear hK0
      (try simp [Region.binds] at hd)
      have hB := hR.grow
      have GB := hid hB
      clear hd hR hB
      simp only [putF]
      rw [hA]
      go_frame
      go_wp2_with fail
      exact hK.out _ _ _ (by rw [hA]; simp only [putF]; kernel_rfl) (Below.refl _ _) rfl
    · intro K L us W hK0 hL hd hR
      have hK := hid (fun v A' W' h1 h2 h3 => hK0 v A' W' h1 (hR.pure (k := 3) (by decide) h2 h3)); clear hK0
      (try simp [Region.binds] at hd)
      have hB := hR.grow
      have GB := hid hB
      have e2 : us 2 = .pointer (some ⟨w.heap.size, 1, none⟩) := hR.vals 2 (by decide) (by first | exact hd | exact hd.1 | exact hd.2.1 | simp_all)
      have G0 := hid (heap_still hB AK.out)
      have c0 : W.cell? ⟨w.heap.size, 1, none⟩ = some (.int .i64 ax) := (cell_row (j := 1) G0.out).trans rfl
      clear hd hR hB
      simp only [putF]
      rw [hA, e2]
      go_frame
      go_wp2_with fail
      exact hK.out _ _ _ (by rw [hA]; simp only [putF]; rw [e2]; kernel_rfl) (Below.refl _ _) rfl
    · intro K L us W hK0 hL hd hR
      have hK := hid (fun v A' W' h1 h2 h3 => hK0 v A' W' h1 (hR.pure (k := 4) (by decide) h2 h3)); clear hK0
      (try simp [Region.binds] at hd)
      have hB := hR.grow
      have GB := hid hB
      clear hd hR hB
      simp only [putF]
      rw [hA]
      go_frame
      go_wp2_with fail
      exact hK.out _ _ _ (by rw [hA]; simp only [putF]; kernel_rfl) (Below.refl _ _) rfl
    · intro K L us W hK0 hL hd hR
      have hK := hid (fun v A' W' h1 h2 h3 => hK0 v A' W' h1 (hR.pure (k := 5) (by decide) h2 h3)); clear hK0
      (try simp [Region.binds] at hd)
      have hB := hR.grow
      have GB := hid hB
      have e4 : us 4 = .pointer (some ⟨w.heap.size, 2, none⟩) := hR.vals 4 (by decide) (by first | exact hd | exact hd.1 | exact hd.2.1 | simp_all)
      have G0 := hid (heap_still hB AK.out)
      have c0 : W.cell? ⟨w.heap.size, 2, none⟩ = some (.int .i64 ay) := (cell_row (j := 2) G0.out).trans rfl
      clear hd hR hB
      simp only [putF]
      rw [hA, e4]
      go_frame
      go_wp2_with fail
      exact hK.out _ _ _ (by rw [hA]; simp only [putF]; rw [e4]; kernel_rfl) (Below.refl _ _) rfl
    · intro K L us W hK0 hL hd hR
      have hK := hid (fun v A' W' h1 h2 h3 => hK0 v A' W' h1 (hR.pure (k := 6) (by decide) h2 h3)); clear hK0
      (try simp [Region.binds] at hd)
      have hB := hR.grow
      have GB := hid hB
      clear hd hR hB
      simp only [putF]
      rw [hA]
      go_frame
      go_wp2_with fail
      exact hK.out _ _ _ (by rw [hA]; simp only [putF]; kernel_rfl) (Below.refl _ _) rfl
    · intro K L us W hK0 hL hd hR
      have hK := hid (fun v A' W' h1 h2 h3 => hK0 v A' W' h1 (hR.pure (k := 7) (by decide) h2 h3)); clear hK0
      (try simp [Region.binds] at hd)
      have hB := hR.grow
      have GB := hid hB
      have e6 : us 6 = .pointer (some ⟨w.heap.size, 3, none⟩) := hR.vals 6 (by decide) (by first | exact hd | exact hd.1 | exact hd.2.1 | simp_all)
      have G0 := hid (heap_still hB AK.out)
      have c0 : W.cell? ⟨w.heap.size, 3, none⟩ = some (.int .i64 az) := (cell_row (j := 3) G0.out).trans rfl
      clear hd hR hB
      simp only [putF]
      rw [hA, e6]
      go_frame
      go_wp2_with fail
      exact hK.out _ _ _ (by rw [hA]; simp only [putF]; rw [e6]; kernel_rfl) (Below.refl _ _) rfl
    · intro K L us W hK0 hL hd hR
      have hK := hid (fun v A' W' h1 h2 h3 => hK0 v A' W' h1 (hR.pure (k := 8) (by decide) h2 h3)); clear hK0
      (try simp [Region.binds] at hd)
      have hB := hR.grow
      have GB := hid hB
      have e1 : us 1 = .int .i64 aL := hR.vals 1 (by decide) (by first | exact hd | exact hd.1 | exact hd.2.1 | simp_all)
      have e3 : us 3 = .int .i64 ax := hR.vals 3 (by decide) (by first | exact hd | exact hd.1 | exact hd.2.1 | simp_all)
      have e5 : us 5 = .int .i64 ay := hR.vals 5 (by decide) (by first | exact hd | exact hd.1 | exact hd.2.1 | simp_all)
      have e7 : us 7 = .int .i64 az := hR.vals 7 (by decide) (by first | exact hd | exact hd.1 | exact hd.2.1 | simp_all)
      clear hd hR hB
      simp only [putF]
      rw [hA, e1, e3, e5, e7]
      go_frame
      go_wp2_with fail
      exact hK.out _ _ _ (by rw [hA]; simp only [putF]; rw [e1, e3, e5, e7]; kernel_rfl) (Below.refl _ _) rfl
    · intro K L us W hK0 hL hd hR
      have hK := hid (fun v A' W' h1 h2 h3 => hK0 v A' W' h1 (hR.pure (k := 9) (by decide) h2 h3)); clear hK0
      (try simp [Region.binds] at hd)
      have hB := hR.grow
      have GB := hid hB
      clear hd hR hB
      simp only [putF]
      rw [hA]
      go_frame
      go_wp2_with fail
      exact hK.out _ _ _ (by rw [hA]; simp only [putF]; kernel_rfl) (Below.refl _ _) rfl
    · intro K L us W hK0 hL hd hR
      have hK := hid (fun v A' W' h1 h2 h3 => hK0 v A' W' h1 (hR.pure (k := 10) (by decide) h2 h3)); clear hK0
      (try simp [Region.binds] at hd)
      have hB := hR.grow
      have GB := hid hB
      have e9 : us 9 = .pointer (some ⟨w.heap.size + 1, 0, none⟩) := hR.vals 9 (by decide) (by first | exact hd | exact hd.1 | exact hd.2.1 | simp_all)
      have G0 := hid (heap_still hB BK.out)
      have c0 : W.cell? ⟨w.heap.size + 1, 0, none⟩ = some (.int .i64 bL) := (cell_row (j := 0) G0.out).trans rfl
      clear hd hR hB
      simp only [putF]
      rw [hA, e9]
      go_frame
      go_wp2_with fail
      exact hK.out _ _ _ (by rw [hA]; simp only [putF]; rw [e9]; kernel_rfl) (Below.refl _ _) rfl
    · intro K L us W hK0 hL hd hR
      have hK := hid (fun v A' W' h1 h2 h3 => hK0 v A' W' h1 (hR.pure (k := 11) (by decide) h2 h3)); clear hK0
      (try simp [Region.binds] at hd)
      have hB := hR.grow
      have GB := hid hB
      clear hd hR hB
      simp only [putF]
      rw [hA]
      go_frame
      go_wp2_with fail
      exact hK.out _ _ _ (by rw [hA]; simp only [putF]; kernel_rfl) (Below.refl _ _) rfl
    · intro K L us W hK0 hL hd hR
      have hK := hid (fun v A' W' h1 h2 h3 => hK0 v A' W' h1 (hR.pure (k := 12) (by decide) h2 h3)); clear hK0
      (try simp [Region.binds] at hd)
      have hB := hR.grow
      have GB := hid hB
      have e11 : us 11 = .pointer (some ⟨w.heap.size + 1, 1, none⟩) := hR.vals 11 (by decide) (by first | exact hd | exact hd.1 | exact hd.2.1 | simp_all)
      have G0 := hid (heap_still hB BK.out)
      have c0 : W.cell? ⟨w.heap.size + 1, 1, none⟩ = some (.int .i64 bx) := (cell_row (j := 1) G0.out).trans rfl
      clear hd hR hB
      simp only [putF]
      rw [hA, e11]
      go_frame
      go_wp2_with fail
      exact hK.out _ _ _ (by rw [hA]; simp only [putF]; rw [e11]; kernel_rfl) (Below.refl _ _) rfl
    · intro K L us W hK0 hL hd hR
      have hK := hid (fun v A' W' h1 h2 h3 => hK0 v A' W' h1 (hR.pure (k := 13) (by decide) h2 h3)); clear hK0
      (try simp [Region.binds] at hd)
      have hB := hR.grow
      have GB := hid hB
      clear hd hR hB
      simp only [putF]
      rw [hA]
      go_frame
      go_wp2_with fail
      exact hK.out _ _ _ (by rw [hA]; simp only [putF]; kernel_rfl) (Below.refl _ _) rfl
    · intro K L us W hK0 hL hd hR
      have hK := hid (fun v A' W' h1 h2 h3 => hK0 v A' W' h1 (hR.pure (k := 14) (by decide) h2 h3)); clear hK0
      (try simp [Region.binds] at hd)
      have hB := hR.grow
      have GB := hid hB
      have e13 : us 13 = .pointer (some ⟨w.heap.size + 1, 2, none⟩) := hR.vals 13 (by decide) (by first | exact hd | exact hd.1 | exact hd.2.1 | simp_all)
      have G0 := hid (heap_still hB BK.out)
      have c0 : W.cell? ⟨w.heap.size + 1, 2, none⟩ = some (.int .i64 b_y) := (cell_row (j := 2) G0.out).trans rfl
      clear hd hR hB
      simp only [putF]
      rw [hA, e13]
      go_frame
      go_wp2_with fail
      exact hK.out _ _ _ (by rw [hA]; simp only [putF]; rw [e13]; kernel_rfl) (Below.refl _ _) rfl
    · intro K L us W hK0 hL hd hR
      have hK := hid (fun v A' W' h1 h2 h3 => hK0 v A' W' h1 (hR.pure (k := 15) (by decide) h2 h3)); clear hK0
      (try simp [Region.binds] at hd)
      have hB := hR.grow
      have GB := hid hB
      clear hd hR hB
      simp only [putF]
      rw [hA]
      go_frame
      go_wp2_with fail
      exact hK.out _ _ _ (by rw [hA]; simp only [putF]; kernel_rfl) (Below.refl _ _) rfl
    · intro K L us W hK0 hL hd hR
      have hK := hid (fun v A' W' h1 h2 h3 => hK0 v A' W' h1 (hR.pure (k := 16) (by decide) h2 h3)); clear hK0
      (try simp [Region.binds] at hd)
      have hB := hR.grow
      have GB := hid hB
      have e15 : us 15 = .pointer (some ⟨w.heap.size + 1, 3, none⟩) := hR.vals 15 (by decide) (by first | exact hd | exact hd.1 | exact hd.2.1 | simp_all)
      have G0 := hid (heap_still hB BK.out)
      have c0 : W.cell? ⟨w.heap.size + 1, 3, none⟩ = some (.int .i64 bz) := (cell_row (j := 3) G0.out).trans rfl
      clear hd hR hB
      simp only [putF]
      rw [hA, e15]
      go_frame
      go_wp2_with fail
      exact hK.out _ _ _ (by rw [hA]; simp only [putF]; rw [e15]; kernel_rfl) (Below.refl _ _) rfl
    · intro K L us W hK0 hL hd hR
      have hK := hid (fun v A' W' h1 h2 h3 => hK0 v A' W' h1 (hR.pure (k := 17) (by decide) h2 h3)); clear hK0
      (try simp [Region.binds] at hd)
      have hB := hR.grow
      have GB := hid hB
      have e10 : us 10 = .int .i64 bL := hR.vals 10 (by decide) (by first | exact hd | exact hd.1 | exact hd.2.1 | simp_all)
      have e12 : us 12 = .int .i64 bx := hR.vals 12 (by decide) (by first | exact hd | exact hd.1 | exact hd.2.1 | simp_all)
      have e14 : us 14 = .int .i64 b_y := hR.vals 14 (by decide) (by first | exact hd | exact hd.1 | exact hd.2.1 | simp_all)
      have e16 : us 16 = .int .i64 bz := hR.vals 16 (by decide) (by first | exact hd | exact hd.1 | exact hd.2.1 | simp_all)
      clear hd hR hB
      simp only [putF]
      rw [hA, e10, e12, e14, e16]
      go_frame
      go_wp2_with fail
      exact hK.out _ _ _ (by rw [hA]; simp only [putF]; rw [e10, e12, e14, e16]; kernel_rfl) (Below.refl _ _) rfl
    · intro K L us W hK0 hL hd hR
      have hK := hid hK0; clear hK0
      have hR2 := hid (hR.alloc (i := 0) (by decide) hL)
      clear hd hR
      simp only [putF]
      rw [hA]
      go_frame
      go_wp2_with fail
      exact hK.out (.pointer (some ⟨W.heap.size, 0, none⟩)) _ _ (by rw [hA]; kernel_rfl) hR2.out
    · intro K L us W hK0 hL hd hR
      have hK := hid hK0; clear hK0
      have hR2 := hid (hR.alloc (i := 1) (by decide) hL)
      clear hd hR
      simp only [putF]
      rw [hA]
      go_frame
      go_wp2_with fail
      exact hK.out (.pointer (some ⟨W.heap.size, 0, none⟩)) _ _ (by rw [hA]; kernel_rfl) hR2.out
    · intro K L us W hK0 hL hd hR
      have hK := hid hK0; clear hK0
      (try simp [Region.binds] at hd)
      have hla : L 18 = true := by first | exact hd.1 | exact hd | exact hd.2.1 | simp_all
      have hls : L 8 = true := by first | exact hd.2.1 | exact hd.2 | exact hd.1 | simp_all
      obtain ⟨gbx, e0, hg, hh⟩ := hR.box 0 (by decide) hla
      have hL2 : L (18 + 2 + 0) = false := hL
      rw [hL2, if_neg (by decide)] at hh
      have e1 : us 8 = .agg #[.int .i64 aL, .int .i64 ax, .int .i64 ay, .int .i64 az] := hR.vals 8 (by decide) hls
      have hR2 := hid (hR.store (i := 0) (v := undef) (by decide) hla e0 hg hh)
      have hh2 : W.heap[gbx]? = some (.cells #[.int .i64 0, .int .i64 0, .int .i64 0, .int .i64 0] 136) := hh
      have e2 : us 18 = .pointer (some ⟨gbx, 0, none⟩) := e0
      have HH := hid hh2
      clear hd hR hh e0 hL2
      simp only [putF]
      rw [hA, e2, e1]
      go_frame
      go_wp2_with (refine wpList_store_at rfl 136 (.tmp 5) (.tmp 16) rfl rfl rfl HH.out size136 rfl rfl rfl ?_)
      exact hK.out undef _ _ (by rw [hA]; simp only [putF]; rw [e2, e1]; kernel_rfl) hR2.out
    · intro K L us W hK0 hL hd hR
      have hK := hid hK0; clear hK0
      (try simp [Region.binds] at hd)
      have hla : L 19 = true := by first | exact hd.1 | exact hd | exact hd.2.1 | simp_all
      have hls : L 17 = true := by first | exact hd.2.1 | exact hd.2 | exact hd.1 | simp_all
      obtain ⟨gbx, e0, hg, hh⟩ := hR.box 1 (by decide) hla
      have hL2 : L (18 + 2 + 1) = false := hL
      rw [hL2, if_neg (by decide)] at hh
      have e1 : us 17 = .agg #[.int .i64 bL, .int .i64 bx, .int .i64 b_y, .int .i64 bz] := hR.vals 17 (by decide) hls
      have hR2 := hid (hR.store (i := 1) (v := undef) (by decide) hla e0 hg hh)
      have hh2 : W.heap[gbx]? = some (.cells #[.int .i64 0, .int .i64 0, .int .i64 0, .int .i64 0] 136) := hh
      have e2 : us 19 = .pointer (some ⟨gbx, 0, none⟩) := e0
      have HH := hid hh2
      clear hd hR hh e0 hL2
      simp only [putF]
      rw [hA, e2, e1]
      go_frame
      go_wp2_with (refine wpList_store_at rfl 136 (.tmp 6) (.tmp 25) rfl rfl rfl HH.out size136 rfl rfl rfl ?_)
      exact hK.out undef _ _ (by rw [hA]; simp only [putF]; rw [e2, e1]; kernel_rfl) hR2.out
  intro L us W1 hL hR
  obtain ⟨g5, e5, hg5, hh5⟩ := hR.box 0 (by decide) (hL _ (by decide))
  rw [if_pos (hL _ (by decide))] at hh5
  have HH5 := hid (show W1.heap[g5]? = some (.cells #[.int .i64 aL, .int .i64 ax, .int .i64 ay, .int .i64 az] 136) from hh5)
  have e5 : us 18 = .pointer (some ⟨g5, 0, none⟩) := e5
  obtain ⟨g6, e6, hg6, hh6⟩ := hR.box 1 (by decide) (hL _ (by decide))
  rw [if_pos (hL _ (by decide))] at hh6
  have HH6 := hid (show W1.heap[g6]? = some (.cells #[.int .i64 bL, .int .i64 bx, .int .i64 b_y, .int .i64 bz] 136) from hh6)
  have e6 : us 19 = .pointer (some ⟨g6, 0, none⟩) := e6
  have hne5_6 : g5 ≠ g6 := fun h => hR.ne 0 1 (by decide) (by decide) (by decide) (hL _ (by decide)) (hL _ (by decide)) (by rw [show us (18 + 0) = _ from e5, show us (18 + 1) = _ from e6, h])
  have HB1 := hid (HB0.out.trans (hR.grow.mono HB0.out.size))
  have HSW1 := hid (fun n x => @heap_still _ _ n x hR.grow)
  have hzW1 := hR.grow.size
  simp only [putF]
  rw [hA, e5, e6]
  clear hA hR hL hh5 e5 hh6 e6
  go_frame
  go_wp2_with fail
  refine wp_loop_rounds 5 ?_
  rw [rounds_succ]
  by_cases hne : aL ≠ bL
  · have d1 : (aL == bL) = false := by simpa using hne
    have a0 := fun d os => cell_regrown (show W1.cell? ⟨g5, 0, none⟩ = some (.int .i64 aL) from (cell_row (j := 0) HH5.out).trans rfl) d os
    have b0 := fun d os => cell_regrown (show W1.cell? ⟨g6, 0, none⟩ = some (.int .i64 bL) from (cell_row (j := 0) HH6.out).trans rfl) d os
    go_wp2_with fail
    refine wp_region_quiet_below (by kernel_rfl) (by kernel_rfl) ?_
    repeat (first | go_big_quiet_step (fail) | quiet_step (fail))
    refine wpQuiet_nil ?_
    intro _ hw'
    obtain ⟨⟨dqV, osV⟩, hw2⟩ := hw'
    subst hw2
    have HQV := hid (below_regrown W1 dqV osV)
    generalize Sort.grow (redrawn W1 dqV) osV = V at HQV ⊢
    have hsV := HQV.out.size
    clear a0 b0
    have AV := hid (heap_still HQV.out HH5.out)
    have BV := hid (heap_still HQV.out HH6.out)
    have HBV := hid (HB1.out.trans (HQV.out.mono HB1.out.size))
    have a0 := fun d os => cell_regrown (show V.cell? ⟨g5, 0, none⟩ = some (.int .i64 aL) from (cell_row (j := 0) AV.out).trans rfl) d os
    have b0 := fun d os => cell_regrown (show V.cell? ⟨g6, 0, none⟩ = some (.int .i64 bL) from (cell_row (j := 0) BV.out).trans rfl) d os
    go_wp2_with fail
    refine wp_region_quiet_below (by kernel_rfl) (by kernel_rfl) ?_
    repeat (first | go_big_quiet_step (fail) | quiet_step (fail))
    refine wpQuiet_nil ?_
    intro _ hw'
    obtain ⟨⟨dqU, osU⟩, hw2⟩ := hw'
    subst hw2
    have HQU := hid (below_regrown V dqU osU)
    generalize Sort.grow (redrawn V dqU) osU = U at HQU ⊢
    have hsU := HQU.out.size
    have HBU := hid (HBV.out.trans (HQU.out.mono HBV.out.size))
    clear a0 b0
    go_wp2_with fail
    go_ret
    exact ⟨by rw [show r = decide (aL < bL) from HR.out.symm.trans (decide_eq_decide.2 (HV.out.trans (by omega)))]; rfl, HBU.out⟩
  have heq0 : aL = bL := Decidable.not_not.1 hne
  clear hne
  have d1 : (aL == bL) = true := by simp [heq0]
  have a0 := fun d os => cell_regrown (show W1.cell? ⟨g5, 0, none⟩ = some (.int .i64 aL) from (cell_row (j := 0) HH5.out).trans rfl) d os
  have b0 := fun d os => cell_regrown (show W1.cell? ⟨g6, 0, none⟩ = some (.int .i64 bL) from (cell_row (j := 0) HH6.out).trans rfl) d os
  go_wp2_with fail
  refine wp_region_quiet_below (by kernel_rfl) (by kernel_rfl) ?_
  repeat (first | go_big_quiet_step (fail) | quiet_step (fail))
  refine wpQuiet_nil ?_
  intro _ hw'
  obtain ⟨⟨dqV0, osV0⟩, hw2⟩ := hw'
  subst hw2
  have HQV0 := hid (below_regrown W1 dqV0 osV0)
  generalize Sort.grow (redrawn W1 dqV0) osV0 = V0 at HQV0 ⊢
  have hsV0 := HQV0.out.size
  clear a0 b0 d1
  have AV0 := hid (heap_still HQV0.out HH5.out)
  have BV0 := hid (heap_still HQV0.out HH6.out)
  have HBV0 := hid (HB1.out.trans (HQV0.out.mono HB1.out.size))
  go_wp2_with fail
  rw [rounds_succ]
  by_cases hne : ax ≠ bx
  · have d1 : (ax == bx) = false := by simpa using hne
    have a1 := fun d os => cell_regrown (show V0.cell? ⟨g5, 1, none⟩ = some (.int .i64 ax) from (cell_row (j := 1) AV0.out).trans rfl) d os
    have b1 := fun d os => cell_regrown (show V0.cell? ⟨g6, 1, none⟩ = some (.int .i64 bx) from (cell_row (j := 1) BV0.out).trans rfl) d os
    go_wp2_with fail
    refine wp_region_quiet_below (by kernel_rfl) (by kernel_rfl) ?_
    repeat (first | go_big_quiet_step (fail) | quiet_step (fail))
    refine wpQuiet_nil ?_
    intro _ hw'
    obtain ⟨⟨dqV, osV⟩, hw2⟩ := hw'
    subst hw2
    have HQV := hid (below_regrown V0 dqV osV)
    generalize Sort.grow (redrawn V0 dqV) osV = V at HQV ⊢
    have hsV := HQV.out.size
    clear a1 b1
    have AV := hid (heap_still HQV.out AV0.out)
    have BV := hid (heap_still HQV.out BV0.out)
    have HBV := hid (HBV0.out.trans (HQV.out.mono HBV0.out.size))
    have a1 := fun d os => cell_regrown (show V.cell? ⟨g5, 1, none⟩ = some (.int .i64 ax) from (cell_row (j := 1) AV.out).trans rfl) d os
    have b1 := fun d os => cell_regrown (show V.cell? ⟨g6, 1, none⟩ = some (.int .i64 bx) from (cell_row (j := 1) BV.out).trans rfl) d os
    go_wp2_with fail
    refine wp_region_quiet_below (by kernel_rfl) (by kernel_rfl) ?_
    repeat (first | go_big_quiet_step (fail) | quiet_step (fail))
    refine wpQuiet_nil ?_
    intro _ hw'
    obtain ⟨⟨dqU, osU⟩, hw2⟩ := hw'
    subst hw2
    have HQU := hid (below_regrown V dqU osU)
    generalize Sort.grow (redrawn V dqU) osU = U at HQU ⊢
    have hsU := HQU.out.size
    have HBU := hid (HBV.out.trans (HQU.out.mono HBV.out.size))
    clear a1 b1
    go_wp2_with fail
    go_ret
    exact ⟨by rw [show r = decide (ax < bx) from HR.out.symm.trans (decide_eq_decide.2 (HV.out.trans (by omega)))]; rfl, HBU.out⟩
  have heq1 : ax = bx := Decidable.not_not.1 hne
  clear hne
  have d1 : (ax == bx) = true := by simp [heq1]
  have a1 := fun d os => cell_regrown (show V0.cell? ⟨g5, 1, none⟩ = some (.int .i64 ax) from (cell_row (j := 1) AV0.out).trans rfl) d os
  have b1 := fun d os => cell_regrown (show V0.cell? ⟨g6, 1, none⟩ = some (.int .i64 bx) from (cell_row (j := 1) BV0.out).trans rfl) d os
  go_wp2_with fail
  refine wp_region_quiet_below (by kernel_rfl) (by kernel_rfl) ?_
  repeat (first | go_big_quiet_step (fail) | quiet_step (fail))
  refine wpQuiet_nil ?_
  intro _ hw'
  obtain ⟨⟨dqV1, osV1⟩, hw2⟩ := hw'
  subst hw2
  have HQV1 := hid (below_regrown V0 dqV1 osV1)
  generalize Sort.grow (redrawn V0 dqV1) osV1 = V1 at HQV1 ⊢
  have hsV1 := HQV1.out.size
  clear a1 b1 d1
  have AV1 := hid (heap_still HQV1.out AV0.out)
  have BV1 := hid (heap_still HQV1.out BV0.out)
  have HBV1 := hid (HBV0.out.trans (HQV1.out.mono HBV0.out.size))
  go_wp2_with fail
  rw [rounds_succ]
  by_cases hne : ay ≠ b_y
  · have d1 : (ay == b_y) = false := by simpa using hne
    have a2 := fun d os => cell_regrown (show V1.cell? ⟨g5, 2, none⟩ = some (.int .i64 ay) from (cell_row (j := 2) AV1.out).trans rfl) d os
    have b2 := fun d os => cell_regrown (show V1.cell? ⟨g6, 2, none⟩ = some (.int .i64 b_y) from (cell_row (j := 2) BV1.out).trans rfl) d os
    go_wp2_with fail
    refine wp_region_quiet_below (by kernel_rfl) (by kernel_rfl) ?_
    repeat (first | go_big_quiet_step (fail) | quiet_step (fail))
    refine wpQuiet_nil ?_
    intro _ hw'
    obtain ⟨⟨dqV, osV⟩, hw2⟩ := hw'
    subst hw2
    have HQV := hid (below_regrown V1 dqV osV)
    generalize Sort.grow (redrawn V1 dqV) osV = V at HQV ⊢
    have hsV := HQV.out.size
    clear a2 b2
    have AV := hid (heap_still HQV.out AV1.out)
    have BV := hid (heap_still HQV.out BV1.out)
    have HBV := hid (HBV1.out.trans (HQV.out.mono HBV1.out.size))
    have a2 := fun d os => cell_regrown (show V.cell? ⟨g5, 2, none⟩ = some (.int .i64 ay) from (cell_row (j := 2) AV.out).trans rfl) d os
    have b2 := fun d os => cell_regrown (show V.cell? ⟨g6, 2, none⟩ = some (.int .i64 b_y) from (cell_row (j := 2) BV.out).trans rfl) d os
    go_wp2_with fail
    refine wp_region_quiet_below (by kernel_rfl) (by kernel_rfl) ?_
    repeat (first | go_big_quiet_step (fail) | quiet_step (fail))
    refine wpQuiet_nil ?_
    intro _ hw'
    obtain ⟨⟨dqU, osU⟩, hw2⟩ := hw'
    subst hw2
    have HQU := hid (below_regrown V dqU osU)
    generalize Sort.grow (redrawn V dqU) osU = U at HQU ⊢
    have hsU := HQU.out.size
    have HBU := hid (HBV.out.trans (HQU.out.mono HBV.out.size))
    clear a2 b2
    go_wp2_with fail
    go_ret
    exact ⟨by rw [show r = decide (ay < b_y) from HR.out.symm.trans (decide_eq_decide.2 (HV.out.trans (by omega)))]; rfl, HBU.out⟩
  have heq2 : ay = b_y := Decidable.not_not.1 hne
  clear hne
  have d1 : (ay == b_y) = true := by simp [heq2]
  have a2 := fun d os => cell_regrown (show V1.cell? ⟨g5, 2, none⟩ = some (.int .i64 ay) from (cell_row (j := 2) AV1.out).trans rfl) d os
  have b2 := fun d os => cell_regrown (show V1.cell? ⟨g6, 2, none⟩ = some (.int .i64 b_y) from (cell_row (j := 2) BV1.out).trans rfl) d os
  go_wp2_with fail
  refine wp_region_quiet_below (by kernel_rfl) (by kernel_rfl) ?_
  repeat (first | go_big_quiet_step (fail) | quiet_step (fail))
  refine wpQuiet_nil ?_
  intro _ hw'
  obtain ⟨⟨dqV2, osV2⟩, hw2⟩ := hw'
  subst hw2
  have HQV2 := hid (below_regrown V1 dqV2 osV2)
  generalize Sort.grow (redrawn V1 dqV2) osV2 = V2 at HQV2 ⊢
  have hsV2 := HQV2.out.size
  clear a2 b2 d1
  have AV2 := hid (heap_still HQV2.out AV1.out)
  have BV2 := hid (heap_still HQV2.out BV1.out)
  have HBV2 := hid (HBV1.out.trans (HQV2.out.mono HBV1.out.size))
  go_wp2_with fail
  rw [rounds_succ]
  by_cases hne : az ≠ bz
  · have d1 : (az == bz) = false := by simpa using hne
    have a3 := fun d os => cell_regrown (show V2.cell? ⟨g5, 3, none⟩ = some (.int .i64 az) from (cell_row (j := 3) AV2.out).trans rfl) d os
    have b3 := fun d os => cell_regrown (show V2.cell? ⟨g6, 3, none⟩ = some (.int .i64 bz) from (cell_row (j := 3) BV2.out).trans rfl) d os
    go_wp2_with fail
    refine wp_region_quiet_below (by kernel_rfl) (by kernel_rfl) ?_
    repeat (first | go_big_quiet_step (fail) | quiet_step (fail))
    refine wpQuiet_nil ?_
    intro _ hw'
    obtain ⟨⟨dqV, osV⟩, hw2⟩ := hw'
    subst hw2
    have HQV := hid (below_regrown V2 dqV osV)
    generalize Sort.grow (redrawn V2 dqV) osV = V at HQV ⊢
    have hsV := HQV.out.size
    clear a3 b3
    have AV := hid (heap_still HQV.out AV2.out)
    have BV := hid (heap_still HQV.out BV2.out)
    have HBV := hid (HBV2.out.trans (HQV.out.mono HBV2.out.size))
    have a3 := fun d os => cell_regrown (show V.cell? ⟨g5, 3, none⟩ = some (.int .i64 az) from (cell_row (j := 3) AV.out).trans rfl) d os
    have b3 := fun d os => cell_regrown (show V.cell? ⟨g6, 3, none⟩ = some (.int .i64 bz) from (cell_row (j := 3) BV.out).trans rfl) d os
    go_wp2_with fail
    refine wp_region_quiet_below (by kernel_rfl) (by kernel_rfl) ?_
    repeat (first | go_big_quiet_step (fail) | quiet_step (fail))
    refine wpQuiet_nil ?_
    intro _ hw'
    obtain ⟨⟨dqU, osU⟩, hw2⟩ := hw'
    subst hw2
    have HQU := hid (below_regrown V dqU osU)
    generalize Sort.grow (redrawn V dqU) osU = U at HQU ⊢
    have hsU := HQU.out.size
    have HBU := hid (HBV.out.trans (HQU.out.mono HBV.out.size))
    clear a3 b3
    go_wp2_with fail
    go_ret
    exact ⟨by rw [show r = decide (az < bz) from HR.out.symm.trans (decide_eq_decide.2 (HV.out.trans (by omega)))]; rfl, HBU.out⟩
  have heq3 : az = bz := Decidable.not_not.1 hne
  clear hne
  have d1 : (az == bz) = true := by simp [heq3]
  have a3 := fun d os => cell_regrown (show V2.cell? ⟨g5, 3, none⟩ = some (.int .i64 az) from (cell_row (j := 3) AV2.out).trans rfl) d os
  have b3 := fun d os => cell_regrown (show V2.cell? ⟨g6, 3, none⟩ = some (.int .i64 bz) from (cell_row (j := 3) BV2.out).trans rfl) d os
  go_wp2_with fail
  refine wp_region_quiet_below (by kernel_rfl) (by kernel_rfl) ?_
  repeat (first | go_big_quiet_step (fail) | quiet_step (fail))
  refine wpQuiet_nil ?_
  intro _ hw'
  obtain ⟨⟨dqV3, osV3⟩, hw2⟩ := hw'
  subst hw2
  have HQV3 := hid (below_regrown V2 dqV3 osV3)
  generalize Sort.grow (redrawn V2 dqV3) osV3 = V3 at HQV3 ⊢
  have hsV3 := HQV3.out.size
  clear a3 b3 d1
  have AV3 := hid (heap_still HQV3.out AV2.out)
  have BV3 := hid (heap_still HQV3.out BV2.out)
  have HBV3 := hid (HBV2.out.trans (HQV3.out.mono HBV2.out.size))
  go_wp2_with fail
  rw [rounds_succ]
  go_wp2_with fail
  go_ret
  exact ⟨by rw [show r = false from HR.out.symm.trans (decide_eq_false (fun h => by have := HV.out.1 h; omega))]; rfl, HBV3.out⟩
end Go.Proofs.Yteanlcefdoigcaa
