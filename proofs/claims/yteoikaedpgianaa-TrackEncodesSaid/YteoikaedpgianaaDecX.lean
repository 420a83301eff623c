/- A record read by the program. -/
import Derived.Test.YteoikaedpgianaaFixR
import Derived.Test.YteoikaedpgianaaEncX
namespace Go.Proofs.Yteoikaedpgianaa
open Go.RowKit

theorem size59a : (Try.prog.info? 59).map (·.size) = some 14 := by kernel_rfl
/-- the first state of a reader behind the first byte -/
def stOf (g : Nat → Nat) (n : Nat) : St := ⟨fun i => g (i + 1), n - 1, false⟩
/-- what a decoder returns when it refuses -/
def noNav : Value := .tuple #[.agg #[.bool false, .int .i64 0, .int .i64 0, .int .i64 0, .int .i64 0, .int .i64 0, .int .i64 0, .int .i64 0, .int .i64 0, .int .i64 0, .int .i64 0, .int .i64 0, .int .i64 0, .int .i64 0], .int .i64 4]
def syncNav (a b c : Int) : Value := .tuple #[.agg #[.bool true, .int .i64 0, .int .i64 0, .int .i64 0, .int .i64 0, .int .i64 0, .int .i64 0, .int .i64 0, .int .i64 0, .int .i64 0, .int .i64 0, .int .i64 a, .int .i64 b, .int .i64 c], .int .i64 0]
def fixNav (t x y z e a b c d g : Int) : Value := .tuple #[.agg #[.bool false, .int .i64 t, .int .i64 x, .int .i64 y, .int .i64 z, .int .i64 e, .int .i64 a, .int .i64 b, .int .i64 c, .int .i64 d, .int .i64 g, .int .i64 0, .int .i64 0, .int .i64 0], .int .i64 0]

theorem cells_tail {w W : World} {b off n : Nat} {g : Nat → Nat} (h : bytesAt w b off n g) (hb : b < w.heap.size) (hB : Below w.heap.size w W) : bytesAt W b (off + 1) (n - 1) (fun i => g (i + 1)) := by
  intro i hi
  rw [World.cell?_of_block (w := w) (w' := W) (a := ⟨b, off + 1 + i, none⟩) (hB.block b hb), show off + 1 + i = off + (i + 1) by omega]
  exact h (i + 1) (by omega)
theorem Only.below' {rb B : Nat} {w W : World} (h : Only rb B w W) (hB : B ≤ rb) : Below B w W := ⟨h.os, h.tape, h.output, h.size, fun k hk => h.block k hk (by omega)⟩
theorem fix_zero : fixB 0 0 0 0 0 0 0 0 0 0 = false := by decide
theorem rd_still {W W' : World} {rb ty b : Nat} {s : St} (h : RdAt W rb ty b s) (hb : Below W.heap.size W W') : RdAt W' rb ty b s :=
  h.same (hb.block rb h.rb_lt) (hb.block b h.b_lt) hb.size
set_option maxRecDepth 100000 in
set_option maxHeartbeats 1600000 in
theorem decodeSync (b off n c : Nat) (g : Nat → Nat) (s1 s2 s3 : St) (v0 v1 v2 : Int) (w : World) (hn : 0 < n) (hnc : n ≤ c) (hc : c ≤ 9223372036854775807) (hb : bytesAt w b off n g) (hg : ∀ i, g i < 256) (hbw : b < w.heap.size) (hg0 : g 0 = 1)
    (e0 : nextS false (stOf g n) = (v0, s1)) (e1 : nextS false s1 = (v1, s2)) (e2 : nextS false s2 = (v2, s3)) :
    Calls Try.prog 45 #[.slice (some ⟨b, off, none⟩) n c] w fun r w' => r = .returned (if (s3.bad = false ∧ s3.m = 0) ∧ syncB v0 v1 v2 = true then syncNav v0 v1 v2 else noNav) ∧ Below w.heap.size w w' := by
  obtain ⟨res, hres⟩ : ∃ res, res = (if (s3.bad = false ∧ s3.m = 0) ∧ syncB v0 v1 v2 = true then syncNav v0 v1 v2 else noNav) := ⟨_, rfl⟩
  rw [← hres]
  have HRES := hid hres
  clear hres
  have E0 := hid e0
  have E1 := hid e1
  have E2 := hid e2
  have hnz : ((n : Int) == 0) = false := by simp; omega
  have hc0 : w.cell? ⟨b, off, none⟩ = some (.int .u8 1) := by have := hb 0 hn; rw [hg0] at this; exact this
  have hca : ∀ o1 o2 o3, (((w.alloc o1).alloc o2).alloc o3).cell? ⟨b, off, none⟩ = some (.int .u8 1) := fun _ _ _ => cell_past (cell_past (cell_past hc0))
  have HB := hid hb
  have HG := hid hg
  clear e0 e1 e2 hb hg hg0
  by_cases hc1 : 1 < c
  · go_enter Try.func45, Try.ntmps45
    go_wp2_with fail
    have hm1 : (stOf g n).m ≤ c - 1 := by show n - 1 ≤ c - 1; omega
    refine Calls.mono (number_at _ E0.out ⟨off + 1, c - 1, (by repeat' (first | (refine heap_alloc_at _ _ _ ?_; (first | rfl | (simp; done) | (simp; omega))) | (refine heap_alloc_past _ _ _ _ ?_))), hm1, by omega, cells_tail HB.out hbw (by (repeat' (first | (with_reducible exact Below.refl _ _) | (with_reducible assumption) | (with_reducible refine Below.alloc ?_ ?_ _) | (with_reducible refine Below.drew ?_) | (with_reducible refine below_drewN ?_ _) | (with_reducible refine Below.setCell ?_ ?_ _) | (with_reducible refine below_setRow ?_ ?_ _) | go_size))), by omega, fun i => HG.out (i + 1), (by first | (simp; done) | (simp; omega))⟩) ?_
    rintro r w1 ⟨rfl, hrd, hol⟩
    have R1 := hid hrd
    have F1 := hid (hol.heap (by omega) (by repeat' (first | (refine heap_alloc_at _ _ _ ?_; (first | rfl | (simp; done) | (simp; omega))) | (refine heap_alloc_past _ _ _ _ ?_))) : w1.heap[w.heap.size + 1]? = some (.cells #[.bool true, .int .i64 0, .int .i64 0, .int .i64 0, .int .i64 0, .int .i64 0, .int .i64 0, .int .i64 0, .int .i64 0, .int .i64 0, .int .i64 0, .int .i64 0, .int .i64 0, .int .i64 0] 59))
    have G1 := hid (hol.heap (by omega) (by repeat' (first | (refine heap_alloc_at _ _ _ ?_; (first | rfl | (simp; done) | (simp; omega))) | (refine heap_alloc_past _ _ _ _ ?_))) : w1.heap[w.heap.size]? = some (.cells #[.bool false, .int .i64 0, .int .i64 0, .int .i64 0, .int .i64 0, .int .i64 0, .int .i64 0, .int .i64 0, .int .i64 0, .int .i64 0, .int .i64 0, .int .i64 0, .int .i64 0, .int .i64 0] 59))
    have O1 := hid ((((((Only.refl (w.heap.size + 1 + 1) w.heap.size w).alloc (by omega) _).alloc (by first | (simp; done) | (simp; omega)) _).alloc (by first | (simp; done) | (simp; omega)) _).trans hol (by first | (simp; done) | (simp; omega))) : Only (w.heap.size + 1 + 1) w.heap.size w w1)
    have hs1 := hol.size
    (try simp at hs1)
    have hc1 : w1.cell? ⟨w.heap.size + 1, 11, none⟩ = some (.int .i64 0) := (cell_row (j := 11) F1.out).trans rfl
    have hf1 : w1.frozen? ⟨w.heap.size + 1, 11, none⟩ = false := by have hh := F1.out; simp [World.frozen?, hh]
    clear hrd hol
    go_wp2_with fail
    refine Calls.mono (number_at _ E1.out (R1.out.set (by omega) (by omega) _)) ?_
    rintro r w2 ⟨rfl, hrd, hol⟩
    have R2 := hid hrd
    have F2 := hid (hol.heap (by omega) (heap_setCell F1.out _) : w2.heap[w.heap.size + 1]? = some (.cells #[.bool true, .int .i64 0, .int .i64 0, .int .i64 0, .int .i64 0, .int .i64 0, .int .i64 0, .int .i64 0, .int .i64 0, .int .i64 0, .int .i64 0, .int .i64 v0, .int .i64 0, .int .i64 0] 59))
    have G2 := hid (hol.heap (by omega) (heap_set_other G1.out (by omega) _) : w2.heap[w.heap.size]? = some (.cells #[.bool false, .int .i64 0, .int .i64 0, .int .i64 0, .int .i64 0, .int .i64 0, .int .i64 0, .int .i64 0, .int .i64 0, .int .i64 0, .int .i64 0, .int .i64 0, .int .i64 0, .int .i64 0] 59))
    have O2 := hid (((O1.out.set (by omega) _).trans hol (by first | (simp; done) | (simp; omega))) : Only (w.heap.size + 1 + 1) w.heap.size w w2)
    have hs2 := hol.size
    (try simp at hs2)
    have hc2 : w2.cell? ⟨w.heap.size + 1, 12, none⟩ = some (.int .i64 0) := (cell_row (j := 12) F2.out).trans rfl
    have hf2 : w2.frozen? ⟨w.heap.size + 1, 12, none⟩ = false := by have hh := F2.out; simp [World.frozen?, hh]
    clear hrd hol
    go_wp2_with fail
    refine Calls.mono (number_at _ E2.out (R2.out.set (by omega) (by omega) _)) ?_
    rintro r w3 ⟨rfl, hrd, hol⟩
    have R3 := hid hrd
    have F3 := hid (hol.heap (by omega) (heap_setCell F2.out _) : w3.heap[w.heap.size + 1]? = some (.cells #[.bool true, .int .i64 0, .int .i64 0, .int .i64 0, .int .i64 0, .int .i64 0, .int .i64 0, .int .i64 0, .int .i64 0, .int .i64 0, .int .i64 0, .int .i64 v0, .int .i64 v1, .int .i64 0] 59))
    have G3 := hid (hol.heap (by omega) (heap_set_other G2.out (by omega) _) : w3.heap[w.heap.size]? = some (.cells #[.bool false, .int .i64 0, .int .i64 0, .int .i64 0, .int .i64 0, .int .i64 0, .int .i64 0, .int .i64 0, .int .i64 0, .int .i64 0, .int .i64 0, .int .i64 0, .int .i64 0, .int .i64 0] 59))
    have O3 := hid (((O2.out.set (by omega) _).trans hol (by first | (simp; done) | (simp; omega))) : Only (w.heap.size + 1 + 1) w.heap.size w w3)
    have hs3 := hol.size
    (try simp at hs3)
    have hc3 : w3.cell? ⟨w.heap.size + 1, 13, none⟩ = some (.int .i64 0) := (cell_row (j := 13) F3.out).trans rfl
    have hf3 : w3.frozen? ⟨w.heap.size + 1, 13, none⟩ = false := by have hh := F3.out; simp [World.frozen?, hh]
    clear hrd hol
    have k1 : w3.cell? ⟨w.heap.size + 1, 1, none⟩ = some (.int .i64 0) := (cell_row (j := 1) F3.out).trans rfl
    have k2 : w3.cell? ⟨w.heap.size + 1, 2, none⟩ = some (.int .i64 0) := (cell_row (j := 2) F3.out).trans rfl
    have k3 : w3.cell? ⟨w.heap.size + 1, 3, none⟩ = some (.int .i64 0) := (cell_row (j := 3) F3.out).trans rfl
    have k4 : w3.cell? ⟨w.heap.size + 1, 4, none⟩ = some (.int .i64 0) := (cell_row (j := 4) F3.out).trans rfl
    have k5 : w3.cell? ⟨w.heap.size + 1, 5, none⟩ = some (.int .i64 0) := (cell_row (j := 5) F3.out).trans rfl
    have k6 : w3.cell? ⟨w.heap.size + 1, 6, none⟩ = some (.int .i64 0) := (cell_row (j := 6) F3.out).trans rfl
    have k7 : w3.cell? ⟨w.heap.size + 1, 7, none⟩ = some (.int .i64 0) := (cell_row (j := 7) F3.out).trans rfl
    have k8 : w3.cell? ⟨w.heap.size + 1, 8, none⟩ = some (.int .i64 0) := (cell_row (j := 8) F3.out).trans rfl
    have k9 : w3.cell? ⟨w.heap.size + 1, 9, none⟩ = some (.int .i64 0) := (cell_row (j := 9) F3.out).trans rfl
    have k10 : w3.cell? ⟨w.heap.size + 1, 10, none⟩ = some (.int .i64 0) := (cell_row (j := 10) F3.out).trans rfl
    have k0 : w3.cell? ⟨w.heap.size + 1, 0, none⟩ = some (.bool true) := (cell_row (j := 0) F3.out).trans rfl
    have k11 : w3.cell? ⟨w.heap.size + 1, 11, none⟩ = some (.int .i64 (v0)) := (cell_row (j := 11) F3.out).trans rfl
    have k12 : w3.cell? ⟨w.heap.size + 1, 12, none⟩ = some (.int .i64 (v1)) := (cell_row (j := 12) F3.out).trans rfl
    have k13 : w3.cell? ⟨w.heap.size + 1, 13, none⟩ = some (.int .i64 (0)) := (cell_row (j := 13) F3.out).trans rfl
    go_wp2_with fail
    refine (xFix_any 0 0 0 0 0 0 0 0 0 0 _).mono ?_
    rintro r w4 ⟨rfl, hb4⟩
    rw [fix_zero]
    have F4 := hid (heap_still hb4 (heap_setCell F3.out (.int .i64 v2)) : w4.heap[w.heap.size + 1]? = some (.cells #[.bool true, .int .i64 0, .int .i64 0, .int .i64 0, .int .i64 0, .int .i64 0, .int .i64 0, .int .i64 0, .int .i64 0, .int .i64 0, .int .i64 0, .int .i64 v0, .int .i64 v1, .int .i64 v2] 59))
    clear k0 k1 k2 k3 k4 k5 k6 k7 k8 k9 k10 k11 k12 k13
    have k0 : w4.cell? ⟨w.heap.size + 1, 0, none⟩ = some (.bool true) := (cell_row (j := 0) F4.out).trans rfl
    have k11 : w4.cell? ⟨w.heap.size + 1, 11, none⟩ = some (.int .i64 (v0)) := (cell_row (j := 11) F4.out).trans rfl
    have k12 : w4.cell? ⟨w.heap.size + 1, 12, none⟩ = some (.int .i64 (v1)) := (cell_row (j := 12) F4.out).trans rfl
    have k13 : w4.cell? ⟨w.heap.size + 1, 13, none⟩ = some (.int .i64 (v2)) := (cell_row (j := 13) F4.out).trans rfl
    have G4 := hid (heap_still hb4 (heap_set_other G3.out (by omega) (.int .i64 v2)))
    have O4 := hid ((O3.out.set (by omega) (.int .i64 v2)).trans (Only.of_below hb4) (by first | (simp; done) | (simp; omega)))
    have R4 := hid (rd_still (R3.out.set (by omega) (by omega) (.int .i64 v2)) hb4)
    have hs4 := hb4.size
    (try simp at hs4)
    clear hb4
    go_wp2_with fail
    refine (xSync_any v0 v1 v2 _).mono ?_
    rintro r w5 ⟨rfl, hb5⟩
    have F5 := hid (heap_still hb5 F4.out)
    have G5 := hid (heap_still hb5 G4.out)
    have O5 := hid (O4.out.trans (Only.of_below hb5) (by omega))
    have hs5 := hb5.size
    obtain ⟨o5, c5, hr5, hm5, hcc5, _⟩ := rd_still R4.out hb5
    have HR5 := hid hr5
    have p0 : w5.cell? ⟨w.heap.size + 1 + 1, 0, none⟩ = some (.slice (some ⟨b, o5, none⟩) s3.m c5) := (cell_row (j := 0) hr5).trans rfl
    have p1 : w5.cell? ⟨w.heap.size + 1 + 1, 1, none⟩ = some (.bool s3.bad) := (cell_row (j := 1) hr5).trans rfl
    clear hb5 hr5 k0 k11 k12 k13
    generalize s3.bad = bad at *
    generalize s3.m = mm at *
    generalize syncB v0 v1 v2 = sy at *
    cases bad
    · rcases Nat.eq_zero_or_pos mm with rfl | hmm
      · cases sy
        · go_wp2_with (refine wpList_store_at rfl 59 (.tmp 2) (.tmp 65) rfl rfl rfl G5.out size59a rfl rfl rfl ?_)
          refine bodyPost_ret (results_at2 rfl rfl (setRow_heap _ _ _ _ _ _ G5.out) Try.underlying59 rfl size59a rfl) rfl ?_
          exact ⟨by rw [HRES.out, if_neg (by first | (simp; done) | (intro h; omega))]; rfl, (O5.out.setRow (by omega)).below' (by omega)⟩
        · go_wp2_with (first | (refine wpList_load_at rfl 59 (.tmp 4) rfl rfl F5.out Try.underlying59 rfl size59a rfl ?_) | (refine wpList_store_at rfl 59 (.tmp 2) (.tmp 66) rfl rfl rfl G5.out size59a rfl rfl rfl ?_))
          refine bodyPost_ret (results_at2 rfl rfl (setRow_heap _ _ _ _ _ _ G5.out) Try.underlying59 rfl size59a rfl) rfl ?_
          exact ⟨by rw [HRES.out, if_pos (by simp)]; rfl, (O5.out.setRow (by omega)).below' (by omega)⟩
      · cases sy
        · go_wp2_with (refine wpList_store_at rfl 59 (.tmp 2) (.tmp 65) rfl rfl rfl G5.out size59a rfl rfl rfl ?_)
          refine bodyPost_ret (results_at2 rfl rfl (setRow_heap _ _ _ _ _ _ G5.out) Try.underlying59 rfl size59a rfl) rfl ?_
          exact ⟨by rw [HRES.out, if_neg (by first | (simp; done) | (intro h; omega))]; rfl, (O5.out.setRow (by omega)).below' (by omega)⟩
        · go_wp2_with (refine wpList_store_at rfl 59 (.tmp 2) (.tmp 65) rfl rfl rfl G5.out size59a rfl rfl rfl ?_)
          refine bodyPost_ret (results_at2 rfl rfl (setRow_heap _ _ _ _ _ _ G5.out) Try.underlying59 rfl size59a rfl) rfl ?_
          exact ⟨by rw [HRES.out, if_neg (by first | (simp; done) | (intro h; omega))]; rfl, (O5.out.setRow (by omega)).below' (by omega)⟩
    · cases sy
      · go_wp2_with (refine wpList_store_at rfl 59 (.tmp 2) (.tmp 65) rfl rfl rfl G5.out size59a rfl rfl rfl ?_)
        refine bodyPost_ret (results_at2 rfl rfl (setRow_heap _ _ _ _ _ _ G5.out) Try.underlying59 rfl size59a rfl) rfl ?_
        exact ⟨by rw [HRES.out, if_neg (by first | (simp; done) | (intro h; omega))]; rfl, (O5.out.setRow (by omega)).below' (by omega)⟩
      · go_wp2_with (refine wpList_store_at rfl 59 (.tmp 2) (.tmp 65) rfl rfl rfl G5.out size59a rfl rfl rfl ?_)
        refine bodyPost_ret (results_at2 rfl rfl (setRow_heap _ _ _ _ _ _ G5.out) Try.underlying59 rfl size59a rfl) rfl ?_
        exact ⟨by rw [HRES.out, if_neg (by first | (simp; done) | (intro h; omega))]; rfl, (O5.out.setRow (by omega)).below' (by omega)⟩
  · obtain rfl : n = 1 := by omega
    obtain rfl : c = 1 := by omega
    go_enter Try.func45, Try.ntmps45
    go_wp2_with fail
    have hm1 : (stOf g 1).m ≤ 0 := by show 1 - 1 ≤ 0; omega
    refine Calls.mono (number_at _ E0.out ⟨off, 0, (by repeat' (first | (refine heap_alloc_at _ _ _ ?_; (first | rfl | (simp; done) | (simp; omega))) | (refine heap_alloc_past _ _ _ _ ?_))), hm1, by omega, (fun i hi => absurd (show i < 0 from hi) (by omega)), by omega, fun i => HG.out (i + 1), (by first | (simp; done) | (simp; omega))⟩) ?_
    rintro r w1 ⟨rfl, hrd, hol⟩
    have R1 := hid hrd
    have F1 := hid (hol.heap (by omega) (by repeat' (first | (refine heap_alloc_at _ _ _ ?_; (first | rfl | (simp; done) | (simp; omega))) | (refine heap_alloc_past _ _ _ _ ?_))) : w1.heap[w.heap.size + 1]? = some (.cells #[.bool true, .int .i64 0, .int .i64 0, .int .i64 0, .int .i64 0, .int .i64 0, .int .i64 0, .int .i64 0, .int .i64 0, .int .i64 0, .int .i64 0, .int .i64 0, .int .i64 0, .int .i64 0] 59))
    have G1 := hid (hol.heap (by omega) (by repeat' (first | (refine heap_alloc_at _ _ _ ?_; (first | rfl | (simp; done) | (simp; omega))) | (refine heap_alloc_past _ _ _ _ ?_))) : w1.heap[w.heap.size]? = some (.cells #[.bool false, .int .i64 0, .int .i64 0, .int .i64 0, .int .i64 0, .int .i64 0, .int .i64 0, .int .i64 0, .int .i64 0, .int .i64 0, .int .i64 0, .int .i64 0, .int .i64 0, .int .i64 0] 59))
    have O1 := hid ((((((Only.refl (w.heap.size + 1 + 1) w.heap.size w).alloc (by omega) _).alloc (by first | (simp; done) | (simp; omega)) _).alloc (by first | (simp; done) | (simp; omega)) _).trans hol (by first | (simp; done) | (simp; omega))) : Only (w.heap.size + 1 + 1) w.heap.size w w1)
    have hs1 := hol.size
    (try simp at hs1)
    have hc1 : w1.cell? ⟨w.heap.size + 1, 11, none⟩ = some (.int .i64 0) := (cell_row (j := 11) F1.out).trans rfl
    have hf1 : w1.frozen? ⟨w.heap.size + 1, 11, none⟩ = false := by have hh := F1.out; simp [World.frozen?, hh]
    clear hrd hol
    go_wp2_with fail
    refine Calls.mono (number_at _ E1.out (R1.out.set (by omega) (by omega) _)) ?_
    rintro r w2 ⟨rfl, hrd, hol⟩
    have R2 := hid hrd
    have F2 := hid (hol.heap (by omega) (heap_setCell F1.out _) : w2.heap[w.heap.size + 1]? = some (.cells #[.bool true, .int .i64 0, .int .i64 0, .int .i64 0, .int .i64 0, .int .i64 0, .int .i64 0, .int .i64 0, .int .i64 0, .int .i64 0, .int .i64 0, .int .i64 v0, .int .i64 0, .int .i64 0] 59))
    have G2 := hid (hol.heap (by omega) (heap_set_other G1.out (by omega) _) : w2.heap[w.heap.size]? = some (.cells #[.bool false, .int .i64 0, .int .i64 0, .int .i64 0, .int .i64 0, .int .i64 0, .int .i64 0, .int .i64 0, .int .i64 0, .int .i64 0, .int .i64 0, .int .i64 0, .int .i64 0, .int .i64 0] 59))
    have O2 := hid (((O1.out.set (by omega) _).trans hol (by first | (simp; done) | (simp; omega))) : Only (w.heap.size + 1 + 1) w.heap.size w w2)
    have hs2 := hol.size
    (try simp at hs2)
    have hc2 : w2.cell? ⟨w.heap.size + 1, 12, none⟩ = some (.int .i64 0) := (cell_row (j := 12) F2.out).trans rfl
    have hf2 : w2.frozen? ⟨w.heap.size + 1, 12, none⟩ = false := by have hh := F2.out; simp [World.frozen?, hh]
    clear hrd hol
    go_wp2_with fail
    refine Calls.mono (number_at _ E2.out (R2.out.set (by omega) (by omega) _)) ?_
    rintro r w3 ⟨rfl, hrd, hol⟩
    have R3 := hid hrd
    have F3 := hid (hol.heap (by omega) (heap_setCell F2.out _) : w3.heap[w.heap.size + 1]? = some (.cells #[.bool true, .int .i64 0, .int .i64 0, .int .i64 0, .int .i64 0, .int .i64 0, .int .i64 0, .int .i64 0, .int .i64 0, .int .i64 0, .int .i64 0, .int .i64 v0, .int .i64 v1, .int .i64 0] 59))
    have G3 := hid (hol.heap (by omega) (heap_set_other G2.out (by omega) _) : w3.heap[w.heap.size]? = some (.cells #[.bool false, .int .i64 0, .int .i64 0, .int .i64 0, .int .i64 0, .int .i64 0, .int .i64 0, .int .i64 0, .int .i64 0, .int .i64 0, .int .i64 0, .int .i64 0, .int .i64 0, .int .i64 0] 59))
    have O3 := hid (((O2.out.set (by omega) _).trans hol (by first | (simp; done) | (simp; omega))) : Only (w.heap.size + 1 + 1) w.heap.size w w3)
    have hs3 := hol.size
    (try simp at hs3)
    have hc3 : w3.cell? ⟨w.heap.size + 1, 13, none⟩ = some (.int .i64 0) := (cell_row (j := 13) F3.out).trans rfl
    have hf3 : w3.frozen? ⟨w.heap.size + 1, 13, none⟩ = false := by have hh := F3.out; simp [World.frozen?, hh]
    clear hrd hol
    have k1 : w3.cell? ⟨w.heap.size + 1, 1, none⟩ = some (.int .i64 0) := (cell_row (j := 1) F3.out).trans rfl
    have k2 : w3.cell? ⟨w.heap.size + 1, 2, none⟩ = some (.int .i64 0) := (cell_row (j := 2) F3.out).trans rfl
    have k3 : w3.cell? ⟨w.heap.size + 1, 3, none⟩ = some (.int .i64 0) := (cell_row (j := 3) F3.out).trans rfl
    have k4 : w3.cell? ⟨w.heap.size + 1, 4, none⟩ = some (.int .i64 0) := (cell_row (j := 4) F3.out).trans rfl
    have k5 : w3.cell? ⟨w.heap.size + 1, 5, none⟩ = some (.int .i64 0) := (cell_row (j := 5) F3.out).trans rfl
    have k6 : w3.cell? ⟨w.heap.size + 1, 6, none⟩ = some (.int .i64 0) := (cell_row (j := 6) F3.out).trans rfl
    have k7 : w3.cell? ⟨w.heap.size + 1, 7, none⟩ = some (.int .i64 0) := (cell_row (j := 7) F3.out).trans rfl
    have k8 : w3.cell? ⟨w.heap.size + 1, 8, none⟩ = some (.int .i64 0) := (cell_row (j := 8) F3.out).trans rfl
    have k9 : w3.cell? ⟨w.heap.size + 1, 9, none⟩ = some (.int .i64 0) := (cell_row (j := 9) F3.out).trans rfl
    have k10 : w3.cell? ⟨w.heap.size + 1, 10, none⟩ = some (.int .i64 0) := (cell_row (j := 10) F3.out).trans rfl
    have k0 : w3.cell? ⟨w.heap.size + 1, 0, none⟩ = some (.bool true) := (cell_row (j := 0) F3.out).trans rfl
    have k11 : w3.cell? ⟨w.heap.size + 1, 11, none⟩ = some (.int .i64 (v0)) := (cell_row (j := 11) F3.out).trans rfl
    have k12 : w3.cell? ⟨w.heap.size + 1, 12, none⟩ = some (.int .i64 (v1)) := (cell_row (j := 12) F3.out).trans rfl
    have k13 : w3.cell? ⟨w.heap.size + 1, 13, none⟩ = some (.int .i64 (0)) := (cell_row (j := 13) F3.out).trans rfl
    go_wp2_with fail
    refine (xFix_any 0 0 0 0 0 0 0 0 0 0 _).mono ?_
    rintro r w4 ⟨rfl, hb4⟩
    rw [fix_zero]
    have F4 := hid (heap_still hb4 (heap_setCell F3.out (.int .i64 v2)) : w4.heap[w.heap.size + 1]? = some (.cells #[.bool true, .int .i64 0, .int .i64 0, .int .i64 0, .int .i64 0, .int .i64 0, .int .i64 0, .int .i64 0, .int .i64 0, .int .i64 0, .int .i64 0, .int .i64 v0, .int .i64 v1, .int .i64 v2] 59))
    clear k0 k1 k2 k3 k4 k5 k6 k7 k8 k9 k10 k11 k12 k13
    have k0 : w4.cell? ⟨w.heap.size + 1, 0, none⟩ = some (.bool true) := (cell_row (j := 0) F4.out).trans rfl
    have k11 : w4.cell? ⟨w.heap.size + 1, 11, none⟩ = some (.int .i64 (v0)) := (cell_row (j := 11) F4.out).trans rfl
    have k12 : w4.cell? ⟨w.heap.size + 1, 12, none⟩ = some (.int .i64 (v1)) := (cell_row (j := 12) F4.out).trans rfl
    have k13 : w4.cell? ⟨w.heap.size + 1, 13, none⟩ = some (.int .i64 (v2)) := (cell_row (j := 13) F4.out).trans rfl
    have G4 := hid (heap_still hb4 (heap_set_other G3.out (by omega) (.int .i64 v2)))
    have O4 := hid ((O3.out.set (by omega) (.int .i64 v2)).trans (Only.of_below hb4) (by first | (simp; done) | (simp; omega)))
    have R4 := hid (rd_still (R3.out.set (by omega) (by omega) (.int .i64 v2)) hb4)
    have hs4 := hb4.size
    (try simp at hs4)
    clear hb4
    go_wp2_with fail
    refine (xSync_any v0 v1 v2 _).mono ?_
    rintro r w5 ⟨rfl, hb5⟩
    have F5 := hid (heap_still hb5 F4.out)
    have G5 := hid (heap_still hb5 G4.out)
    have O5 := hid (O4.out.trans (Only.of_below hb5) (by omega))
    have hs5 := hb5.size
    obtain ⟨o5, c5, hr5, hm5, hcc5, _⟩ := rd_still R4.out hb5
    have HR5 := hid hr5
    have p0 : w5.cell? ⟨w.heap.size + 1 + 1, 0, none⟩ = some (.slice (some ⟨b, o5, none⟩) s3.m c5) := (cell_row (j := 0) hr5).trans rfl
    have p1 : w5.cell? ⟨w.heap.size + 1 + 1, 1, none⟩ = some (.bool s3.bad) := (cell_row (j := 1) hr5).trans rfl
    clear hb5 hr5 k0 k11 k12 k13
    generalize s3.bad = bad at *
    generalize s3.m = mm at *
    generalize syncB v0 v1 v2 = sy at *
    cases bad
    · rcases Nat.eq_zero_or_pos mm with rfl | hmm
      · cases sy
        · go_wp2_with (refine wpList_store_at rfl 59 (.tmp 2) (.tmp 65) rfl rfl rfl G5.out size59a rfl rfl rfl ?_)
          refine bodyPost_ret (results_at2 rfl rfl (setRow_heap _ _ _ _ _ _ G5.out) Try.underlying59 rfl size59a rfl) rfl ?_
          exact ⟨by rw [HRES.out, if_neg (by first | (simp; done) | (intro h; omega))]; rfl, (O5.out.setRow (by omega)).below' (by omega)⟩
        · go_wp2_with (first | (refine wpList_load_at rfl 59 (.tmp 4) rfl rfl F5.out Try.underlying59 rfl size59a rfl ?_) | (refine wpList_store_at rfl 59 (.tmp 2) (.tmp 66) rfl rfl rfl G5.out size59a rfl rfl rfl ?_))
          refine bodyPost_ret (results_at2 rfl rfl (setRow_heap _ _ _ _ _ _ G5.out) Try.underlying59 rfl size59a rfl) rfl ?_
          exact ⟨by rw [HRES.out, if_pos (by simp)]; rfl, (O5.out.setRow (by omega)).below' (by omega)⟩
      · cases sy
        · go_wp2_with (refine wpList_store_at rfl 59 (.tmp 2) (.tmp 65) rfl rfl rfl G5.out size59a rfl rfl rfl ?_)
          refine bodyPost_ret (results_at2 rfl rfl (setRow_heap _ _ _ _ _ _ G5.out) Try.underlying59 rfl size59a rfl) rfl ?_
          exact ⟨by rw [HRES.out, if_neg (by first | (simp; done) | (intro h; omega))]; rfl, (O5.out.setRow (by omega)).below' (by omega)⟩
        · go_wp2_with (refine wpList_store_at rfl 59 (.tmp 2) (.tmp 65) rfl rfl rfl G5.out size59a rfl rfl rfl ?_)
          refine bodyPost_ret (results_at2 rfl rfl (setRow_heap _ _ _ _ _ _ G5.out) Try.underlying59 rfl size59a rfl) rfl ?_
          exact ⟨by rw [HRES.out, if_neg (by first | (simp; done) | (intro h; omega))]; rfl, (O5.out.setRow (by omega)).below' (by omega)⟩
    · cases sy
      · go_wp2_with (refine wpList_store_at rfl 59 (.tmp 2) (.tmp 65) rfl rfl rfl G5.out size59a rfl rfl rfl ?_)
        refine bodyPost_ret (results_at2 rfl rfl (setRow_heap _ _ _ _ _ _ G5.out) Try.underlying59 rfl size59a rfl) rfl ?_
        exact ⟨by rw [HRES.out, if_neg (by first | (simp; done) | (intro h; omega))]; rfl, (O5.out.setRow (by omega)).below' (by omega)⟩
      · go_wp2_with (refine wpList_store_at rfl 59 (.tmp 2) (.tmp 65) rfl rfl rfl G5.out size59a rfl rfl rfl ?_)
        refine bodyPost_ret (results_at2 rfl rfl (setRow_heap _ _ _ _ _ _ G5.out) Try.underlying59 rfl size59a rfl) rfl ?_
        exact ⟨by rw [HRES.out, if_neg (by first | (simp; done) | (intro h; omega))]; rfl, (O5.out.setRow (by omega)).below' (by omega)⟩
end Go.Proofs.Yteoikaedpgianaa
