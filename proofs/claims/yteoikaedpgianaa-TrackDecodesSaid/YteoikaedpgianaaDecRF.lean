/- A fix read by the reference. -/
import Derived.Test.YteoikaedpgianaaDecR
import Derived.Test.YteoikaedpgianaaDecXF
namespace Go.Proofs.Yteoikaedpgianaa
open Go.RowKit

set_option maxRecDepth 100000 in
set_option maxHeartbeats 6400000 in
theorem rDecodeFix (b off n c : Nat) (g : Nat → Nat) (s1 s2 s3 s4 s5 s6 s7 s8 s9 s10 : St) (v0 v1 v2 v3 v4 v5 v6 v7 v8 v9 : Int) (w : World) (hn : 0 < n) (hnc : n ≤ c) (hc : c ≤ 9223372036854775807) (hb : bytesAt w b off n g) (hg : ∀ i, g i < 256) (hbw : b < w.heap.size) (hg0 : g 0 = 0)
    (e0 : nextS false (stOf g n) = (v0, s1)) (e1 : nextS true s1 = (v1, s2)) (e2 : nextS true s2 = (v2, s3)) (e3 : nextS true s3 = (v3, s4)) (e4 : nextS false s4 = (v4, s5)) (e5 : nextS true s5 = (v5, s6)) (e6 : nextS true s6 = (v6, s7)) (e7 : nextS true s7 = (v7, s8)) (e8 : nextS true s8 = (v8, s9)) (e9 : nextS false s9 = (v9, s10)) :
    Calls Try.prog 46 #[.slice (some ⟨b, off, none⟩) n c] w fun r w' => r = .returned (if (s10.bad = false ∧ s10.m = 0) ∧ fixB v0 v1 v2 v3 v4 v5 v6 v7 v8 v9 = true then fixNav v0 v1 v2 v3 v4 v5 v6 v7 v8 v9 else noNav) ∧ Below w.heap.size w w' := by
  obtain ⟨res, hres⟩ : ∃ res, res = (if (s10.bad = false ∧ s10.m = 0) ∧ fixB v0 v1 v2 v3 v4 v5 v6 v7 v8 v9 = true then fixNav v0 v1 v2 v3 v4 v5 v6 v7 v8 v9 else noNav) := ⟨_, rfl⟩
  rw [← hres]
  have HRES := hid hres
  clear hres
  have E0 := hid e0
  have E1 := hid e1
  have E2 := hid e2
  have E3 := hid e3
  have E4 := hid e4
  have E5 := hid e5
  have E6 := hid e6
  have E7 := hid e7
  have E8 := hid e8
  have E9 := hid e9
  have hnz : ((n : Int) == 0) = false := by simp; omega
  have hc0 : w.cell? ⟨b, off, none⟩ = some (.int .u8 0) := by have := hb 0 hn; rw [hg0] at this; exact this
  have hca : ∀ o1 o2 o3, (((w.alloc o1).alloc o2).alloc o3).cell? ⟨b, off, none⟩ = some (.int .u8 0) := fun _ _ _ => cell_past (cell_past (cell_past hc0))
  have HB := hid hb
  have HG := hid hg
  clear e0 e1 e2 e3 e4 e5 e6 e7 e8 e9 hb hg hg0
  by_cases hc1 : 1 < c
  · go_enter Try.func46, Try.ntmps46
    go_wp2_with fail
    have hm1 : (stOf g n).m ≤ c - 1 := by show n - 1 ≤ c - 1; omega
    refine Calls.mono (next_at _ E0.out ⟨off + 1, c - 1, (by repeat' (first | (refine heap_alloc_at _ _ _ ?_; (first | rfl | (simp; done) | (simp; omega))) | (refine heap_alloc_past _ _ _ _ ?_))), hm1, by omega, cells_tail HB.out hbw (by (repeat' (first | (with_reducible exact Below.refl _ _) | (with_reducible assumption) | (with_reducible refine Below.alloc ?_ ?_ _) | (with_reducible refine Below.drew ?_) | (with_reducible refine below_drewN ?_ _) | (with_reducible refine Below.setCell ?_ ?_ _) | (with_reducible refine below_setRow ?_ ?_ _) | go_size))), by omega, fun i => HG.out (i + 1), (by first | (simp; done) | (simp; omega))⟩) ?_
    rintro r w1 ⟨rfl, hrd, hol⟩
    have R1 := hid hrd
    have F1 := hid (hol.heap (by omega) (by repeat' (first | (refine heap_alloc_at _ _ _ ?_; (first | rfl | (simp; done) | (simp; omega))) | (refine heap_alloc_past _ _ _ _ ?_))) : w1.heap[w.heap.size + 1 + 1]? = some (.cells #[.bool false, .int .i64 0, .int .i64 0, .int .i64 0, .int .i64 0, .int .i64 0, .int .i64 0, .int .i64 0, .int .i64 0, .int .i64 0, .int .i64 0, .int .i64 0, .int .i64 0, .int .i64 0] 59))
    have G1 := hid (hol.heap (by omega) (by repeat' (first | (refine heap_alloc_at _ _ _ ?_; (first | rfl | (simp; done) | (simp; omega))) | (refine heap_alloc_past _ _ _ _ ?_))) : w1.heap[w.heap.size]? = some (.cells #[.bool false, .int .i64 0, .int .i64 0, .int .i64 0, .int .i64 0, .int .i64 0, .int .i64 0, .int .i64 0, .int .i64 0, .int .i64 0, .int .i64 0, .int .i64 0, .int .i64 0, .int .i64 0] 59))
    have O1 := hid ((((((Only.refl (w.heap.size + 1) w.heap.size w).alloc (by omega) _).alloc (by first | (simp; done) | (simp; omega)) _).alloc (by first | (simp; done) | (simp; omega)) _).trans hol (by first | (simp; done) | (simp; omega))) : Only (w.heap.size + 1) w.heap.size w w1)
    have hs1 := hol.size
    (try simp at hs1)
    have hc1 : w1.cell? ⟨w.heap.size + 1 + 1, 1, none⟩ = some (.int .i64 0) := (cell_row (j := 1) F1.out).trans rfl
    have hf1 : w1.frozen? ⟨w.heap.size + 1 + 1, 1, none⟩ = false := by have hh := F1.out; simp [World.frozen?, hh]
    clear hrd hol
    go_wp2_with fail
    refine wp_loop_rounds 4 ?_
    rw [rounds_succ]
    go_wp2_with fail
    refine Calls.mono (next_at _ E1.out (R1.out.set (by omega) (by omega) _)) ?_
    rintro r w2 ⟨rfl, hrd, hol⟩
    have R2 := hid hrd
    have F2 := hid (hol.heap (by omega) (heap_setCell F1.out _) : w2.heap[w.heap.size + 1 + 1]? = some (.cells #[.bool false, .int .i64 v0, .int .i64 0, .int .i64 0, .int .i64 0, .int .i64 0, .int .i64 0, .int .i64 0, .int .i64 0, .int .i64 0, .int .i64 0, .int .i64 0, .int .i64 0, .int .i64 0] 59))
    have G2 := hid (hol.heap (by omega) (heap_set_other G1.out (by omega) _) : w2.heap[w.heap.size]? = some (.cells #[.bool false, .int .i64 0, .int .i64 0, .int .i64 0, .int .i64 0, .int .i64 0, .int .i64 0, .int .i64 0, .int .i64 0, .int .i64 0, .int .i64 0, .int .i64 0, .int .i64 0, .int .i64 0] 59))
    have O2 := hid (((O1.out.set (by omega) _).trans hol (by first | (simp; done) | (simp; omega))) : Only (w.heap.size + 1) w.heap.size w w2)
    have hs2 := hol.size
    (try simp at hs2)
    have hc2 : w2.cell? ⟨w.heap.size + 1 + 1, 2, none⟩ = some (.int .i64 0) := (cell_row (j := 2) F2.out).trans rfl
    have hf2 : w2.frozen? ⟨w.heap.size + 1 + 1, 2, none⟩ = false := by have hh := F2.out; simp [World.frozen?, hh]
    clear hrd hol
    go_wp2_with fail
    try (rw [rounds_succ]; go_wp2_with fail)
    refine Calls.mono (next_at _ E2.out (R2.out.set (by omega) (by omega) _)) ?_
    rintro r w3 ⟨rfl, hrd, hol⟩
    have R3 := hid hrd
    have F3 := hid (hol.heap (by omega) (heap_setCell F2.out _) : w3.heap[w.heap.size + 1 + 1]? = some (.cells #[.bool false, .int .i64 v0, .int .i64 v1, .int .i64 0, .int .i64 0, .int .i64 0, .int .i64 0, .int .i64 0, .int .i64 0, .int .i64 0, .int .i64 0, .int .i64 0, .int .i64 0, .int .i64 0] 59))
    have G3 := hid (hol.heap (by omega) (heap_set_other G2.out (by omega) _) : w3.heap[w.heap.size]? = some (.cells #[.bool false, .int .i64 0, .int .i64 0, .int .i64 0, .int .i64 0, .int .i64 0, .int .i64 0, .int .i64 0, .int .i64 0, .int .i64 0, .int .i64 0, .int .i64 0, .int .i64 0, .int .i64 0] 59))
    have O3 := hid (((O2.out.set (by omega) _).trans hol (by first | (simp; done) | (simp; omega))) : Only (w.heap.size + 1) w.heap.size w w3)
    have hs3 := hol.size
    (try simp at hs3)
    have hc3 : w3.cell? ⟨w.heap.size + 1 + 1, 3, none⟩ = some (.int .i64 0) := (cell_row (j := 3) F3.out).trans rfl
    have hf3 : w3.frozen? ⟨w.heap.size + 1 + 1, 3, none⟩ = false := by have hh := F3.out; simp [World.frozen?, hh]
    clear hrd hol
    go_wp2_with fail
    try (rw [rounds_succ]; go_wp2_with fail)
    refine Calls.mono (next_at _ E3.out (R3.out.set (by omega) (by omega) _)) ?_
    rintro r w4 ⟨rfl, hrd, hol⟩
    have R4 := hid hrd
    have F4 := hid (hol.heap (by omega) (heap_setCell F3.out _) : w4.heap[w.heap.size + 1 + 1]? = some (.cells #[.bool false, .int .i64 v0, .int .i64 v1, .int .i64 v2, .int .i64 0, .int .i64 0, .int .i64 0, .int .i64 0, .int .i64 0, .int .i64 0, .int .i64 0, .int .i64 0, .int .i64 0, .int .i64 0] 59))
    have G4 := hid (hol.heap (by omega) (heap_set_other G3.out (by omega) _) : w4.heap[w.heap.size]? = some (.cells #[.bool false, .int .i64 0, .int .i64 0, .int .i64 0, .int .i64 0, .int .i64 0, .int .i64 0, .int .i64 0, .int .i64 0, .int .i64 0, .int .i64 0, .int .i64 0, .int .i64 0, .int .i64 0] 59))
    have O4 := hid (((O3.out.set (by omega) _).trans hol (by first | (simp; done) | (simp; omega))) : Only (w.heap.size + 1) w.heap.size w w4)
    have hs4 := hol.size
    (try simp at hs4)
    have hc4 : w4.cell? ⟨w.heap.size + 1 + 1, 4, none⟩ = some (.int .i64 0) := (cell_row (j := 4) F4.out).trans rfl
    have hf4 : w4.frozen? ⟨w.heap.size + 1 + 1, 4, none⟩ = false := by have hh := F4.out; simp [World.frozen?, hh]
    clear hrd hol
    go_wp2_with fail
    try (rw [rounds_succ]; go_wp2_with fail)
    refine Calls.mono (next_at _ E4.out (R4.out.set (by omega) (by omega) _)) ?_
    rintro r w5 ⟨rfl, hrd, hol⟩
    have R5 := hid hrd
    have F5 := hid (hol.heap (by omega) (heap_setCell F4.out _) : w5.heap[w.heap.size + 1 + 1]? = some (.cells #[.bool false, .int .i64 v0, .int .i64 v1, .int .i64 v2, .int .i64 v3, .int .i64 0, .int .i64 0, .int .i64 0, .int .i64 0, .int .i64 0, .int .i64 0, .int .i64 0, .int .i64 0, .int .i64 0] 59))
    have G5 := hid (hol.heap (by omega) (heap_set_other G4.out (by omega) _) : w5.heap[w.heap.size]? = some (.cells #[.bool false, .int .i64 0, .int .i64 0, .int .i64 0, .int .i64 0, .int .i64 0, .int .i64 0, .int .i64 0, .int .i64 0, .int .i64 0, .int .i64 0, .int .i64 0, .int .i64 0, .int .i64 0] 59))
    have O5 := hid (((O4.out.set (by omega) _).trans hol (by first | (simp; done) | (simp; omega))) : Only (w.heap.size + 1) w.heap.size w w5)
    have hs5 := hol.size
    (try simp at hs5)
    have hc5 : w5.cell? ⟨w.heap.size + 1 + 1, 5, none⟩ = some (.int .i64 0) := (cell_row (j := 5) F5.out).trans rfl
    have hf5 : w5.frozen? ⟨w.heap.size + 1 + 1, 5, none⟩ = false := by have hh := F5.out; simp [World.frozen?, hh]
    clear hrd hol
    go_wp2_with fail
    refine wp_loop_rounds 5 ?_
    rw [rounds_succ]
    go_wp2_with fail
    refine Calls.mono (next_at _ E5.out (R5.out.set (by omega) (by omega) _)) ?_
    rintro r w6 ⟨rfl, hrd, hol⟩
    have R6 := hid hrd
    have F6 := hid (hol.heap (by omega) (heap_setCell F5.out _) : w6.heap[w.heap.size + 1 + 1]? = some (.cells #[.bool false, .int .i64 v0, .int .i64 v1, .int .i64 v2, .int .i64 v3, .int .i64 v4, .int .i64 0, .int .i64 0, .int .i64 0, .int .i64 0, .int .i64 0, .int .i64 0, .int .i64 0, .int .i64 0] 59))
    have G6 := hid (hol.heap (by omega) (heap_set_other G5.out (by omega) _) : w6.heap[w.heap.size]? = some (.cells #[.bool false, .int .i64 0, .int .i64 0, .int .i64 0, .int .i64 0, .int .i64 0, .int .i64 0, .int .i64 0, .int .i64 0, .int .i64 0, .int .i64 0, .int .i64 0, .int .i64 0, .int .i64 0] 59))
    have O6 := hid (((O5.out.set (by omega) _).trans hol (by first | (simp; done) | (simp; omega))) : Only (w.heap.size + 1) w.heap.size w w6)
    have hs6 := hol.size
    (try simp at hs6)
    have hc6 : w6.cell? ⟨w.heap.size + 1 + 1, 6, none⟩ = some (.int .i64 0) := (cell_row (j := 6) F6.out).trans rfl
    have hf6 : w6.frozen? ⟨w.heap.size + 1 + 1, 6, none⟩ = false := by have hh := F6.out; simp [World.frozen?, hh]
    clear hrd hol
    go_wp2_with fail
    try (rw [rounds_succ]; go_wp2_with fail)
    refine Calls.mono (next_at _ E6.out (R6.out.set (by omega) (by omega) _)) ?_
    rintro r w7 ⟨rfl, hrd, hol⟩
    have R7 := hid hrd
    have F7 := hid (hol.heap (by omega) (heap_setCell F6.out _) : w7.heap[w.heap.size + 1 + 1]? = some (.cells #[.bool false, .int .i64 v0, .int .i64 v1, .int .i64 v2, .int .i64 v3, .int .i64 v4, .int .i64 v5, .int .i64 0, .int .i64 0, .int .i64 0, .int .i64 0, .int .i64 0, .int .i64 0, .int .i64 0] 59))
    have G7 := hid (hol.heap (by omega) (heap_set_other G6.out (by omega) _) : w7.heap[w.heap.size]? = some (.cells #[.bool false, .int .i64 0, .int .i64 0, .int .i64 0, .int .i64 0, .int .i64 0, .int .i64 0, .int .i64 0, .int .i64 0, .int .i64 0, .int .i64 0, .int .i64 0, .int .i64 0, .int .i64 0] 59))
    have O7 := hid (((O6.out.set (by omega) _).trans hol (by first | (simp; done) | (simp; omega))) : Only (w.heap.size + 1) w.heap.size w w7)
    have hs7 := hol.size
    (try simp at hs7)
    have hc7 : w7.cell? ⟨w.heap.size + 1 + 1, 7, none⟩ = some (.int .i64 0) := (cell_row (j := 7) F7.out).trans rfl
    have hf7 : w7.frozen? ⟨w.heap.size + 1 + 1, 7, none⟩ = false := by have hh := F7.out; simp [World.frozen?, hh]
    clear hrd hol
    go_wp2_with fail
    try (rw [rounds_succ]; go_wp2_with fail)
    refine Calls.mono (next_at _ E7.out (R7.out.set (by omega) (by omega) _)) ?_
    rintro r w8 ⟨rfl, hrd, hol⟩
    have R8 := hid hrd
    have F8 := hid (hol.heap (by omega) (heap_setCell F7.out _) : w8.heap[w.heap.size + 1 + 1]? = some (.cells #[.bool false, .int .i64 v0, .int .i64 v1, .int .i64 v2, .int .i64 v3, .int .i64 v4, .int .i64 v5, .int .i64 v6, .int .i64 0, .int .i64 0, .int .i64 0, .int .i64 0, .int .i64 0, .int .i64 0] 59))
    have G8 := hid (hol.heap (by omega) (heap_set_other G7.out (by omega) _) : w8.heap[w.heap.size]? = some (.cells #[.bool false, .int .i64 0, .int .i64 0, .int .i64 0, .int .i64 0, .int .i64 0, .int .i64 0, .int .i64 0, .int .i64 0, .int .i64 0, .int .i64 0, .int .i64 0, .int .i64 0, .int .i64 0] 59))
    have O8 := hid (((O7.out.set (by omega) _).trans hol (by first | (simp; done) | (simp; omega))) : Only (w.heap.size + 1) w.heap.size w w8)
    have hs8 := hol.size
    (try simp at hs8)
    have hc8 : w8.cell? ⟨w.heap.size + 1 + 1, 8, none⟩ = some (.int .i64 0) := (cell_row (j := 8) F8.out).trans rfl
    have hf8 : w8.frozen? ⟨w.heap.size + 1 + 1, 8, none⟩ = false := by have hh := F8.out; simp [World.frozen?, hh]
    clear hrd hol
    go_wp2_with fail
    try (rw [rounds_succ]; go_wp2_with fail)
    refine Calls.mono (next_at _ E8.out (R8.out.set (by omega) (by omega) _)) ?_
    rintro r w9 ⟨rfl, hrd, hol⟩
    have R9 := hid hrd
    have F9 := hid (hol.heap (by omega) (heap_setCell F8.out _) : w9.heap[w.heap.size + 1 + 1]? = some (.cells #[.bool false, .int .i64 v0, .int .i64 v1, .int .i64 v2, .int .i64 v3, .int .i64 v4, .int .i64 v5, .int .i64 v6, .int .i64 v7, .int .i64 0, .int .i64 0, .int .i64 0, .int .i64 0, .int .i64 0] 59))
    have G9 := hid (hol.heap (by omega) (heap_set_other G8.out (by omega) _) : w9.heap[w.heap.size]? = some (.cells #[.bool false, .int .i64 0, .int .i64 0, .int .i64 0, .int .i64 0, .int .i64 0, .int .i64 0, .int .i64 0, .int .i64 0, .int .i64 0, .int .i64 0, .int .i64 0, .int .i64 0, .int .i64 0] 59))
    have O9 := hid (((O8.out.set (by omega) _).trans hol (by first | (simp; done) | (simp; omega))) : Only (w.heap.size + 1) w.heap.size w w9)
    have hs9 := hol.size
    (try simp at hs9)
    have hc9 : w9.cell? ⟨w.heap.size + 1 + 1, 9, none⟩ = some (.int .i64 0) := (cell_row (j := 9) F9.out).trans rfl
    have hf9 : w9.frozen? ⟨w.heap.size + 1 + 1, 9, none⟩ = false := by have hh := F9.out; simp [World.frozen?, hh]
    clear hrd hol
    go_wp2_with fail
    try (rw [rounds_succ]; go_wp2_with fail)
    refine Calls.mono (next_at _ E9.out (R9.out.set (by omega) (by omega) _)) ?_
    rintro r w10 ⟨rfl, hrd, hol⟩
    have R10 := hid hrd
    have F10 := hid (hol.heap (by omega) (heap_setCell F9.out _) : w10.heap[w.heap.size + 1 + 1]? = some (.cells #[.bool false, .int .i64 v0, .int .i64 v1, .int .i64 v2, .int .i64 v3, .int .i64 v4, .int .i64 v5, .int .i64 v6, .int .i64 v7, .int .i64 v8, .int .i64 0, .int .i64 0, .int .i64 0, .int .i64 0] 59))
    have G10 := hid (hol.heap (by omega) (heap_set_other G9.out (by omega) _) : w10.heap[w.heap.size]? = some (.cells #[.bool false, .int .i64 0, .int .i64 0, .int .i64 0, .int .i64 0, .int .i64 0, .int .i64 0, .int .i64 0, .int .i64 0, .int .i64 0, .int .i64 0, .int .i64 0, .int .i64 0, .int .i64 0] 59))
    have O10 := hid (((O9.out.set (by omega) _).trans hol (by first | (simp; done) | (simp; omega))) : Only (w.heap.size + 1) w.heap.size w w10)
    have hs10 := hol.size
    (try simp at hs10)
    have hc10 : w10.cell? ⟨w.heap.size + 1 + 1, 10, none⟩ = some (.int .i64 0) := (cell_row (j := 10) F10.out).trans rfl
    have hf10 : w10.frozen? ⟨w.heap.size + 1 + 1, 10, none⟩ = false := by have hh := F10.out; simp [World.frozen?, hh]
    clear hrd hol
    have FF := hid (heap_setCell (j := 10) F10.out (.int .i64 v9) : (w10.setCell ⟨w.heap.size + 1 + 1, 10, none⟩ (.int .i64 v9)).heap[w.heap.size + 1 + 1]? = some (.cells #[.bool false, .int .i64 v0, .int .i64 v1, .int .i64 v2, .int .i64 v3, .int .i64 v4, .int .i64 v5, .int .i64 v6, .int .i64 v7, .int .i64 v8, .int .i64 v9, .int .i64 0, .int .i64 0, .int .i64 0] 59))
    have GG := hid (heap_set_other (g := w.heap.size + 1 + 1) (j := 10) G10.out (by omega) (.int .i64 v9))
    have OO := hid (O10.out.set (g := w.heap.size + 1 + 1) (j := 10) (by omega) (.int .i64 v9))
    have RR := hid (R10.out.set (g := w.heap.size + 1 + 1) (j := 10) (by omega) (by omega) (.int .i64 v9))
    go_wp2_with (refine wpList_load_at rfl 59 (.tmp 5) rfl rfl FF.out Try.underlying59 rfl size59a rfl ?_)
    refine (rEnc_fix0 v0 v1 v2 v3 v4 v5 v6 v7 v8 v9 _).mono ?_
    rintro r w20 ⟨⟨ve, rfl⟩, hb5⟩
    have F5 := hid (heap_still hb5 FF.out)
    have G5 := hid (heap_still hb5 GG.out)
    have O5 := hid (OO.out.trans (Only.of_below hb5) (by first | (simp; done) | (simp; omega)))
    have hs5 := hb5.size
    (try simp at hs5)
    obtain ⟨o5, c5, hr5, hm5, hcc5, _⟩ := rd_still RR.out hb5
    have HR5 := hid hr5
    have p0 : w20.cell? ⟨w.heap.size + 1, 0, none⟩ = some (.slice (some ⟨b, o5, none⟩) s10.m c5) := (cell_row (j := 0) hr5).trans rfl
    have p1 : w20.cell? ⟨w.heap.size + 1, 1, none⟩ = some (.bool s10.bad) := (cell_row (j := 1) hr5).trans rfl
    clear hb5 hr5
    generalize s10.bad = bad at *
    generalize s10.m = mm at *
    generalize fixB v0 v1 v2 v3 v4 v5 v6 v7 v8 v9 = sy at *
    cases bad
    · rcases Nat.eq_zero_or_pos mm with rfl | hmm
      · cases sy
        · go_wp2_with (refine wpList_store_at rfl 59 (.tmp 2) (.tmp 94) rfl rfl rfl G5.out size59a rfl rfl rfl ?_)
          refine bodyPost_ret (results_at2 rfl rfl (setRow_heap _ _ _ _ _ _ G5.out) Try.underlying59 rfl size59a rfl) rfl ?_
          exact ⟨by rw [HRES.out, if_neg (by first | (simp; done) | (intro h; omega))]; rfl, (O5.out.setRow (by omega)).below' (by omega)⟩
        · go_wp2_with (first | (refine wpList_load_at rfl 59 (.tmp 5) rfl rfl F5.out Try.underlying59 rfl size59a rfl ?_) | (refine wpList_store_at rfl 59 (.tmp 2) (.tmp 95) rfl rfl rfl G5.out size59a rfl rfl rfl ?_))
          refine bodyPost_ret (results_at2 rfl rfl (setRow_heap _ _ _ _ _ _ G5.out) Try.underlying59 rfl size59a rfl) rfl ?_
          exact ⟨by rw [HRES.out, if_pos (by simp)]; rfl, (O5.out.setRow (by omega)).below' (by omega)⟩
      · cases sy
        · go_wp2_with (refine wpList_store_at rfl 59 (.tmp 2) (.tmp 94) rfl rfl rfl G5.out size59a rfl rfl rfl ?_)
          refine bodyPost_ret (results_at2 rfl rfl (setRow_heap _ _ _ _ _ _ G5.out) Try.underlying59 rfl size59a rfl) rfl ?_
          exact ⟨by rw [HRES.out, if_neg (by first | (simp; done) | (intro h; omega))]; rfl, (O5.out.setRow (by omega)).below' (by omega)⟩
        · go_wp2_with (refine wpList_store_at rfl 59 (.tmp 2) (.tmp 94) rfl rfl rfl G5.out size59a rfl rfl rfl ?_)
          refine bodyPost_ret (results_at2 rfl rfl (setRow_heap _ _ _ _ _ _ G5.out) Try.underlying59 rfl size59a rfl) rfl ?_
          exact ⟨by rw [HRES.out, if_neg (by first | (simp; done) | (intro h; omega))]; rfl, (O5.out.setRow (by omega)).below' (by omega)⟩
    · cases sy
      · go_wp2_with (refine wpList_store_at rfl 59 (.tmp 2) (.tmp 94) rfl rfl rfl G5.out size59a rfl rfl rfl ?_)
        refine bodyPost_ret (results_at2 rfl rfl (setRow_heap _ _ _ _ _ _ G5.out) Try.underlying59 rfl size59a rfl) rfl ?_
        exact ⟨by rw [HRES.out, if_neg (by first | (simp; done) | (intro h; omega))]; rfl, (O5.out.setRow (by omega)).below' (by omega)⟩
      · go_wp2_with (refine wpList_store_at rfl 59 (.tmp 2) (.tmp 94) rfl rfl rfl G5.out size59a rfl rfl rfl ?_)
        refine bodyPost_ret (results_at2 rfl rfl (setRow_heap _ _ _ _ _ _ G5.out) Try.underlying59 rfl size59a rfl) rfl ?_
        exact ⟨by rw [HRES.out, if_neg (by first | (simp; done) | (intro h; omega))]; rfl, (O5.out.setRow (by omega)).below' (by omega)⟩
  · obtain rfl : n = 1 := by omega
    obtain rfl : c = 1 := by omega
    go_enter Try.func46, Try.ntmps46
    go_wp2_with fail
    have hm1 : (stOf g 1).m ≤ 0 := by show 1 - 1 ≤ 0; omega
    refine Calls.mono (next_at _ E0.out ⟨off, 0, (by repeat' (first | (refine heap_alloc_at _ _ _ ?_; (first | rfl | (simp; done) | (simp; omega))) | (refine heap_alloc_past _ _ _ _ ?_))), hm1, by omega, (fun i hi => absurd (show i < 0 from hi) (by omega)), by omega, fun i => HG.out (i + 1), (by first | (simp; done) | (simp; omega))⟩) ?_
    rintro r w1 ⟨rfl, hrd, hol⟩
    have R1 := hid hrd
    have F1 := hid (hol.heap (by omega) (by repeat' (first | (refine heap_alloc_at _ _ _ ?_; (first | rfl | (simp; done) | (simp; omega))) | (refine heap_alloc_past _ _ _ _ ?_))) : w1.heap[w.heap.size + 1 + 1]? = some (.cells #[.bool false, .int .i64 0, .int .i64 0, .int .i64 0, .int .i64 0, .int .i64 0, .int .i64 0, .int .i64 0, .int .i64 0, .int .i64 0, .int .i64 0, .int .i64 0, .int .i64 0, .int .i64 0] 59))
    have G1 := hid (hol.heap (by omega) (by repeat' (first | (refine heap_alloc_at _ _ _ ?_; (first | rfl | (simp; done) | (simp; omega))) | (refine heap_alloc_past _ _ _ _ ?_))) : w1.heap[w.heap.size]? = some (.cells #[.bool false, .int .i64 0, .int .i64 0, .int .i64 0, .int .i64 0, .int .i64 0, .int .i64 0, .int .i64 0, .int .i64 0, .int .i64 0, .int .i64 0, .int .i64 0, .int .i64 0, .int .i64 0] 59))
    have O1 := hid ((((((Only.refl (w.heap.size + 1) w.heap.size w).alloc (by omega) _).alloc (by first | (simp; done) | (simp; omega)) _).alloc (by first | (simp; done) | (simp; omega)) _).trans hol (by first | (simp; done) | (simp; omega))) : Only (w.heap.size + 1) w.heap.size w w1)
    have hs1 := hol.size
    (try simp at hs1)
    have hc1 : w1.cell? ⟨w.heap.size + 1 + 1, 1, none⟩ = some (.int .i64 0) := (cell_row (j := 1) F1.out).trans rfl
    have hf1 : w1.frozen? ⟨w.heap.size + 1 + 1, 1, none⟩ = false := by have hh := F1.out; simp [World.frozen?, hh]
    clear hrd hol
    go_wp2_with fail
    refine wp_loop_rounds 4 ?_
    rw [rounds_succ]
    go_wp2_with fail
    refine Calls.mono (next_at _ E1.out (R1.out.set (by omega) (by omega) _)) ?_
    rintro r w2 ⟨rfl, hrd, hol⟩
    have R2 := hid hrd
    have F2 := hid (hol.heap (by omega) (heap_setCell F1.out _) : w2.heap[w.heap.size + 1 + 1]? = some (.cells #[.bool false, .int .i64 v0, .int .i64 0, .int .i64 0, .int .i64 0, .int .i64 0, .int .i64 0, .int .i64 0, .int .i64 0, .int .i64 0, .int .i64 0, .int .i64 0, .int .i64 0, .int .i64 0] 59))
    have G2 := hid (hol.heap (by omega) (heap_set_other G1.out (by omega) _) : w2.heap[w.heap.size]? = some (.cells #[.bool false, .int .i64 0, .int .i64 0, .int .i64 0, .int .i64 0, .int .i64 0, .int .i64 0, .int .i64 0, .int .i64 0, .int .i64 0, .int .i64 0, .int .i64 0, .int .i64 0, .int .i64 0] 59))
    have O2 := hid (((O1.out.set (by omega) _).trans hol (by first | (simp; done) | (simp; omega))) : Only (w.heap.size + 1) w.heap.size w w2)
    have hs2 := hol.size
    (try simp at hs2)
    have hc2 : w2.cell? ⟨w.heap.size + 1 + 1, 2, none⟩ = some (.int .i64 0) := (cell_row (j := 2) F2.out).trans rfl
    have hf2 : w2.frozen? ⟨w.heap.size + 1 + 1, 2, none⟩ = false := by have hh := F2.out; simp [World.frozen?, hh]
    clear hrd hol
    go_wp2_with fail
    try (rw [rounds_succ]; go_wp2_with fail)
    refine Calls.mono (next_at _ E2.out (R2.out.set (by omega) (by omega) _)) ?_
    rintro r w3 ⟨rfl, hrd, hol⟩
    have R3 := hid hrd
    have F3 := hid (hol.heap (by omega) (heap_setCell F2.out _) : w3.heap[w.heap.size + 1 + 1]? = some (.cells #[.bool false, .int .i64 v0, .int .i64 v1, .int .i64 0, .int .i64 0, .int .i64 0, .int .i64 0, .int .i64 0, .int .i64 0, .int .i64 0, .int .i64 0, .int .i64 0, .int .i64 0, .int .i64 0] 59))
    have G3 := hid (hol.heap (by omega) (heap_set_other G2.out (by omega) _) : w3.heap[w.heap.size]? = some (.cells #[.bool false, .int .i64 0, .int .i64 0, .int .i64 0, .int .i64 0, .int .i64 0, .int .i64 0, .int .i64 0, .int .i64 0, .int .i64 0, .int .i64 0, .int .i64 0, .int .i64 0, .int .i64 0] 59))
    have O3 := hid (((O2.out.set (by omega) _).trans hol (by first | (simp; done) | (simp; omega))) : Only (w.heap.size + 1) w.heap.size w w3)
    have hs3 := hol.size
    (try simp at hs3)
    have hc3 : w3.cell? ⟨w.heap.size + 1 + 1, 3, none⟩ = some (.int .i64 0) := (cell_row (j := 3) F3.out).trans rfl
    have hf3 : w3.frozen? ⟨w.heap.size + 1 + 1, 3, none⟩ = false := by have hh := F3.out; simp [World.frozen?, hh]
    clear hrd hol
    go_wp2_with fail
    try (rw [rounds_succ]; go_wp2_with fail)
    refine Calls.mono (next_at _ E3.out (R3.out.set (by omega) (by omega) _)) ?_
    rintro r w4 ⟨rfl, hrd, hol⟩
    have R4 := hid hrd
    have F4 := hid (hol.heap (by omega) (heap_setCell F3.out _) : w4.heap[w.heap.size + 1 + 1]? = some (.cells #[.bool false, .int .i64 v0, .int .i64 v1, .int .i64 v2, .int .i64 0, .int .i64 0, .int .i64 0, .int .i64 0, .int .i64 0, .int .i64 0, .int .i64 0, .int .i64 0, .int .i64 0, .int .i64 0] 59))
    have G4 := hid (hol.heap (by omega) (heap_set_other G3.out (by omega) _) : w4.heap[w.heap.size]? = some (.cells #[.bool false, .int .i64 0, .int .i64 0, .int .i64 0, .int .i64 0, .int .i64 0, .int .i64 0, .int .i64 0, .int .i64 0, .int .i64 0, .int .i64 0, .int .i64 0, .int .i64 0, .int .i64 0] 59))
    have O4 := hid (((O3.out.set (by omega) _).trans hol (by first | (simp; done) | (simp; omega))) : Only (w.heap.size + 1) w.heap.size w w4)
    have hs4 := hol.size
    (try simp at hs4)
    have hc4 : w4.cell? ⟨w.heap.size + 1 + 1, 4, none⟩ = some (.int .i64 0) := (cell_row (j := 4) F4.out).trans rfl
    have hf4 : w4.frozen? ⟨w.heap.size + 1 + 1, 4, none⟩ = false := by have hh := F4.out; simp [World.frozen?, hh]
    clear hrd hol
    go_wp2_with fail
    try (rw [rounds_succ]; go_wp2_with fail)
    refine Calls.mono (next_at _ E4.out (R4.out.set (by omega) (by omega) _)) ?_
    rintro r w5 ⟨rfl, hrd, hol⟩
    have R5 := hid hrd
    have F5 := hid (hol.heap (by omega) (heap_setCell F4.out _) : w5.heap[w.heap.size + 1 + 1]? = some (.cells #[.bool false, .int .i64 v0, .int .i64 v1, .int .i64 v2, .int .i64 v3, .int .i64 0, .int .i64 0, .int .i64 0, .int .i64 0, .int .i64 0, .int .i64 0, .int .i64 0, .int .i64 0, .int .i64 0] 59))
    have G5 := hid (hol.heap (by omega) (heap_set_other G4.out (by omega) _) : w5.heap[w.heap.size]? = some (.cells #[.bool false, .int .i64 0, .int .i64 0, .int .i64 0, .int .i64 0, .int .i64 0, .int .i64 0, .int .i64 0, .int .i64 0, .int .i64 0, .int .i64 0, .int .i64 0, .int .i64 0, .int .i64 0] 59))
    have O5 := hid (((O4.out.set (by omega) _).trans hol (by first | (simp; done) | (simp; omega))) : Only (w.heap.size + 1) w.heap.size w w5)
    have hs5 := hol.size
    (try simp at hs5)
    have hc5 : w5.cell? ⟨w.heap.size + 1 + 1, 5, none⟩ = some (.int .i64 0) := (cell_row (j := 5) F5.out).trans rfl
    have hf5 : w5.frozen? ⟨w.heap.size + 1 + 1, 5, none⟩ = false := by have hh := F5.out; simp [World.frozen?, hh]
    clear hrd hol
    go_wp2_with fail
    refine wp_loop_rounds 5 ?_
    rw [rounds_succ]
    go_wp2_with fail
    refine Calls.mono (next_at _ E5.out (R5.out.set (by omega) (by omega) _)) ?_
    rintro r w6 ⟨rfl, hrd, hol⟩
    have R6 := hid hrd
    have F6 := hid (hol.heap (by omega) (heap_setCell F5.out _) : w6.heap[w.heap.size + 1 + 1]? = some (.cells #[.bool false, .int .i64 v0, .int .i64 v1, .int .i64 v2, .int .i64 v3, .int .i64 v4, .int .i64 0, .int .i64 0, .int .i64 0, .int .i64 0, .int .i64 0, .int .i64 0, .int .i64 0, .int .i64 0] 59))
    have G6 := hid (hol.heap (by omega) (heap_set_other G5.out (by omega) _) : w6.heap[w.heap.size]? = some (.cells #[.bool false, .int .i64 0, .int .i64 0, .int .i64 0, .int .i64 0, .int .i64 0, .int .i64 0, .int .i64 0, .int .i64 0, .int .i64 0, .int .i64 0, .int .i64 0, .int .i64 0, .int .i64 0] 59))
    have O6 := hid (((O5.out.set (by omega) _).trans hol (by first | (simp; done) | (simp; omega))) : Only (w.heap.size + 1) w.heap.size w w6)
    have hs6 := hol.size
    (try simp at hs6)
    have hc6 : w6.cell? ⟨w.heap.size + 1 + 1, 6, none⟩ = some (.int .i64 0) := (cell_row (j := 6) F6.out).trans rfl
    have hf6 : w6.frozen? ⟨w.heap.size + 1 + 1, 6, none⟩ = false := by have hh := F6.out; simp [World.frozen?, hh]
    clear hrd hol
    go_wp2_with fail
    try (rw [rounds_succ]; go_wp2_with fail)
    refine Calls.mono (next_at _ E6.out (R6.out.set (by omega) (by omega) _)) ?_
    rintro r w7 ⟨rfl, hrd, hol⟩
    have R7 := hid hrd
    have F7 := hid (hol.heap (by omega) (heap_setCell F6.out _) : w7.heap[w.heap.size + 1 + 1]? = some (.cells #[.bool false, .int .i64 v0, .int .i64 v1, .int .i64 v2, .int .i64 v3, .int .i64 v4, .int .i64 v5, .int .i64 0, .int .i64 0, .int .i64 0, .int .i64 0, .int .i64 0, .int .i64 0, .int .i64 0] 59))
    have G7 := hid (hol.heap (by omega) (heap_set_other G6.out (by omega) _) : w7.heap[w.heap.size]? = some (.cells #[.bool false, .int .i64 0, .int .i64 0, .int .i64 0, .int .i64 0, .int .i64 0, .int .i64 0, .int .i64 0, .int .i64 0, .int .i64 0, .int .i64 0, .int .i64 0, .int .i64 0, .int .i64 0] 59))
    have O7 := hid (((O6.out.set (by omega) _).trans hol (by first | (simp; done) | (simp; omega))) : Only (w.heap.size + 1) w.heap.size w w7)
    have hs7 := hol.size
    (try simp at hs7)
    have hc7 : w7.cell? ⟨w.heap.size + 1 + 1, 7, none⟩ = some (.int .i64 0) := (cell_row (j := 7) F7.out).trans rfl
    have hf7 : w7.frozen? ⟨w.heap.size + 1 + 1, 7, none⟩ = false := by have hh := F7.out; simp [World.frozen?, hh]
    clear hrd hol
    go_wp2_with fail
    try (rw [rounds_succ]; go_wp2_with fail)
    refine Calls.mono (next_at _ E7.out (R7.out.set (by omega) (by omega) _)) ?_
    rintro r w8 ⟨rfl, hrd, hol⟩
    have R8 := hid hrd
    have F8 := hid (hol.heap (by omega) (heap_setCell F7.out _) : w8.heap[w.heap.size + 1 + 1]? = some (.cells #[.bool false, .int .i64 v0, .int .i64 v1, .int .i64 v2, .int .i64 v3, .int .i64 v4, .int .i64 v5, .int .i64 v6, .int .i64 0, .int .i64 0, .int .i64 0, .int .i64 0, .int .i64 0, .int .i64 0] 59))
    have G8 := hid (hol.heap (by omega) (heap_set_other G7.out (by omega) _) : w8.heap[w.heap.size]? = some (.cells #[.bool false, .int .i64 0, .int .i64 0, .int .i64 0, .int .i64 0, .int .i64 0, .int .i64 0, .int .i64 0, .int .i64 0, .int .i64 0, .int .i64 0, .int .i64 0, .int .i64 0, .int .i64 0] 59))
    have O8 := hid (((O7.out.set (by omega) _).trans hol (by first | (simp; done) | (simp; omega))) : Only (w.heap.size + 1) w.heap.size w w8)
    have hs8 := hol.size
    (try simp at hs8)
    have hc8 : w8.cell? ⟨w.heap.size + 1 + 1, 8, none⟩ = some (.int .i64 0) := (cell_row (j := 8) F8.out).trans rfl
    have hf8 : w8.frozen? ⟨w.heap.size + 1 + 1, 8, none⟩ = false := by have hh := F8.out; simp [World.frozen?, hh]
    clear hrd hol
    go_wp2_with fail
    try (rw [rounds_succ]; go_wp2_with fail)
    refine Calls.mono (next_at _ E8.out (R8.out.set (by omega) (by omega) _)) ?_
    rintro r w9 ⟨rfl, hrd, hol⟩
    have R9 := hid hrd
    have F9 := hid (hol.heap (by omega) (heap_setCell F8.out _) : w9.heap[w.heap.size + 1 + 1]? = some (.cells #[.bool false, .int .i64 v0, .int .i64 v1, .int .i64 v2, .int .i64 v3, .int .i64 v4, .int .i64 v5, .int .i64 v6, .int .i64 v7, .int .i64 0, .int .i64 0, .int .i64 0, .int .i64 0, .int .i64 0] 59))
    have G9 := hid (hol.heap (by omega) (heap_set_other G8.out (by omega) _) : w9.heap[w.heap.size]? = some (.cells #[.bool false, .int .i64 0, .int .i64 0, .int .i64 0, .int .i64 0, .int .i64 0, .int .i64 0, .int .i64 0, .int .i64 0, .int .i64 0, .int .i64 0, .int .i64 0, .int .i64 0, .int .i64 0] 59))
    have O9 := hid (((O8.out.set (by omega) _).trans hol (by first | (simp; done) | (simp; omega))) : Only (w.heap.size + 1) w.heap.size w w9)
    have hs9 := hol.size
    (try simp at hs9)
    have hc9 : w9.cell? ⟨w.heap.size + 1 + 1, 9, none⟩ = some (.int .i64 0) := (cell_row (j := 9) F9.out).trans rfl
    have hf9 : w9.frozen? ⟨w.heap.size + 1 + 1, 9, none⟩ = false := by have hh := F9.out; simp [World.frozen?, hh]
    clear hrd hol
    go_wp2_with fail
    try (rw [rounds_succ]; go_wp2_with fail)
    refine Calls.mono (next_at _ E9.out (R9.out.set (by omega) (by omega) _)) ?_
    rintro r w10 ⟨rfl, hrd, hol⟩
    have R10 := hid hrd
    have F10 := hid (hol.heap (by omega) (heap_setCell F9.out _) : w10.heap[w.heap.size + 1 + 1]? = some (.cells #[.bool false, .int .i64 v0, .int .i64 v1, .int .i64 v2, .int .i64 v3, .int .i64 v4, .int .i64 v5, .int .i64 v6, .int .i64 v7, .int .i64 v8, .int .i64 0, .int .i64 0, .int .i64 0, .int .i64 0] 59))
    have G10 := hid (hol.heap (by omega) (heap_set_other G9.out (by omega) _) : w10.heap[w.heap.size]? = some (.cells #[.bool false, .int .i64 0, .int .i64 0, .int .i64 0, .int .i64 0, .int .i64 0, .int .i64 0, .int .i64 0, .int .i64 0, .int .i64 0, .int .i64 0, .int .i64 0, .int .i64 0, .int .i64 0] 59))
    have O10 := hid (((O9.out.set (by omega) _).trans hol (by first | (simp; done) | (simp; omega))) : Only (w.heap.size + 1) w.heap.size w w10)
    have hs10 := hol.size
    (try simp at hs10)
    have hc10 : w10.cell? ⟨w.heap.size + 1 + 1, 10, none⟩ = some (.int .i64 0) := (cell_row (j := 10) F10.out).trans rfl
    have hf10 : w10.frozen? ⟨w.heap.size + 1 + 1, 10, none⟩ = false := by have hh := F10.out; simp [World.frozen?, hh]
    clear hrd hol
    have FF := hid (heap_setCell (j := 10) F10.out (.int .i64 v9) : (w10.setCell ⟨w.heap.size + 1 + 1, 10, none⟩ (.int .i64 v9)).heap[w.heap.size + 1 + 1]? = some (.cells #[.bool false, .int .i64 v0, .int .i64 v1, .int .i64 v2, .int .i64 v3, .int .i64 v4, .int .i64 v5, .int .i64 v6, .int .i64 v7, .int .i64 v8, .int .i64 v9, .int .i64 0, .int .i64 0, .int .i64 0] 59))
    have GG := hid (heap_set_other (g := w.heap.size + 1 + 1) (j := 10) G10.out (by omega) (.int .i64 v9))
    have OO := hid (O10.out.set (g := w.heap.size + 1 + 1) (j := 10) (by omega) (.int .i64 v9))
    have RR := hid (R10.out.set (g := w.heap.size + 1 + 1) (j := 10) (by omega) (by omega) (.int .i64 v9))
    go_wp2_with (refine wpList_load_at rfl 59 (.tmp 5) rfl rfl FF.out Try.underlying59 rfl size59a rfl ?_)
    refine (rEnc_fix0 v0 v1 v2 v3 v4 v5 v6 v7 v8 v9 _).mono ?_
    rintro r w20 ⟨⟨ve, rfl⟩, hb5⟩
    have F5 := hid (heap_still hb5 FF.out)
    have G5 := hid (heap_still hb5 GG.out)
    have O5 := hid (OO.out.trans (Only.of_below hb5) (by first | (simp; done) | (simp; omega)))
    have hs5 := hb5.size
    (try simp at hs5)
    obtain ⟨o5, c5, hr5, hm5, hcc5, _⟩ := rd_still RR.out hb5
    have HR5 := hid hr5
    have p0 : w20.cell? ⟨w.heap.size + 1, 0, none⟩ = some (.slice (some ⟨b, o5, none⟩) s10.m c5) := (cell_row (j := 0) hr5).trans rfl
    have p1 : w20.cell? ⟨w.heap.size + 1, 1, none⟩ = some (.bool s10.bad) := (cell_row (j := 1) hr5).trans rfl
    clear hb5 hr5
    generalize s10.bad = bad at *
    generalize s10.m = mm at *
    generalize fixB v0 v1 v2 v3 v4 v5 v6 v7 v8 v9 = sy at *
    cases bad
    · rcases Nat.eq_zero_or_pos mm with rfl | hmm
      · cases sy
        · go_wp2_with (refine wpList_store_at rfl 59 (.tmp 2) (.tmp 94) rfl rfl rfl G5.out size59a rfl rfl rfl ?_)
          refine bodyPost_ret (results_at2 rfl rfl (setRow_heap _ _ _ _ _ _ G5.out) Try.underlying59 rfl size59a rfl) rfl ?_
          exact ⟨by rw [HRES.out, if_neg (by first | (simp; done) | (intro h; omega))]; rfl, (O5.out.setRow (by omega)).below' (by omega)⟩
        · go_wp2_with (first | (refine wpList_load_at rfl 59 (.tmp 5) rfl rfl F5.out Try.underlying59 rfl size59a rfl ?_) | (refine wpList_store_at rfl 59 (.tmp 2) (.tmp 95) rfl rfl rfl G5.out size59a rfl rfl rfl ?_))
          refine bodyPost_ret (results_at2 rfl rfl (setRow_heap _ _ _ _ _ _ G5.out) Try.underlying59 rfl size59a rfl) rfl ?_
          exact ⟨by rw [HRES.out, if_pos (by simp)]; rfl, (O5.out.setRow (by omega)).below' (by omega)⟩
      · cases sy
        · go_wp2_with (refine wpList_store_at rfl 59 (.tmp 2) (.tmp 94) rfl rfl rfl G5.out size59a rfl rfl rfl ?_)
          refine bodyPost_ret (results_at2 rfl rfl (setRow_heap _ _ _ _ _ _ G5.out) Try.underlying59 rfl size59a rfl) rfl ?_
          exact ⟨by rw [HRES.out, if_neg (by first | (simp; done) | (intro h; omega))]; rfl, (O5.out.setRow (by omega)).below' (by omega)⟩
        · go_wp2_with (refine wpList_store_at rfl 59 (.tmp 2) (.tmp 94) rfl rfl rfl G5.out size59a rfl rfl rfl ?_)
          refine bodyPost_ret (results_at2 rfl rfl (setRow_heap _ _ _ _ _ _ G5.out) Try.underlying59 rfl size59a rfl) rfl ?_
          exact ⟨by rw [HRES.out, if_neg (by first | (simp; done) | (intro h; omega))]; rfl, (O5.out.setRow (by omega)).below' (by omega)⟩
    · cases sy
      · go_wp2_with (refine wpList_store_at rfl 59 (.tmp 2) (.tmp 94) rfl rfl rfl G5.out size59a rfl rfl rfl ?_)
        refine bodyPost_ret (results_at2 rfl rfl (setRow_heap _ _ _ _ _ _ G5.out) Try.underlying59 rfl size59a rfl) rfl ?_
        exact ⟨by rw [HRES.out, if_neg (by first | (simp; done) | (intro h; omega))]; rfl, (O5.out.setRow (by omega)).below' (by omega)⟩
      · go_wp2_with (refine wpList_store_at rfl 59 (.tmp 2) (.tmp 94) rfl rfl rfl G5.out size59a rfl rfl rfl ?_)
        refine bodyPost_ret (results_at2 rfl rfl (setRow_heap _ _ _ _ _ _ G5.out) Try.underlying59 rfl size59a rfl) rfl ?_
        exact ⟨by rw [HRES.out, if_neg (by first | (simp; done) | (intro h; omega))]; rfl, (O5.out.setRow (by omega)).below' (by omega)⟩
end Go.Proofs.Yteoikaedpgianaa
