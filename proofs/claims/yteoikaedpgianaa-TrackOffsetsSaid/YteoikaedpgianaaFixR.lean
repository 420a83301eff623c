/- A fix read: what the program's reader returns. -/
import Derived.Test.YteoikaedpgianaaNext
import Derived.Test.YteoikaedpgianaaTrack
import Derived.LoopN
namespace Go.Proofs.Yteoikaedpgianaa
open Go.RowKit

def readsS : List Bool → St → List Int × St
  | [], s => ([], s)
  | f :: fs, s => ((nextS f s).1 :: (readsS fs (nextS f s).2).1, (readsS fs (nextS f s).2).2)
theorem readsS_cons {f : Bool} {fs : List Bool} {s s1 s2 : St} {v : Int} {vs : List Int} (h : nextS f s = (v, s1)) (h2 : readsS fs s1 = (vs, s2)) : readsS (f :: fs) s = (v :: vs, s2) := by
  unfold readsS; rw [h, h2]
theorem number_at {rb b : Nat} {s s' : St} {v : Int} (w : World) (hn : nextS false s = (v, s')) (h : RdAt w rb 145 b s) :
    Calls Try.prog 89 #[.pointer (some ⟨rb, 0, none⟩)] w fun r w' => r = .returned (.int .i64 v) ∧ RdAt w' rb 145 b s' ∧ Only rb w.heap.size w w' := by
  have := number_any rb b s w h
  rw [hn] at this; exact this
theorem signed_at {rb b : Nat} {s s' : St} {v : Int} (w : World) (hn : nextS true s = (v, s')) (h : RdAt w rb 145 b s) :
    Calls Try.prog 137 #[.pointer (some ⟨rb, 0, none⟩)] w fun r w' => r = .returned (.int .i64 v) ∧ RdAt w' rb 145 b s' ∧ Only rb w.heap.size w w' := by
  have := signed_any rb b s w h
  rw [hn] at this; exact this
theorem Only.alloc {rb B : Nat} {w W : World} (h : Only rb B w W) (hB : B ≤ W.heap.size) (o : Obj) : Only rb B w (W.alloc o) := by
  refine ⟨h.os, h.tape, h.output, by have := h.size; simp; omega, fun k hk hne => ?_⟩
  rw [Below.heap_alloc W o k (by omega)]
  exact h.block k hk hne
theorem Only.set {rb B g j : Nat} {w W : World} (h : Only rb B w W) (hB : B ≤ g) (v : Value) : Only rb B w (W.setCell ⟨g, j, none⟩ v) := by
  refine ⟨h.os, h.tape, h.output, by simpa using h.size, fun k hk hne => ?_⟩
  rw [Below.heap_setCell W ⟨g, j, none⟩ v k (by show k ≠ g; omega)]
  exact h.block k hk hne
theorem Only.setRow {rb B g : Nat} {w W : World} {cs : Array Value} (h : Only rb B w W) (hB : B ≤ g) : Only rb B w (W.setRow g cs) := by
  refine ⟨h.os, h.tape, h.output, by simpa using h.size, fun k hk hne => ?_⟩
  rw [← h.block k hk hne]
  show (W.heap.modify g _)[k]? = _
  rw [Array.getElem?_modify, if_neg (by omega)]
theorem Only.trans {rb B B1 : Nat} {w W W' : World} (h : Only rb B w W) (h2 : Only rb B1 W W') (hB : B ≤ B1) : Only rb B w W' :=
  ⟨h2.os.trans h.os, h2.tape.trans h.tape, h2.output.trans h.output, Nat.le_trans h.size h2.size, fun k hk hne => (h2.block k (by omega) hne).trans (h.block k hk hne)⟩
theorem RdAt.same {w w' : World} {rb ty b : Nat} {s : St} (h : RdAt w rb ty b s) (h1 : w'.heap[rb]? = w.heap[rb]?) (h2 : w'.heap[b]? = w.heap[b]?) (h3 : w.heap.size ≤ w'.heap.size) : RdAt w' rb ty b s := by
  obtain ⟨o, c, hr, hm, hc, hb, hne, hg, hbw⟩ := h
  refine ⟨o, c, h1.trans hr, hm, hc, fun i hi => ?_, hne, hg, by omega⟩
  rw [World.cell?_of_block (w := w) (w' := w') (a := ⟨b, o + i, none⟩) h2]
  exact hb i hi
theorem RdAt.rb_lt {w : World} {rb ty b : Nat} {s : St} (h : RdAt w rb ty b s) : rb < w.heap.size := by
  obtain ⟨o, c, hr, _⟩ := h
  exact (Array.getElem?_eq_some_iff.1 hr).1
theorem RdAt.b_lt {w : World} {rb ty b : Nat} {s : St} (h : RdAt w rb ty b s) : b < w.heap.size := by
  obtain ⟨o, c, hr, hm, hc, hb, hne, hg, hbw⟩ := h
  exact hbw
theorem RdAt.alloc {w : World} {rb ty b : Nat} {s : St} (h : RdAt w rb ty b s) (o : Obj) : RdAt (w.alloc o) rb ty b s :=
  h.same (Below.heap_alloc w o rb h.rb_lt) (Below.heap_alloc w o b h.b_lt) (by simp)
theorem RdAt.set {w : World} {rb ty b g j : Nat} {s : St} (h : RdAt w rb ty b s) (h1 : rb ≠ g) (h2 : b ≠ g) (v : Value) : RdAt (w.setCell ⟨g, j, none⟩ v) rb ty b s :=
  h.same (Below.heap_setCell w ⟨g, j, none⟩ v rb h1) (Below.heap_setCell w ⟨g, j, none⟩ v b h2) (by simp)
theorem heap_row_other {w : World} {g k : Nat} {cs : Array Value} (hne : k ≠ g) : (w.setRow g cs).heap[k]? = w.heap[k]? := by
  show (w.heap.modify g _)[k]? = _
  rw [Array.getElem?_modify, if_neg (by omega)]
theorem RdAt.setRow {w : World} {rb ty b g : Nat} {s : St} {cs : Array Value} (h : RdAt w rb ty b s) (h1 : rb ≠ g) (h2 : b ≠ g) : RdAt (w.setRow g cs) rb ty b s :=
  h.same (heap_row_other h1) (heap_row_other h2) (by simp)
theorem heap_set_other {w : World} {g j n : Nat} {x : Obj} (h : w.heap[n]? = some x) (hne : n ≠ g) (v : Value) : (w.setCell ⟨g, j, none⟩ v).heap[n]? = some x := by
  rw [Below.heap_setCell w ⟨g, j, none⟩ v n hne]; exact h

def fixFlags : List Bool := [false, true, true, true, false, true, true, true, true, false]
set_option maxRecDepth 100000 in
set_option maxHeartbeats 1600000 in
theorem fix_any (rb b : Nat) (s0 s1 s2 s3 s4 s5 s6 s7 s8 s9 s10 : St) (v0 v1 v2 v3 v4 v5 v6 v7 v8 v9 : Int) (w : World) (h : RdAt w rb 145 b s0)
    (e0 : nextS false s0 = (v0, s1))
    (e1 : nextS true s1 = (v1, s2))
    (e2 : nextS true s2 = (v2, s3))
    (e3 : nextS true s3 = (v3, s4))
    (e4 : nextS false s4 = (v4, s5))
    (e5 : nextS true s5 = (v5, s6))
    (e6 : nextS true s6 = (v6, s7))
    (e7 : nextS true s7 = (v7, s8))
    (e8 : nextS true s8 = (v8, s9))
    (e9 : nextS false s9 = (v9, s10))
    : Calls Try.prog 90 #[.pointer (some ⟨rb, 0, none⟩)] w fun r w' => r = .returned (.agg #[.int .i64 v0, .int .i64 v1, .int .i64 v2, .int .i64 v3, .int .i64 v4, .int .i64 v5, .int .i64 v6, .int .i64 v7, .int .i64 v8, .int .i64 v9]) ∧ RdAt w' rb 145 b s10 ∧ Only rb w.heap.size w w' := by
  have E0 := hid e0
  have E1 := hid e1
  have E2 := hid e2
  have E3 := hid e3
  have E4 := hid e4
  have E5 := hid e5
  have E6 := hid e6
  have E7 := hid e7
  have E8 := hid e8
  have E9 := hid e9
  clear e0 e1 e2 e3 e4 e5 e6 e7 e8 e9
  have hrb := h.rb_lt
  have hbl := h.b_lt
  have R0 := hid h
  clear h
  go_enter Try.func90, Try.ntmps90
  go_wp2_with fail
  refine (number_at _ E0.out ((R0.out.alloc _).alloc _)).mono ?_
  rintro r w1 ⟨rfl, hrd, hol⟩
  have R1 := hid hrd
  have F1 := hid (hol.heap (by omega) (by repeat' (first | (refine heap_alloc_at _ _ _ ?_; (first | rfl | (simp; done) | (simp; omega))) | (refine heap_alloc_past _ _ _ _ ?_))) : w1.heap[w.heap.size + 1]? = some (.cells #[.int .i64 0, .int .i64 0, .int .i64 0, .int .i64 0, .int .i64 0, .int .i64 0, .int .i64 0, .int .i64 0, .int .i64 0, .int .i64 0] 55))
  have G1 := hid (hol.heap (by omega) (by repeat' (first | (refine heap_alloc_at _ _ _ ?_; (first | rfl | (simp; done) | (simp; omega))) | (refine heap_alloc_past _ _ _ _ ?_))) : w1.heap[w.heap.size]? = some (.cells #[.int .i64 0, .int .i64 0, .int .i64 0, .int .i64 0, .int .i64 0, .int .i64 0, .int .i64 0, .int .i64 0, .int .i64 0, .int .i64 0] 55))
  have O1 := hid ((((Only.refl rb w.heap.size w).alloc (by omega) _).alloc (by simp) _).trans hol (by simp; omega) : Only rb w.heap.size w w1)
  have hs1 := hol.size
  simp at hs1
  have hc1 : w1.cell? ⟨w.heap.size + 1, 0, none⟩ = some (.int .i64 0) := (cell_row (j := 0) F1.out).trans rfl
  have hf1 : w1.frozen? ⟨w.heap.size + 1, 0, none⟩ = false := by have hh := F1.out; simp [World.frozen?, hh]
  clear hrd hol
  go_wp2_with fail
  refine wp_loop_rounds 4 ?_
  rw [rounds_succ]
  go_wp2_with fail
  refine (signed_at _ E1.out (R1.out.set (by omega) (by omega) _)).mono ?_
  rintro r w2 ⟨rfl, hrd, hol⟩
  have R2 := hid hrd
  have F2 := hid (hol.heap (by omega) (heap_setCell F1.out _) : w2.heap[w.heap.size + 1]? = some (.cells #[.int .i64 v0, .int .i64 0, .int .i64 0, .int .i64 0, .int .i64 0, .int .i64 0, .int .i64 0, .int .i64 0, .int .i64 0, .int .i64 0] 55))
  have G2 := hid (hol.heap (by omega) (heap_set_other G1.out (by omega) _) : w2.heap[w.heap.size]? = some (.cells #[.int .i64 0, .int .i64 0, .int .i64 0, .int .i64 0, .int .i64 0, .int .i64 0, .int .i64 0, .int .i64 0, .int .i64 0, .int .i64 0] 55))
  have O2 := hid ((O1.out.set (by omega) _).trans hol (by simp; omega) : Only rb w.heap.size w w2)
  have hs2 := hol.size
  simp at hs2
  have hc2 : w2.cell? ⟨w.heap.size + 1, 1, none⟩ = some (.int .i64 0) := (cell_row (j := 1) F2.out).trans rfl
  have hf2 : w2.frozen? ⟨w.heap.size + 1, 1, none⟩ = false := by have hh := F2.out; simp [World.frozen?, hh]
  clear hrd hol
  go_wp2_with fail
  try (rw [rounds_succ]; go_wp2_with fail)
  refine (signed_at _ E2.out (R2.out.set (by omega) (by omega) _)).mono ?_
  rintro r w3 ⟨rfl, hrd, hol⟩
  have R3 := hid hrd
  have F3 := hid (hol.heap (by omega) (heap_setCell F2.out _) : w3.heap[w.heap.size + 1]? = some (.cells #[.int .i64 v0, .int .i64 v1, .int .i64 0, .int .i64 0, .int .i64 0, .int .i64 0, .int .i64 0, .int .i64 0, .int .i64 0, .int .i64 0] 55))
  have G3 := hid (hol.heap (by omega) (heap_set_other G2.out (by omega) _) : w3.heap[w.heap.size]? = some (.cells #[.int .i64 0, .int .i64 0, .int .i64 0, .int .i64 0, .int .i64 0, .int .i64 0, .int .i64 0, .int .i64 0, .int .i64 0, .int .i64 0] 55))
  have O3 := hid ((O2.out.set (by omega) _).trans hol (by simp; omega) : Only rb w.heap.size w w3)
  have hs3 := hol.size
  simp at hs3
  have hc3 : w3.cell? ⟨w.heap.size + 1, 2, none⟩ = some (.int .i64 0) := (cell_row (j := 2) F3.out).trans rfl
  have hf3 : w3.frozen? ⟨w.heap.size + 1, 2, none⟩ = false := by have hh := F3.out; simp [World.frozen?, hh]
  clear hrd hol
  go_wp2_with fail
  try (rw [rounds_succ]; go_wp2_with fail)
  refine (signed_at _ E3.out (R3.out.set (by omega) (by omega) _)).mono ?_
  rintro r w4 ⟨rfl, hrd, hol⟩
  have R4 := hid hrd
  have F4 := hid (hol.heap (by omega) (heap_setCell F3.out _) : w4.heap[w.heap.size + 1]? = some (.cells #[.int .i64 v0, .int .i64 v1, .int .i64 v2, .int .i64 0, .int .i64 0, .int .i64 0, .int .i64 0, .int .i64 0, .int .i64 0, .int .i64 0] 55))
  have G4 := hid (hol.heap (by omega) (heap_set_other G3.out (by omega) _) : w4.heap[w.heap.size]? = some (.cells #[.int .i64 0, .int .i64 0, .int .i64 0, .int .i64 0, .int .i64 0, .int .i64 0, .int .i64 0, .int .i64 0, .int .i64 0, .int .i64 0] 55))
  have O4 := hid ((O3.out.set (by omega) _).trans hol (by simp; omega) : Only rb w.heap.size w w4)
  have hs4 := hol.size
  simp at hs4
  have hc4 : w4.cell? ⟨w.heap.size + 1, 3, none⟩ = some (.int .i64 0) := (cell_row (j := 3) F4.out).trans rfl
  have hf4 : w4.frozen? ⟨w.heap.size + 1, 3, none⟩ = false := by have hh := F4.out; simp [World.frozen?, hh]
  clear hrd hol
  go_wp2_with fail
  try (rw [rounds_succ]; go_wp2_with fail)
  refine (number_at _ E4.out (R4.out.set (by omega) (by omega) _)).mono ?_
  rintro r w5 ⟨rfl, hrd, hol⟩
  have R5 := hid hrd
  have F5 := hid (hol.heap (by omega) (heap_setCell F4.out _) : w5.heap[w.heap.size + 1]? = some (.cells #[.int .i64 v0, .int .i64 v1, .int .i64 v2, .int .i64 v3, .int .i64 0, .int .i64 0, .int .i64 0, .int .i64 0, .int .i64 0, .int .i64 0] 55))
  have G5 := hid (hol.heap (by omega) (heap_set_other G4.out (by omega) _) : w5.heap[w.heap.size]? = some (.cells #[.int .i64 0, .int .i64 0, .int .i64 0, .int .i64 0, .int .i64 0, .int .i64 0, .int .i64 0, .int .i64 0, .int .i64 0, .int .i64 0] 55))
  have O5 := hid ((O4.out.set (by omega) _).trans hol (by simp; omega) : Only rb w.heap.size w w5)
  have hs5 := hol.size
  simp at hs5
  have hc5 : w5.cell? ⟨w.heap.size + 1, 4, none⟩ = some (.int .i64 0) := (cell_row (j := 4) F5.out).trans rfl
  have hf5 : w5.frozen? ⟨w.heap.size + 1, 4, none⟩ = false := by have hh := F5.out; simp [World.frozen?, hh]
  clear hrd hol
  go_wp2_with fail
  refine wp_loop_rounds 5 ?_
  rw [rounds_succ]
  go_wp2_with fail
  refine (signed_at _ E5.out (R5.out.set (by omega) (by omega) _)).mono ?_
  rintro r w6 ⟨rfl, hrd, hol⟩
  have R6 := hid hrd
  have F6 := hid (hol.heap (by omega) (heap_setCell F5.out _) : w6.heap[w.heap.size + 1]? = some (.cells #[.int .i64 v0, .int .i64 v1, .int .i64 v2, .int .i64 v3, .int .i64 v4, .int .i64 0, .int .i64 0, .int .i64 0, .int .i64 0, .int .i64 0] 55))
  have G6 := hid (hol.heap (by omega) (heap_set_other G5.out (by omega) _) : w6.heap[w.heap.size]? = some (.cells #[.int .i64 0, .int .i64 0, .int .i64 0, .int .i64 0, .int .i64 0, .int .i64 0, .int .i64 0, .int .i64 0, .int .i64 0, .int .i64 0] 55))
  have O6 := hid ((O5.out.set (by omega) _).trans hol (by simp; omega) : Only rb w.heap.size w w6)
  have hs6 := hol.size
  simp at hs6
  have hc6 : w6.cell? ⟨w.heap.size + 1, 5, none⟩ = some (.int .i64 0) := (cell_row (j := 5) F6.out).trans rfl
  have hf6 : w6.frozen? ⟨w.heap.size + 1, 5, none⟩ = false := by have hh := F6.out; simp [World.frozen?, hh]
  clear hrd hol
  go_wp2_with fail
  try (rw [rounds_succ]; go_wp2_with fail)
  refine (signed_at _ E6.out (R6.out.set (by omega) (by omega) _)).mono ?_
  rintro r w7 ⟨rfl, hrd, hol⟩
  have R7 := hid hrd
  have F7 := hid (hol.heap (by omega) (heap_setCell F6.out _) : w7.heap[w.heap.size + 1]? = some (.cells #[.int .i64 v0, .int .i64 v1, .int .i64 v2, .int .i64 v3, .int .i64 v4, .int .i64 v5, .int .i64 0, .int .i64 0, .int .i64 0, .int .i64 0] 55))
  have G7 := hid (hol.heap (by omega) (heap_set_other G6.out (by omega) _) : w7.heap[w.heap.size]? = some (.cells #[.int .i64 0, .int .i64 0, .int .i64 0, .int .i64 0, .int .i64 0, .int .i64 0, .int .i64 0, .int .i64 0, .int .i64 0, .int .i64 0] 55))
  have O7 := hid ((O6.out.set (by omega) _).trans hol (by simp; omega) : Only rb w.heap.size w w7)
  have hs7 := hol.size
  simp at hs7
  have hc7 : w7.cell? ⟨w.heap.size + 1, 6, none⟩ = some (.int .i64 0) := (cell_row (j := 6) F7.out).trans rfl
  have hf7 : w7.frozen? ⟨w.heap.size + 1, 6, none⟩ = false := by have hh := F7.out; simp [World.frozen?, hh]
  clear hrd hol
  go_wp2_with fail
  try (rw [rounds_succ]; go_wp2_with fail)
  refine (signed_at _ E7.out (R7.out.set (by omega) (by omega) _)).mono ?_
  rintro r w8 ⟨rfl, hrd, hol⟩
  have R8 := hid hrd
  have F8 := hid (hol.heap (by omega) (heap_setCell F7.out _) : w8.heap[w.heap.size + 1]? = some (.cells #[.int .i64 v0, .int .i64 v1, .int .i64 v2, .int .i64 v3, .int .i64 v4, .int .i64 v5, .int .i64 v6, .int .i64 0, .int .i64 0, .int .i64 0] 55))
  have G8 := hid (hol.heap (by omega) (heap_set_other G7.out (by omega) _) : w8.heap[w.heap.size]? = some (.cells #[.int .i64 0, .int .i64 0, .int .i64 0, .int .i64 0, .int .i64 0, .int .i64 0, .int .i64 0, .int .i64 0, .int .i64 0, .int .i64 0] 55))
  have O8 := hid ((O7.out.set (by omega) _).trans hol (by simp; omega) : Only rb w.heap.size w w8)
  have hs8 := hol.size
  simp at hs8
  have hc8 : w8.cell? ⟨w.heap.size + 1, 7, none⟩ = some (.int .i64 0) := (cell_row (j := 7) F8.out).trans rfl
  have hf8 : w8.frozen? ⟨w.heap.size + 1, 7, none⟩ = false := by have hh := F8.out; simp [World.frozen?, hh]
  clear hrd hol
  go_wp2_with fail
  try (rw [rounds_succ]; go_wp2_with fail)
  refine (signed_at _ E8.out (R8.out.set (by omega) (by omega) _)).mono ?_
  rintro r w9 ⟨rfl, hrd, hol⟩
  have R9 := hid hrd
  have F9 := hid (hol.heap (by omega) (heap_setCell F8.out _) : w9.heap[w.heap.size + 1]? = some (.cells #[.int .i64 v0, .int .i64 v1, .int .i64 v2, .int .i64 v3, .int .i64 v4, .int .i64 v5, .int .i64 v6, .int .i64 v7, .int .i64 0, .int .i64 0] 55))
  have G9 := hid (hol.heap (by omega) (heap_set_other G8.out (by omega) _) : w9.heap[w.heap.size]? = some (.cells #[.int .i64 0, .int .i64 0, .int .i64 0, .int .i64 0, .int .i64 0, .int .i64 0, .int .i64 0, .int .i64 0, .int .i64 0, .int .i64 0] 55))
  have O9 := hid ((O8.out.set (by omega) _).trans hol (by simp; omega) : Only rb w.heap.size w w9)
  have hs9 := hol.size
  simp at hs9
  have hc9 : w9.cell? ⟨w.heap.size + 1, 8, none⟩ = some (.int .i64 0) := (cell_row (j := 8) F9.out).trans rfl
  have hf9 : w9.frozen? ⟨w.heap.size + 1, 8, none⟩ = false := by have hh := F9.out; simp [World.frozen?, hh]
  clear hrd hol
  go_wp2_with fail
  try (rw [rounds_succ]; go_wp2_with fail)
  refine (number_at _ E9.out (R9.out.set (by omega) (by omega) _)).mono ?_
  rintro r w10 ⟨rfl, hrd, hol⟩
  have R10 := hid hrd
  have F10 := hid (hol.heap (by omega) (heap_setCell F9.out _) : w10.heap[w.heap.size + 1]? = some (.cells #[.int .i64 v0, .int .i64 v1, .int .i64 v2, .int .i64 v3, .int .i64 v4, .int .i64 v5, .int .i64 v6, .int .i64 v7, .int .i64 v8, .int .i64 0] 55))
  have G10 := hid (hol.heap (by omega) (heap_set_other G9.out (by omega) _) : w10.heap[w.heap.size]? = some (.cells #[.int .i64 0, .int .i64 0, .int .i64 0, .int .i64 0, .int .i64 0, .int .i64 0, .int .i64 0, .int .i64 0, .int .i64 0, .int .i64 0] 55))
  have O10 := hid ((O9.out.set (by omega) _).trans hol (by simp; omega) : Only rb w.heap.size w w10)
  have hs10 := hol.size
  simp at hs10
  have hc10 : w10.cell? ⟨w.heap.size + 1, 9, none⟩ = some (.int .i64 0) := (cell_row (j := 9) F10.out).trans rfl
  have hf10 : w10.frozen? ⟨w.heap.size + 1, 9, none⟩ = false := by have hh := F10.out; simp [World.frozen?, hh]
  clear hrd hol
  have FF := hid (heap_setCell (j := 9) F10.out (.int .i64 v9) : (w10.setCell ⟨w.heap.size + 1, 9, none⟩ (.int .i64 v9)).heap[w.heap.size + 1]? = some (.cells #[.int .i64 v0, .int .i64 v1, .int .i64 v2, .int .i64 v3, .int .i64 v4, .int .i64 v5, .int .i64 v6, .int .i64 v7, .int .i64 v8, .int .i64 v9] 55))
  have GG := hid (heap_set_other (g := w.heap.size + 1) (j := 9) G10.out (by omega) (.int .i64 v9))
  go_wp2_with (first | (refine wpList_load_at rfl 55 (.tmp 3) rfl rfl FF.out Try.underlying55 rfl size55 rfl ?_) | (refine wpList_store_at rfl 55 (.tmp 2) (.tmp 33) rfl rfl rfl GG.out size55 rfl rfl rfl ?_))
  (try simp only [Exit.inBlock, Exit.then])
  refine bodyPost_ret (results_at1 rfl rfl (setRow_heap _ _ _ _ _ _ GG.out) Try.underlying55 rfl size55 rfl) rfl ?_
  refine ⟨rfl, ?_, ?_⟩
  · exact (R10.out.set (by omega) (by omega) _).setRow (by omega) (by omega)
  · exact (O10.out.set (by omega) _).setRow (by omega)
end Go.Proofs.Yteoikaedpgianaa
