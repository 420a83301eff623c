/- The reference's Decode on no bytes. (Printed by wip/gen_decn.py.) -/
import Derived.Test.YteanlcefdoigcaaDecRY
namespace Go.Proofs.Yteanlcefdoigcaa
open Go.RowKit

set_option maxRecDepth 100000 in
theorem next_none (rb : Nat) (p0 : Option Addr) (cap : Nat) (bd : Bool) (w : World) (hr : w.heap[rb]? = some (.cells #[.slice p0 0 cap, .bool bd] 123)) :
    Calls Try.prog 87 #[.pointer (some ⟨rb, 0, none⟩), .bool false] w fun r w' => r = .returned (.int .i64 0) ∧ w'.heap[rb]? = some (.cells #[.slice p0 0 cap, .bool true] 123) ∧ Only rb w.heap.size w w' := by
  have HR := hid hr
  have hc0 : w.cell? ⟨rb, 0, none⟩ = some (.slice p0 0 cap) := by simp [World.cell?, hr]
  have hf1 : w.frozen? ⟨rb, 1, none⟩ = false := by simp [World.frozen?, hr]
  have hc1 : w.cell? ⟨rb, 1, none⟩ = some (.bool bd) := by simp [World.cell?, hr]
  have HC := hid (show Calls Try.prog 114 #[.slice p0 0 cap] w fun e w' => e = .returned (.tuple #[.int .i64 0, .int .i64 0, .int .i64 21]) ∧ w = w' by
    clear HR hr hc0 hc1 hf1
    go_enter Try.func114, Try.ntmps114
    go_wp2_with fail
    refine wp_loop_rounds 1 ?_
    rw [rounds_succ]
    go_wp2_with fail
    go_ret3
    exact ⟨rfl, rfl⟩)
  clear hr
  cases bd
  all_goals
    go_enter Try.func87, Try.ntmps87
    go_wp2_with fail
    refine HC.out.mono ?_
    rintro r w1 ⟨rfl, rfl⟩
    go_wp2_with fail
    go_ret
    exact ⟨rfl, heap_setCell HR.out _, only_setCell (Only.refl _ _ _) _⟩
set_option maxRecDepth 100000 in
theorem rpoints_none (rb : Nat) (w : World) :
    Calls Try.prog 88 #[.pointer (some ⟨rb, 0, none⟩), .int .i64 0] w fun r w' => r = .returned (.slice none 0 0) ∧ w = w' := by
  go_enter Try.func88, Try.ntmps88
  go_wp2_with fail
  refine wp_loop_rounds 1 ?_
  rw [rounds_succ]
  go_wp2_with fail
  go_ret
  exact ⟨rfl, rfl⟩
set_option maxRecDepth 100000 in
set_option maxHeartbeats 6400000 in
theorem rDecode_none (p0 : Option Addr) (cap : Nat) (w : World) :
    Calls Try.prog 45 #[.slice p0 0 cap] w fun r w' => r = refusedT ∧ Below w.heap.size w w' := by
  unfold refusedT
  obtain ⟨rb, hrb⟩ : ∃ rb, rb = w.heap.size + 1 := ⟨_, rfl⟩
  have HRB := hid hrb
  have G1 := hid (show (((w.alloc (.cells #[.int .i64 0, .int .i64 0, .int .i64 0, .int .i64 0, .slice none 0 0] 49)).alloc (.cells #[.slice p0 0 cap, .bool false] 123)).alloc (.cells #[.int .i64 0, .int .i64 0, .int .i64 0, .int .i64 0, .slice none 0 0] 49)).heap[w.heap.size]? = some (.cells #[.int .i64 0, .int .i64 0, .int .i64 0, .int .i64 0, .slice none 0 0] 49) from heap_alloc_past _ _ _ _ (heap_alloc_past _ _ _ _ (heap_alloc_at _ _ _ rfl)))
  have T1 := hid (show (((w.alloc (.cells #[.int .i64 0, .int .i64 0, .int .i64 0, .int .i64 0, .slice none 0 0] 49)).alloc (.cells #[.slice p0 0 cap, .bool false] 123)).alloc (.cells #[.int .i64 0, .int .i64 0, .int .i64 0, .int .i64 0, .slice none 0 0] 49)).heap[rb + 1]? = some (.cells #[.int .i64 0, .int .i64 0, .int .i64 0, .int .i64 0, .slice none 0 0] 49) from heap_alloc_at _ _ _ (by simp [hrb]))
  have R1 := hid (show (((w.alloc (.cells #[.int .i64 0, .int .i64 0, .int .i64 0, .int .i64 0, .slice none 0 0] 49)).alloc (.cells #[.slice p0 0 cap, .bool false] 123)).alloc (.cells #[.int .i64 0, .int .i64 0, .int .i64 0, .int .i64 0, .slice none 0 0] 49)).heap[rb]? = some (.cells #[.slice p0 0 cap, .bool false] 123) from heap_alloc_past _ _ _ _ (heap_alloc_at _ _ _ (by simp [hrb])))
  have O1 := hid (show Below w.heap.size w (((w.alloc (.cells #[.int .i64 0, .int .i64 0, .int .i64 0, .int .i64 0, .slice none 0 0] 49)).alloc (.cells #[.slice p0 0 cap, .bool false] 123)).alloc (.cells #[.int .i64 0, .int .i64 0, .int .i64 0, .int .i64 0, .slice none 0 0] 49)) from (by repeat' (first | (with_reducible exact Below.refl _ _) | (with_reducible assumption) | (with_reducible refine Below.alloc ?_ ?_ _) | (with_reducible refine Below.drew ?_) | (with_reducible refine below_drewN ?_ _) | go_size)))
  have hzz : (((w.alloc (.cells #[.int .i64 0, .int .i64 0, .int .i64 0, .int .i64 0, .slice none 0 0] 49)).alloc (.cells #[.slice p0 0 cap, .bool false] 123)).alloc (.cells #[.int .i64 0, .int .i64 0, .int .i64 0, .int .i64 0, .slice none 0 0] 49)).heap.size = rb + 2 := by simp [hrb]
  have hrw : w.heap.size < rb := by omega
  clear hrb
  go_enter Try.func45, Try.ntmps45
  go_wp2_with fail
  generalize ((w.alloc (.cells #[.int .i64 0, .int .i64 0, .int .i64 0, .int .i64 0, .slice none 0 0] 49)).alloc (.cells #[.slice p0 0 cap, .bool false] 123)).alloc (.cells #[.int .i64 0, .int .i64 0, .int .i64 0, .int .i64 0, .slice none 0 0] 49) = W1 at *
  rw [← HRB.out]
  refine (next_none rb p0 cap false _ R1.out).mono ?_
  rintro r w2 ⟨rfl, hrd, hol⟩
  have R2 := hid hrd
  have T2 := hid (show w2.heap[rb + 1]? = some (.cells #[.int .i64 0, .int .i64 0, .int .i64 0, .int .i64 0, .slice none 0 0] 49) from hol.heap (by omega) T1.out)
  have G2 := hid (show w2.heap[w.heap.size]? = some (.cells #[.int .i64 0, .int .i64 0, .int .i64 0, .int .i64 0, .slice none 0 0] 49) from hol.heap (by omega) G1.out)
  have O2 := hid (O1.out.trans (hol.below (B := w.heap.size) (by omega) (by omega)))
  have hz2 : rb + 1 < w2.heap.size := (Array.getElem?_eq_some_iff.1 T2.out).1
  have c2 : w2.cell? ⟨rb + 1, 0, none⟩ = some (.int .i64 0) := (cell_row (j := 0) T2.out).trans rfl
  have f2 : w2.frozen? ⟨rb + 1, 0, none⟩ = false := by have hh := T2.out; simp [World.frozen?, hh]
  clear hrd hol
  go_wp2_with fail
  refine (next_none rb p0 cap true _ (heap_set_other R2.out (by omega) _)).mono ?_
  rintro r w3 ⟨rfl, hrd, hol⟩
  have R3 := hid hrd
  have T3 := hid (show w3.heap[rb + 1]? = some (.cells #[.int .i64 0, .int .i64 0, .int .i64 0, .int .i64 0, .slice none 0 0] 49) from hol.heap (by omega) (heap_setCell T2.out _))
  have G3 := hid (show w3.heap[w.heap.size]? = some (.cells #[.int .i64 0, .int .i64 0, .int .i64 0, .int .i64 0, .slice none 0 0] 49) from hol.heap (by omega) (heap_set_other G2.out (by omega) _))
  have O3 := hid ((O2.out.setCell (p := ⟨rb + 1, 0, none⟩) (by show w.heap.size ≤ rb + 1; omega) (.int .i64 0)).trans (hol.below (B := w.heap.size) (by omega) (by simp; omega)))
  have hz3 : rb + 1 < w3.heap.size := (Array.getElem?_eq_some_iff.1 T3.out).1
  have c3 : w3.cell? ⟨rb + 1, 1, none⟩ = some (.int .i64 0) := (cell_row (j := 1) T3.out).trans rfl
  have f3 : w3.frozen? ⟨rb + 1, 1, none⟩ = false := by have hh := T3.out; simp [World.frozen?, hh]
  clear hrd hol
  go_wp2_with fail
  refine (next_none rb p0 cap true _ (heap_set_other R3.out (by omega) _)).mono ?_
  rintro r w4 ⟨rfl, hrd, hol⟩
  have R4 := hid hrd
  have T4 := hid (show w4.heap[rb + 1]? = some (.cells #[.int .i64 0, .int .i64 0, .int .i64 0, .int .i64 0, .slice none 0 0] 49) from hol.heap (by omega) (heap_setCell T3.out _))
  have G4 := hid (show w4.heap[w.heap.size]? = some (.cells #[.int .i64 0, .int .i64 0, .int .i64 0, .int .i64 0, .slice none 0 0] 49) from hol.heap (by omega) (heap_set_other G3.out (by omega) _))
  have O4 := hid ((O3.out.setCell (p := ⟨rb + 1, 1, none⟩) (by show w.heap.size ≤ rb + 1; omega) (.int .i64 0)).trans (hol.below (B := w.heap.size) (by omega) (by simp; omega)))
  have hz4 : rb + 1 < w4.heap.size := (Array.getElem?_eq_some_iff.1 T4.out).1
  have c4 : w4.cell? ⟨rb + 1, 2, none⟩ = some (.int .i64 0) := (cell_row (j := 2) T4.out).trans rfl
  have f4 : w4.frozen? ⟨rb + 1, 2, none⟩ = false := by have hh := T4.out; simp [World.frozen?, hh]
  clear hrd hol
  go_wp2_with fail
  refine (next_none rb p0 cap true _ (heap_set_other R4.out (by omega) _)).mono ?_
  rintro r w5 ⟨rfl, hrd, hol⟩
  have R5 := hid hrd
  have T5 := hid (show w5.heap[rb + 1]? = some (.cells #[.int .i64 0, .int .i64 0, .int .i64 0, .int .i64 0, .slice none 0 0] 49) from hol.heap (by omega) (heap_setCell T4.out _))
  have G5 := hid (show w5.heap[w.heap.size]? = some (.cells #[.int .i64 0, .int .i64 0, .int .i64 0, .int .i64 0, .slice none 0 0] 49) from hol.heap (by omega) (heap_set_other G4.out (by omega) _))
  have O5 := hid ((O4.out.setCell (p := ⟨rb + 1, 2, none⟩) (by show w.heap.size ≤ rb + 1; omega) (.int .i64 0)).trans (hol.below (B := w.heap.size) (by omega) (by simp; omega)))
  have hz5 : rb + 1 < w5.heap.size := (Array.getElem?_eq_some_iff.1 T5.out).1
  have c5 : w5.cell? ⟨rb + 1, 3, none⟩ = some (.int .i64 0) := (cell_row (j := 3) T5.out).trans rfl
  have f5 : w5.frozen? ⟨rb + 1, 3, none⟩ = false := by have hh := T5.out; simp [World.frozen?, hh]
  clear hrd hol
  go_wp2_with fail
  refine (next_none rb p0 cap true _ (heap_set_other R5.out (by omega) _)).mono ?_
  rintro r w6 ⟨rfl, hrd, hol⟩
  have R6 := hid hrd
  have T6 := hid (show w6.heap[rb + 1]? = some (.cells #[.int .i64 0, .int .i64 0, .int .i64 0, .int .i64 0, .slice none 0 0] 49) from hol.heap (by omega) (heap_setCell T5.out _))
  have G6 := hid (show w6.heap[w.heap.size]? = some (.cells #[.int .i64 0, .int .i64 0, .int .i64 0, .int .i64 0, .slice none 0 0] 49) from hol.heap (by omega) (heap_set_other G5.out (by omega) _))
  have O6 := hid ((O5.out.setCell (p := ⟨rb + 1, 3, none⟩) (by show w.heap.size ≤ rb + 1; omega) (.int .i64 0)).trans (hol.below (B := w.heap.size) (by omega) (by simp; omega)))
  have hz6 : rb + 1 < w6.heap.size := (Array.getElem?_eq_some_iff.1 T6.out).1
  clear hrd hol
  go_wp2_with fail
  refine (rpoints_none rb _).mono ?_
  rintro r w7 ⟨rfl, rfl⟩
  have c7 : w6.cell? ⟨rb + 1, 4, none⟩ = some (.slice none 0 0) := (cell_row (j := 4) T6.out).trans rfl
  have f7 : w6.frozen? ⟨rb + 1, 4, none⟩ = false := by have hh := T6.out; simp [World.frozen?, hh]
  have RX := hid (show (w6.setCell ⟨rb + 1, 4, none⟩ (.slice none 0 0)).heap[rb]? = some (.cells #[.slice p0 0 cap, .bool true] 123) from heap_set_other R6.out (by omega) _)
  have TX := hid (show (w6.setCell ⟨rb + 1, 4, none⟩ (.slice none 0 0)).heap[rb + 1]? = some (.cells #[.int .i64 0, .int .i64 0, .int .i64 0, .int .i64 0, .slice none 0 0] 49) from heap_setCell T6.out _)
  have GX := hid (show (w6.setCell ⟨rb + 1, 4, none⟩ (.slice none 0 0)).heap[w.heap.size]? = some (.cells #[.int .i64 0, .int .i64 0, .int .i64 0, .int .i64 0, .slice none 0 0] 49) from heap_set_other G6.out (by omega) _)
  have OX := hid (show Below w.heap.size w (w6.setCell ⟨rb + 1, 4, none⟩ (.slice none 0 0)) from O6.out.setCell (p := ⟨rb + 1, 4, none⟩) (by show w.heap.size ≤ rb + 1; omega) _)
  have y0 : (w6.setCell ⟨rb + 1, 4, none⟩ (.slice none 0 0)).cell? ⟨rb + 1, 0, none⟩ = some (.int .i64 0) := (cell_row (j := 0) TX.out).trans rfl
  have y1 : (w6.setCell ⟨rb + 1, 4, none⟩ (.slice none 0 0)).cell? ⟨rb + 1, 1, none⟩ = some (.int .i64 0) := (cell_row (j := 1) TX.out).trans rfl
  have y2 : (w6.setCell ⟨rb + 1, 4, none⟩ (.slice none 0 0)).cell? ⟨rb + 1, 2, none⟩ = some (.int .i64 0) := (cell_row (j := 2) TX.out).trans rfl
  have y3 : (w6.setCell ⟨rb + 1, 4, none⟩ (.slice none 0 0)).cell? ⟨rb + 1, 3, none⟩ = some (.int .i64 0) := (cell_row (j := 3) TX.out).trans rfl
  have y4 : (w6.setCell ⟨rb + 1, 4, none⟩ (.slice none 0 0)).cell? ⟨rb + 1, 4, none⟩ = some (.slice none 0 0) := (cell_row (j := 4) TX.out).trans rfl
  go_wp2_with fail
  clear y0 y1 y2 y3 y4 c7 f7
  refine (rEncode_any ⟨0, 0, 0, 0⟩ (.slice none 0 0) [] _ ⟨none, 0, rfl, Or.inl rfl⟩ (by simp)).mono ?_
  rintro r w8 ⟨hres, hb8⟩
  rcases hres with ⟨hT, _⟩ | ⟨_, rfl⟩
  · exact absurd rfl hT.ne
  have G8 := hid (heap_still hb8 GX.out)
  have O8 := hid (OX.out.trans (hb8.mono OX.out.size))
  have R8 := hid (heap_still hb8 RX.out)
  have x1 : w8.cell? ⟨rb, 1, none⟩ = some (.bool true) := (cell_row (j := 1) R8.out).trans rfl
  clear hb8
  go_wp2_with (refine wpList_store_at rfl 49 (.tmp 2) (.tmp 55) rfl rfl rfl G8.out size49 rfl rfl rfl ?_)
  exact bodyPost_ret (results_at2 rfl rfl (setRow_heap _ _ _ _ _ _ G8.out) Try.underlying49 rfl size49 rfl) rfl ⟨rfl, below_setRow O8.out (Nat.le_refl _) _⟩
end Go.Proofs.Yteanlcefdoigcaa
