/- The points that the reference's reader reads. (Printed by wip/gen_decrp.py.) -/
import Derived.Test.YteanlcefdoigcaaDecX
namespace Go.Proofs.Yteanlcefdoigcaa
open Go.RowKit

set_option maxRecDepth 100000 in
set_option maxHeartbeats 25600000 in
theorem rpoints_any (rb b N : Nat) (s : St) (w : World) (hNN : N ≤ 1025) (h : RdAt w rb 123 b s) :
    Calls Try.prog 88 #[.pointer (some ⟨rb, 0, none⟩), .int .i64 N] w fun r w' => (∃ v, r = .returned v ∧ OwnP w' w.heap.size v (ptsR N 0 s).1 ∧ (ptsR N 0 s).1.length ≤ 1025) ∧ RdAt w' rb 123 b (ptsR N 0 s).2 ∧ Only rb w.heap.size w w' := by
  have hrb := h.rb_lt
  have hbl := h.b_lt
  have hne := h.apart
  obtain ⟨i0, hi, hz0, hz1, hz2⟩ := info_parts info36
  have HI := hid hi
  have HZ0 := hid hz0
  have HZ1 := hid hz1
  have HZ2 := hid hz2
  have R1 := hid h
  clear h hi hz0 hz1 hz2
  go_enter Try.func88, Try.ntmps88
  go_wp2_with fail
  go_loopw [5, 6, 7] (fun ov' lv iv W => ∃ (i : Nat) (A : List Pt) (l : Int) (s2 : St) (oa : Option Addr) (on oc : Nat), ov' = .slice oa on oc ∧ i ≤ N ∧ A.length = i ∧ iv = .int .i64 (i : Int) ∧ lv = .int .i64 l ∧ OwnP W w.heap.size (.slice oa on oc) A ∧ RdAt W rb 123 b s2 ∧ Only rb w.heap.size w W ∧ (s2.bad = false → 0 ≤ l ∧ l ≤ 1152921504606846976) ∧ ptsR N 0 s = (A ++ (ptsR (N - i) l s2).1, (ptsR (N - i) l s2).2)) (fun _ _ iv _ => N - (intOf iv).toNat)
  case atStart => exact ⟨0, [], 0, s, none, 0, 0, rfl, by omega, rfl, rfl, rfl, OwnR.nil _ _ _ _, R1.out, Only.refl _ _ _, fun _ => ⟨Int.le_refl _, by decide⟩, rfl⟩
  case round =>
    obtain ⟨i, A, l, s2, oa, on, oc, rfl, hi, hA, rfl, rfl, hown, hrd, hol, hl, he⟩ := hrel
    have HA := hid hA
    have HO := hid hown
    have R2 := hid hrd
    have O2 := hid hol
    have HL := hid hl
    have HE := hid he
    have hz2 := hol.size
    have fb := hrd.flag.1
    clear hA hown hrd hol hl he
    by_cases hlt : i < N
    · have d1 : decide ((i : Int) < (N : Int)) = true := decide_eq_true (by omega)
      cases hbad : s2.bad
      · rw [hbad] at fb
        have hl := HL.out hbad
        have HBD := hid hbad
        clear hbad HL
        obtain ⟨pb, hpb⟩ : ∃ pb, pb = wr.heap.size := ⟨_, rfl⟩
        have hpw : wr.heap.size ≤ pb := by omega
        rcases e0 : nextS false s2 with ⟨v0, t1⟩
        have q0 := nextU_range s2
        rw [e0] at q0
        simp only at q0
        have E0 := hid e0
        clear e0
        by_cases hb0 : 1152921504606846976 < v0
        · have db0 : decide ((1152921504606846976 : Int) < v0) = true := decide_eq_true hb0
          have dg : decide ((1152921504606846976 : Int) < l + v0) = true := decide_eq_true (by omega)
          have eF : nextS false t1.mark = (0, t1.mark) := nextS_bad (fun h => by simp [St.mark] at h)
          have eT : nextS true t1.mark = (0, t1.mark) := nextS_bad (fun h => by simp [St.mark] at h)
          have HPT := hid (show ptR l s2 = (⟨l + v0, 0, 0, 0, 0, 0, 0, 0, 0⟩, t1.mark) by
            unfold ptR
            simp only [E0.out, if_pos hb0, eT, eF]
            rw [if_pos (Or.inr (Or.inr (Or.inr (by omega))))]
            simp only [show t1.mark.mark = t1.mark from rfl, eF]
            simp)
          have E1 := hid eT
          have E2 := hid eT
          have E3 := hid eT
          have E4 := hid eF
          have E6 := hid eF
          have E7 := hid eF
          have E8 := hid eF
          have E5 := hid (show nextS false t1.mark.mark = (0, t1.mark) from eF)
          clear eT eF hb0
          have FA := hid (heap_alloc_at wr (.cells #[.int .i64 0, .int .i64 0, .int .i64 0, .int .i64 0, .int .i64 0, .int .i64 0, .int .i64 0, .int .i64 0, .int .i64 0] 36) pb hpb)
          have RA := hid (R2.out.alloc (.cells #[.int .i64 0, .int .i64 0, .int .i64 0, .int .i64 0, .int .i64 0, .int .i64 0, .int .i64 0, .int .i64 0, .int .i64 0] 36))
          have OA := hid ((Only.refl rb wr.heap.size wr).alloc (Nat.le_refl _) (.cells #[.int .i64 0, .int .i64 0, .int .i64 0, .int .i64 0, .int .i64 0, .int .i64 0, .int .i64 0, .int .i64 0, .int .i64 0] 36))
          have zA : (wr.alloc (.cells #[.int .i64 0, .int .i64 0, .int .i64 0, .int .i64 0, .int .i64 0, .int .i64 0, .int .i64 0, .int .i64 0, .int .i64 0] 36)).heap.size = pb + 1 := by simp [hpb]
          have HPB := hid hpb
          clear hpb
          go_wp2_with fail
          rw [← HPB.out]
          clear HPB
          generalize wr.alloc (.cells #[.int .i64 0, .int .i64 0, .int .i64 0, .int .i64 0, .int .i64 0, .int .i64 0, .int .i64 0, .int .i64 0, .int .i64 0] 36) = W3 at *
          refine (rnum_at _ E0.out RA.out).mono ?_
          rintro r w5 ⟨rfl, hrd, hol⟩
          have R5 := hid hrd
          have F5 := hid (show w5.heap[pb]? = some (.cells #[.int .i64 0, .int .i64 0, .int .i64 0, .int .i64 0, .int .i64 0, .int .i64 0, .int .i64 0, .int .i64 0, .int .i64 0] 36) from hol.heap (by omega) FA.out)
          have O5 := hid (OA.out.trans hol (by omega))
          have hz5 : pb < w5.heap.size := (Array.getElem?_eq_some_iff.1 F5.out).1
          clear hrd hol fb
          have yb := R5.out.flag.1
          have yf := R5.out.flag.2
          have RY := hid R5.out.mark
          have FY := hid (heap_set_other (j := 1) (g := rb) F5.out (by omega) (.bool true))
          have OY := hid (only_setCell (j := 1) O5.out (.bool true))
          have c5 : (w5.setCell ⟨rb, 1, none⟩ (.bool true)).cell? ⟨pb, 0, none⟩ = some (.int .i64 0) := (cell_row (j := 0) FY.out).trans rfl
          have f5 : (w5.setCell ⟨rb, 1, none⟩ (.bool true)).frozen? ⟨pb, 0, none⟩ = false := by have hh := FY.out; simp [World.frozen?, hh]
          go_wp2_with fail
          refine (rsig_at _ E1.out (RY.out.set (by omega) (by omega) _)).mono ?_
          rintro r w6 ⟨rfl, hrd, hol⟩
          have R6 := hid hrd
          have F6 := hid (show w6.heap[pb]? = some (.cells #[.int .i64 (l + v0), .int .i64 0, .int .i64 0, .int .i64 0, .int .i64 0, .int .i64 0, .int .i64 0, .int .i64 0, .int .i64 0] 36) from hol.heap (by omega) (heap_setCell FY.out _))
          have O6 := hid ((OY.out.set (by omega) _).trans hol (by first | omega | (simp; omega)))
          have hz6 : pb < w6.heap.size := (Array.getElem?_eq_some_iff.1 F6.out).1
          clear hrd hol
          have c6 : w6.cell? ⟨pb, 1, none⟩ = some (.int .i64 0) := (cell_row (j := 1) F6.out).trans rfl
          have f6 : w6.frozen? ⟨pb, 1, none⟩ = false := by have hh := F6.out; simp [World.frozen?, hh]
          go_wp2_with fail
          refine (rsig_at _ E2.out (R6.out.set (by omega) (by omega) _)).mono ?_
          rintro r w7 ⟨rfl, hrd, hol⟩
          have R7 := hid hrd
          have F7 := hid (show w7.heap[pb]? = some (.cells #[.int .i64 (l + v0), .int .i64 0, .int .i64 0, .int .i64 0, .int .i64 0, .int .i64 0, .int .i64 0, .int .i64 0, .int .i64 0] 36) from hol.heap (by omega) (heap_setCell F6.out _))
          have O7 := hid ((O6.out.set (by omega) _).trans hol (by first | omega | (simp; omega)))
          have hz7 : pb < w7.heap.size := (Array.getElem?_eq_some_iff.1 F7.out).1
          clear hrd hol
          have c7 : w7.cell? ⟨pb, 2, none⟩ = some (.int .i64 0) := (cell_row (j := 2) F7.out).trans rfl
          have f7 : w7.frozen? ⟨pb, 2, none⟩ = false := by have hh := F7.out; simp [World.frozen?, hh]
          go_wp2_with fail
          refine (rsig_at _ E3.out (R7.out.set (by omega) (by omega) _)).mono ?_
          rintro r w8 ⟨rfl, hrd, hol⟩
          have R8 := hid hrd
          have F8 := hid (show w8.heap[pb]? = some (.cells #[.int .i64 (l + v0), .int .i64 0, .int .i64 0, .int .i64 0, .int .i64 0, .int .i64 0, .int .i64 0, .int .i64 0, .int .i64 0] 36) from hol.heap (by omega) (heap_setCell F7.out _))
          have O8 := hid ((O7.out.set (by omega) _).trans hol (by first | omega | (simp; omega)))
          have hz8 : pb < w8.heap.size := (Array.getElem?_eq_some_iff.1 F8.out).1
          clear hrd hol
          have c8 : w8.cell? ⟨pb, 3, none⟩ = some (.int .i64 0) := (cell_row (j := 3) F8.out).trans rfl
          have f8 : w8.frozen? ⟨pb, 3, none⟩ = false := by have hh := F8.out; simp [World.frozen?, hh]
          go_wp2_with fail
          refine (rnum_at _ E4.out (R8.out.set (by omega) (by omega) _)).mono ?_
          rintro r w9 ⟨rfl, hrd, hol⟩
          have R9 := hid hrd
          have F9 := hid (show w9.heap[pb]? = some (.cells #[.int .i64 (l + v0), .int .i64 0, .int .i64 0, .int .i64 0, .int .i64 0, .int .i64 0, .int .i64 0, .int .i64 0, .int .i64 0] 36) from hol.heap (by omega) (heap_setCell F8.out _))
          have O9 := hid ((O8.out.set (by omega) _).trans hol (by first | omega | (simp; omega)))
          have hz9 : pb < w9.heap.size := (Array.getElem?_eq_some_iff.1 F9.out).1
          clear hrd hol
          clear c5 f5 c6 f6 c7 f7 c8 f8
          have y3 : w9.cell? ⟨pb, 3, none⟩ = some (.int .i64 0) := (cell_row (j := 3) F9.out).trans rfl
          have y0 : w9.cell? ⟨pb, 0, none⟩ = some (.int .i64 (l + v0)) := (cell_row (j := 0) F9.out).trans rfl
          have yb2 := R9.out.flag.1
          have yf2 := R9.out.flag.2
          have RZ := hid R9.out.mark
          have FZ := hid (heap_set_other (j := 1) (g := rb) F9.out (by omega) (.bool true))
          have OZ := hid (only_setCell (j := 1) O9.out (.bool true))
          have y3b : (w9.setCell ⟨rb, 1, none⟩ (.bool true)).cell? ⟨pb, 3, none⟩ = some (.int .i64 0) := (cell_row (j := 3) FZ.out).trans rfl
          have c9 : (w9.setCell ⟨rb, 1, none⟩ (.bool true)).cell? ⟨pb, 4, none⟩ = some (.int .i64 0) := (cell_row (j := 4) FZ.out).trans rfl
          have f9 : (w9.setCell ⟨rb, 1, none⟩ (.bool true)).frozen? ⟨pb, 4, none⟩ = false := by have hh := FZ.out; simp [World.frozen?, hh]
          go_wp2_with fail
          refine (rnum_at _ E5.out (RZ.out.set (by omega) (by omega) _)).mono ?_
          rintro r w10 ⟨rfl, hrd, hol⟩
          have R10 := hid hrd
          have F10 := hid (show w10.heap[pb]? = some (.cells #[.int .i64 (l + v0), .int .i64 0, .int .i64 0, .int .i64 0, .int .i64 0, .int .i64 0, .int .i64 0, .int .i64 0, .int .i64 0] 36) from hol.heap (by omega) (heap_setCell FZ.out _))
          have O10 := hid ((OZ.out.set (by omega) _).trans hol (by first | omega | (simp; omega)))
          have hz10 : pb < w10.heap.size := (Array.getElem?_eq_some_iff.1 F10.out).1
          clear hrd hol
          have c10 : w10.cell? ⟨pb, 5, none⟩ = some (.int .i64 0) := (cell_row (j := 5) F10.out).trans rfl
          have f10 : w10.frozen? ⟨pb, 5, none⟩ = false := by have hh := F10.out; simp [World.frozen?, hh]
          go_wp2_with fail
          refine (rnum_at _ E6.out (R10.out.set (by omega) (by omega) _)).mono ?_
          rintro r w11 ⟨rfl, hrd, hol⟩
          have R11 := hid hrd
          have F11 := hid (show w11.heap[pb]? = some (.cells #[.int .i64 (l + v0), .int .i64 0, .int .i64 0, .int .i64 0, .int .i64 0, .int .i64 0, .int .i64 0, .int .i64 0, .int .i64 0] 36) from hol.heap (by omega) (heap_setCell F10.out _))
          have O11 := hid ((O10.out.set (by omega) _).trans hol (by first | omega | (simp; omega)))
          have hz11 : pb < w11.heap.size := (Array.getElem?_eq_some_iff.1 F11.out).1
          clear hrd hol
          have c11 : w11.cell? ⟨pb, 6, none⟩ = some (.int .i64 0) := (cell_row (j := 6) F11.out).trans rfl
          have f11 : w11.frozen? ⟨pb, 6, none⟩ = false := by have hh := F11.out; simp [World.frozen?, hh]
          go_wp2_with fail
          refine (rnum_at _ E7.out (R11.out.set (by omega) (by omega) _)).mono ?_
          rintro r w12 ⟨rfl, hrd, hol⟩
          have R12 := hid hrd
          have F12 := hid (show w12.heap[pb]? = some (.cells #[.int .i64 (l + v0), .int .i64 0, .int .i64 0, .int .i64 0, .int .i64 0, .int .i64 0, .int .i64 0, .int .i64 0, .int .i64 0] 36) from hol.heap (by omega) (heap_setCell F11.out _))
          have O12 := hid ((O11.out.set (by omega) _).trans hol (by first | omega | (simp; omega)))
          have hz12 : pb < w12.heap.size := (Array.getElem?_eq_some_iff.1 F12.out).1
          clear hrd hol
          have c12 : w12.cell? ⟨pb, 7, none⟩ = some (.int .i64 0) := (cell_row (j := 7) F12.out).trans rfl
          have f12 : w12.frozen? ⟨pb, 7, none⟩ = false := by have hh := F12.out; simp [World.frozen?, hh]
          go_wp2_with fail
          refine (rnum_at _ E8.out (R12.out.set (by omega) (by omega) _)).mono ?_
          rintro r w13 ⟨rfl, hrd, hol⟩
          have R13 := hid hrd
          have F13 := hid (show w13.heap[pb]? = some (.cells #[.int .i64 (l + v0), .int .i64 0, .int .i64 0, .int .i64 0, .int .i64 0, .int .i64 0, .int .i64 0, .int .i64 0, .int .i64 0] 36) from hol.heap (by omega) (heap_setCell F12.out _))
          have O13 := hid ((O12.out.set (by omega) _).trans hol (by first | omega | (simp; omega)))
          have hz13 : pb < w13.heap.size := (Array.getElem?_eq_some_iff.1 F13.out).1
          clear hrd hol
          have c13 : w13.cell? ⟨pb, 8, none⟩ = some (.int .i64 0) := (cell_row (j := 8) F13.out).trans rfl
          have f13 : w13.frozen? ⟨pb, 8, none⟩ = false := by have hh := F13.out; simp [World.frozen?, hh]
          have RX := hid (show RdAt (w13.setCell ⟨pb, 8, none⟩ (.int .i64 0)) rb 123 b t1.mark from (R13.out.set (by omega) (by omega) _))
          have FX := hid (show (w13.setCell ⟨pb, 8, none⟩ (.int .i64 0)).heap[pb]? = some (.cells #[.int .i64 (l + v0), .int .i64 0, .int .i64 0, .int .i64 0, .int .i64 0, .int .i64 0, .int .i64 0, .int .i64 0, .int .i64 0] 36) from (heap_setCell F13.out _))
          have OX := hid (show Only rb wr.heap.size wr (w13.setCell ⟨pb, 8, none⟩ (.int .i64 0)) from (O13.out.set (by omega) _))
          have d0 : (w13.setCell ⟨pb, 8, none⟩ (.int .i64 0)).cell? ⟨pb, 0, none⟩ = some (.int .i64 (l + v0)) := (cell_row (j := 0) FX.out).trans rfl
          have d1 : (w13.setCell ⟨pb, 8, none⟩ (.int .i64 0)).cell? ⟨pb, 1, none⟩ = some (.int .i64 0) := (cell_row (j := 1) FX.out).trans rfl
          have d2 : (w13.setCell ⟨pb, 8, none⟩ (.int .i64 0)).cell? ⟨pb, 2, none⟩ = some (.int .i64 0) := (cell_row (j := 2) FX.out).trans rfl
          have d3 : (w13.setCell ⟨pb, 8, none⟩ (.int .i64 0)).cell? ⟨pb, 3, none⟩ = some (.int .i64 0) := (cell_row (j := 3) FX.out).trans rfl
          have d4 : (w13.setCell ⟨pb, 8, none⟩ (.int .i64 0)).cell? ⟨pb, 4, none⟩ = some (.int .i64 0) := (cell_row (j := 4) FX.out).trans rfl
          have d5 : (w13.setCell ⟨pb, 8, none⟩ (.int .i64 0)).cell? ⟨pb, 5, none⟩ = some (.int .i64 0) := (cell_row (j := 5) FX.out).trans rfl
          have d6 : (w13.setCell ⟨pb, 8, none⟩ (.int .i64 0)).cell? ⟨pb, 6, none⟩ = some (.int .i64 0) := (cell_row (j := 6) FX.out).trans rfl
          have d7 : (w13.setCell ⟨pb, 8, none⟩ (.int .i64 0)).cell? ⟨pb, 7, none⟩ = some (.int .i64 0) := (cell_row (j := 7) FX.out).trans rfl
          have d8 : (w13.setCell ⟨pb, 8, none⟩ (.int .i64 0)).cell? ⟨pb, 8, none⟩ = some (.int .i64 0) := (cell_row (j := 8) FX.out).trans rfl
          have HRK := hid (RowsAt.one (heap_alloc_at (w13.setCell ⟨pb, 8, none⟩ (.int .i64 0)) _ _ (by simp)) : RowsAt ((w13.setCell ⟨pb, 8, none⟩ (.int .i64 0)).alloc (.cells #[.int .i64 (l + v0), .int .i64 0, .int .i64 0, .int .i64 0, .int .i64 0, .int .i64 0, .int .i64 0, .int .i64 0, .int .i64 0] 36)) w13.heap.size 0 9 [[.int .i64 (l + v0), .int .i64 0, .int .i64 0, .int .i64 0, .int .i64 0, .int .i64 0, .int .i64 0, .int .i64 0, .int .i64 0]])
          have HOA := hid (OwnR.grow (W' := (w13.setCell ⟨pb, 8, none⟩ (.int .i64 0)).alloc (.cells #[.int .i64 (l + v0), .int .i64 0, .int .i64 0, .int .i64 0, .int .i64 0, .int .i64 0, .int .i64 0, .int .i64 0, .int .i64 0] 36)) (HO.out.only OX.out (Nat.le_refl _) hrb) ((Below.refl _ _).alloc (Nat.le_refl _) _) : OwnR _ w.heap.size 36 9 (.slice oa on oc) (A.map Pt.row))
          have RB := hid (RX.out.alloc (.cells #[.int .i64 (l + v0), .int .i64 0, .int .i64 0, .int .i64 0, .int .i64 0, .int .i64 0, .int .i64 0, .int .i64 0, .int .i64 0] 36))
          have OB := hid ((O2.out.trans OX.out O2.out.size).alloc (by have := O2.out.size; simp; omega) (.cells #[.int .i64 (l + v0), .int .i64 0, .int .i64 0, .int .i64 0, .int .i64 0, .int .i64 0, .int .i64 0, .int .i64 0, .int .i64 0] 36))
          have HL1 := hid (show (A.map Pt.row).length + 1 ≤ maxLen by rw [List.length_map, HA.out]; unfold maxLen; omega)
          have HL2 := hid (show ((A.map Pt.row).length + 1) * 72 ≤ 140737488355328 by rw [List.length_map, HA.out]; omega)
          have HBS := hid (show w.heap.size ≤ ((w13.setCell ⟨pb, 8, none⟩ (.int .i64 0)).alloc (.cells #[.int .i64 (l + v0), .int .i64 0, .int .i64 0, .int .i64 0, .int .i64 0, .int .i64 0, .int .i64 0, .int .i64 0, .int .i64 0] 36)).heap.size by have := O2.out.size; simp; omega)
          go_wp2_with (first
            | (at_builtin
               go_loud (refine wpList_append_rows rfl (.tmp 89) (.tmp 91) 22 rfl w.heap.size 36 i0 _ 9 72 Try.underlying22 HI.out HZ0.out HZ1.out HZ2.out rfl (by decide) _ (A.map Pt.row) [[.int .i64 (l + v0), .int .i64 0, .int .i64 0, .int .i64 0, .int .i64 0, .int .i64 0, .int .i64 0, .int .i64 0, .int .i64 0]] rfl HOA.out w13.heap.size 0 1 1 rfl rfl HRK.out (wide9d _ _ _ _ _ _ _ _ _) HL1.out HL2.out HBS.out ?_)
               intro v10 W6 hown6 hg6 z6
               clear z6
               have HO6 := hid (show OwnP W6 w.heap.size v10 (A ++ [⟨(l + v0), 0, 0, 0, 0, 0, 0, 0, 0⟩]) by unfold OwnP; rw [List.map_append]; exact hown6)
               have R6X := hid (RB.out.kept hg6 (fun e => by have := OwnR.ownBlock HOA.out rb e.symm; omega) (fun e => by have := OwnR.ownBlock HOA.out b e.symm; omega))
               have O6X := hid (OB.out.kept hg6 (by have := O2.out.size; simp; omega) (fun k e => OwnR.ownBlock HOA.out k e))
               clear hown6 hg6))
          obtain ⟨oa6, oc6, hv6⟩ := HO6.out.slice
          refine ⟨⟨i + 1, A ++ [⟨(l + v0), 0, 0, 0, 0, 0, 0, 0, 0⟩], l + v0, t1.mark, oa6, _, oc6, hv6, by omega, by simp [HA.out], by go_num, rfl, hv6 ▸ HO6.out, R6X.out, O6X.out, fun hb => ?_, ?_⟩, by simp [intOf]; omega⟩
          · exact absurd hb (by simp [St.mark])
          · rw [HE.out, show N - i = (N - (i + 1)) + 1 by omega, ptsR_next HBD.out HPT.out]
            simp
        · have db0 : decide ((1152921504606846976 : Int) < v0) = false := decide_eq_false hb0
          rcases e1 : nextS true t1 with ⟨v1, t2⟩
          rcases e2 : nextS true t2 with ⟨v2, t3⟩
          rcases e3 : nextS true t3 with ⟨v3, t4⟩
          rcases e4 : nextS false t4 with ⟨v4, t5⟩
          have q3 := nextI_range t3
          have q4 := nextU_range t4
          rw [e3] at q3
          rw [e4] at q4
          simp only at q3 q4
          have HP0 := hid (show ∀ s5, s5 = (if v3 < -268435456 ∨ 268435456 < v3 ∨ 536870912 < v4 ∨ 1152921504606846976 < l + v0 then t5.mark else t5) → ptR l s2 = (⟨l + v0, v1, v2, v3, v3 + v4, (nextS false s5).1, (nextS false (nextS false s5).2).1, (nextS false (nextS false (nextS false s5).2).2).1, (nextS false (nextS false (nextS false (nextS false s5).2).2).2).1⟩, (nextS false (nextS false (nextS false (nextS false s5).2).2).2).2) from fun s5 hs5 => by
            unfold ptR
            simp only [E0.out, if_neg hb0, e1, e2, e3, e4]
            rw [← hs5])
          have E1 := hid e1
          have E2 := hid e2
          have E3 := hid e3
          have E4 := hid e4
          clear e1 e2 e3 e4 hb0
          by_cases h1 : v3 < -268435456
          · skip
            have hs5 : t5.mark = (if v3 < -268435456 ∨ 268435456 < v3 ∨ 536870912 < v4 ∨ 1152921504606846976 < l + v0 then t5.mark else t5) := (if_pos (Or.inl h1)).symm
            have hpt := HP0.out _ hs5
            rcases e5 : nextS false t5.mark with ⟨v5, t6⟩
            rcases e6 : nextS false t6 with ⟨v6, t7⟩
            rcases e7 : nextS false t7 with ⟨v7, t8⟩
            rcases e8 : nextS false t8 with ⟨v8, t9⟩
            simp only [e5, e6, e7, e8] at hpt
            have HPT := hid hpt
            have HBB := hid (show t9.bad = false → 0 ≤ l + v0 ∧ l + v0 ≤ 1152921504606846976 from fun hb => by
              have k5 : (t5.mark).bad = true := rfl
              have k6 := nextS_keeps false _ k5; rw [e5] at k6
              have k7 := nextS_keeps false _ k6; rw [e6] at k7
              have k8 := nextS_keeps false _ k7; rw [e7] at k8
              have k9 := nextS_keeps false _ k8; rw [e8] at k9
              exact absurd (hb.symm.trans k9) (by decide))
            have k1 : decide (v3 < (-268435456 : Int)) = true := decide_eq_true h1
            have E5 := hid e5
            have E6 := hid e6
            have E7 := hid e7
            have E8 := hid e8
            clear e5 e6 e7 e8 hs5 hpt HP0 h1
            have FA := hid (heap_alloc_at wr (.cells #[.int .i64 0, .int .i64 0, .int .i64 0, .int .i64 0, .int .i64 0, .int .i64 0, .int .i64 0, .int .i64 0, .int .i64 0] 36) pb hpb)
            have RA := hid (R2.out.alloc (.cells #[.int .i64 0, .int .i64 0, .int .i64 0, .int .i64 0, .int .i64 0, .int .i64 0, .int .i64 0, .int .i64 0, .int .i64 0] 36))
            have OA := hid ((Only.refl rb wr.heap.size wr).alloc (Nat.le_refl _) (.cells #[.int .i64 0, .int .i64 0, .int .i64 0, .int .i64 0, .int .i64 0, .int .i64 0, .int .i64 0, .int .i64 0, .int .i64 0] 36))
            have zA : (wr.alloc (.cells #[.int .i64 0, .int .i64 0, .int .i64 0, .int .i64 0, .int .i64 0, .int .i64 0, .int .i64 0, .int .i64 0, .int .i64 0] 36)).heap.size = pb + 1 := by simp [hpb]
            have HPB := hid hpb
            clear hpb
            go_wp2_with fail
            rw [← HPB.out]
            clear HPB
            generalize wr.alloc (.cells #[.int .i64 0, .int .i64 0, .int .i64 0, .int .i64 0, .int .i64 0, .int .i64 0, .int .i64 0, .int .i64 0, .int .i64 0] 36) = W3 at *
            refine (rnum_at _ E0.out RA.out).mono ?_
            rintro r w5 ⟨rfl, hrd, hol⟩
            have R5 := hid hrd
            have F5 := hid (show w5.heap[pb]? = some (.cells #[.int .i64 0, .int .i64 0, .int .i64 0, .int .i64 0, .int .i64 0, .int .i64 0, .int .i64 0, .int .i64 0, .int .i64 0] 36) from hol.heap (by omega) FA.out)
            have O5 := hid (OA.out.trans hol (by omega))
            have hz5 : pb < w5.heap.size := (Array.getElem?_eq_some_iff.1 F5.out).1
            clear hrd hol fb
            have c5 : w5.cell? ⟨pb, 0, none⟩ = some (.int .i64 0) := (cell_row (j := 0) F5.out).trans rfl
            have f5 : w5.frozen? ⟨pb, 0, none⟩ = false := by have hh := F5.out; simp [World.frozen?, hh]
            go_wp2_with fail
            refine (rsig_at _ E1.out (R5.out.set (by omega) (by omega) _)).mono ?_
            rintro r w6 ⟨rfl, hrd, hol⟩
            have R6 := hid hrd
            have F6 := hid (show w6.heap[pb]? = some (.cells #[.int .i64 (l + v0), .int .i64 0, .int .i64 0, .int .i64 0, .int .i64 0, .int .i64 0, .int .i64 0, .int .i64 0, .int .i64 0] 36) from hol.heap (by omega) (heap_setCell F5.out _))
            have O6 := hid ((O5.out.set (by omega) _).trans hol (by first | omega | (simp; omega)))
            have hz6 : pb < w6.heap.size := (Array.getElem?_eq_some_iff.1 F6.out).1
            clear hrd hol
            have c6 : w6.cell? ⟨pb, 1, none⟩ = some (.int .i64 0) := (cell_row (j := 1) F6.out).trans rfl
            have f6 : w6.frozen? ⟨pb, 1, none⟩ = false := by have hh := F6.out; simp [World.frozen?, hh]
            go_wp2_with fail
            refine (rsig_at _ E2.out (R6.out.set (by omega) (by omega) _)).mono ?_
            rintro r w7 ⟨rfl, hrd, hol⟩
            have R7 := hid hrd
            have F7 := hid (show w7.heap[pb]? = some (.cells #[.int .i64 (l + v0), .int .i64 v1, .int .i64 0, .int .i64 0, .int .i64 0, .int .i64 0, .int .i64 0, .int .i64 0, .int .i64 0] 36) from hol.heap (by omega) (heap_setCell F6.out _))
            have O7 := hid ((O6.out.set (by omega) _).trans hol (by first | omega | (simp; omega)))
            have hz7 : pb < w7.heap.size := (Array.getElem?_eq_some_iff.1 F7.out).1
            clear hrd hol
            have c7 : w7.cell? ⟨pb, 2, none⟩ = some (.int .i64 0) := (cell_row (j := 2) F7.out).trans rfl
            have f7 : w7.frozen? ⟨pb, 2, none⟩ = false := by have hh := F7.out; simp [World.frozen?, hh]
            go_wp2_with fail
            refine (rsig_at _ E3.out (R7.out.set (by omega) (by omega) _)).mono ?_
            rintro r w8 ⟨rfl, hrd, hol⟩
            have R8 := hid hrd
            have F8 := hid (show w8.heap[pb]? = some (.cells #[.int .i64 (l + v0), .int .i64 v1, .int .i64 v2, .int .i64 0, .int .i64 0, .int .i64 0, .int .i64 0, .int .i64 0, .int .i64 0] 36) from hol.heap (by omega) (heap_setCell F7.out _))
            have O8 := hid ((O7.out.set (by omega) _).trans hol (by first | omega | (simp; omega)))
            have hz8 : pb < w8.heap.size := (Array.getElem?_eq_some_iff.1 F8.out).1
            clear hrd hol
            have c8 : w8.cell? ⟨pb, 3, none⟩ = some (.int .i64 0) := (cell_row (j := 3) F8.out).trans rfl
            have f8 : w8.frozen? ⟨pb, 3, none⟩ = false := by have hh := F8.out; simp [World.frozen?, hh]
            go_wp2_with fail
            refine (rnum_at _ E4.out (R8.out.set (by omega) (by omega) _)).mono ?_
            rintro r w9 ⟨rfl, hrd, hol⟩
            have R9 := hid hrd
            have F9 := hid (show w9.heap[pb]? = some (.cells #[.int .i64 (l + v0), .int .i64 v1, .int .i64 v2, .int .i64 v3, .int .i64 0, .int .i64 0, .int .i64 0, .int .i64 0, .int .i64 0] 36) from hol.heap (by omega) (heap_setCell F8.out _))
            have O9 := hid ((O8.out.set (by omega) _).trans hol (by first | omega | (simp; omega)))
            have hz9 : pb < w9.heap.size := (Array.getElem?_eq_some_iff.1 F9.out).1
            clear hrd hol
            clear c5 f5 c6 f6 c7 f7 c8 f8
            have y3 : w9.cell? ⟨pb, 3, none⟩ = some (.int .i64 v3) := (cell_row (j := 3) F9.out).trans rfl
            have y0 : w9.cell? ⟨pb, 0, none⟩ = some (.int .i64 (l + v0)) := (cell_row (j := 0) F9.out).trans rfl
            have yb2 := R9.out.flag.1
            have yf2 := R9.out.flag.2
            have RZ := hid R9.out.mark
            have FZ := hid (heap_set_other (j := 1) (g := rb) F9.out (by omega) (.bool true))
            have OZ := hid (only_setCell (j := 1) O9.out (.bool true))
            have y3b : (w9.setCell ⟨rb, 1, none⟩ (.bool true)).cell? ⟨pb, 3, none⟩ = some (.int .i64 v3) := (cell_row (j := 3) FZ.out).trans rfl
            have c9 : (w9.setCell ⟨rb, 1, none⟩ (.bool true)).cell? ⟨pb, 4, none⟩ = some (.int .i64 0) := (cell_row (j := 4) FZ.out).trans rfl
            have f9 : (w9.setCell ⟨rb, 1, none⟩ (.bool true)).frozen? ⟨pb, 4, none⟩ = false := by have hh := FZ.out; simp [World.frozen?, hh]
            go_wp2_with fail
            refine (rnum_at _ E5.out (RZ.out.set (by omega) (by omega) _)).mono ?_
            rintro r w10 ⟨rfl, hrd, hol⟩
            have R10 := hid hrd
            have F10 := hid (show w10.heap[pb]? = some (.cells #[.int .i64 (l + v0), .int .i64 v1, .int .i64 v2, .int .i64 v3, .int .i64 (v3 + v4), .int .i64 0, .int .i64 0, .int .i64 0, .int .i64 0] 36) from hol.heap (by omega) (heap_setCell FZ.out _))
            have O10 := hid ((OZ.out.set (by omega) _).trans hol (by first | omega | (simp; omega)))
            have hz10 : pb < w10.heap.size := (Array.getElem?_eq_some_iff.1 F10.out).1
            clear hrd hol
            have c10 : w10.cell? ⟨pb, 5, none⟩ = some (.int .i64 0) := (cell_row (j := 5) F10.out).trans rfl
            have f10 : w10.frozen? ⟨pb, 5, none⟩ = false := by have hh := F10.out; simp [World.frozen?, hh]
            go_wp2_with fail
            refine (rnum_at _ E6.out (R10.out.set (by omega) (by omega) _)).mono ?_
            rintro r w11 ⟨rfl, hrd, hol⟩
            have R11 := hid hrd
            have F11 := hid (show w11.heap[pb]? = some (.cells #[.int .i64 (l + v0), .int .i64 v1, .int .i64 v2, .int .i64 v3, .int .i64 (v3 + v4), .int .i64 v5, .int .i64 0, .int .i64 0, .int .i64 0] 36) from hol.heap (by omega) (heap_setCell F10.out _))
            have O11 := hid ((O10.out.set (by omega) _).trans hol (by first | omega | (simp; omega)))
            have hz11 : pb < w11.heap.size := (Array.getElem?_eq_some_iff.1 F11.out).1
            clear hrd hol
            have c11 : w11.cell? ⟨pb, 6, none⟩ = some (.int .i64 0) := (cell_row (j := 6) F11.out).trans rfl
            have f11 : w11.frozen? ⟨pb, 6, none⟩ = false := by have hh := F11.out; simp [World.frozen?, hh]
            go_wp2_with fail
            refine (rnum_at _ E7.out (R11.out.set (by omega) (by omega) _)).mono ?_
            rintro r w12 ⟨rfl, hrd, hol⟩
            have R12 := hid hrd
            have F12 := hid (show w12.heap[pb]? = some (.cells #[.int .i64 (l + v0), .int .i64 v1, .int .i64 v2, .int .i64 v3, .int .i64 (v3 + v4), .int .i64 v5, .int .i64 v6, .int .i64 0, .int .i64 0] 36) from hol.heap (by omega) (heap_setCell F11.out _))
            have O12 := hid ((O11.out.set (by omega) _).trans hol (by first | omega | (simp; omega)))
            have hz12 : pb < w12.heap.size := (Array.getElem?_eq_some_iff.1 F12.out).1
            clear hrd hol
            have c12 : w12.cell? ⟨pb, 7, none⟩ = some (.int .i64 0) := (cell_row (j := 7) F12.out).trans rfl
            have f12 : w12.frozen? ⟨pb, 7, none⟩ = false := by have hh := F12.out; simp [World.frozen?, hh]
            go_wp2_with fail
            refine (rnum_at _ E8.out (R12.out.set (by omega) (by omega) _)).mono ?_
            rintro r w13 ⟨rfl, hrd, hol⟩
            have R13 := hid hrd
            have F13 := hid (show w13.heap[pb]? = some (.cells #[.int .i64 (l + v0), .int .i64 v1, .int .i64 v2, .int .i64 v3, .int .i64 (v3 + v4), .int .i64 v5, .int .i64 v6, .int .i64 v7, .int .i64 0] 36) from hol.heap (by omega) (heap_setCell F12.out _))
            have O13 := hid ((O12.out.set (by omega) _).trans hol (by first | omega | (simp; omega)))
            have hz13 : pb < w13.heap.size := (Array.getElem?_eq_some_iff.1 F13.out).1
            clear hrd hol
            have c13 : w13.cell? ⟨pb, 8, none⟩ = some (.int .i64 0) := (cell_row (j := 8) F13.out).trans rfl
            have f13 : w13.frozen? ⟨pb, 8, none⟩ = false := by have hh := F13.out; simp [World.frozen?, hh]
            have RX := hid (show RdAt (w13.setCell ⟨pb, 8, none⟩ (.int .i64 v8)) rb 123 b t9 from (R13.out.set (by omega) (by omega) _))
            have FX := hid (show (w13.setCell ⟨pb, 8, none⟩ (.int .i64 v8)).heap[pb]? = some (.cells #[.int .i64 (l + v0), .int .i64 v1, .int .i64 v2, .int .i64 v3, .int .i64 (v3 + v4), .int .i64 v5, .int .i64 v6, .int .i64 v7, .int .i64 v8] 36) from (heap_setCell F13.out _))
            have OX := hid (show Only rb wr.heap.size wr (w13.setCell ⟨pb, 8, none⟩ (.int .i64 v8)) from (O13.out.set (by omega) _))
            have d0 : (w13.setCell ⟨pb, 8, none⟩ (.int .i64 v8)).cell? ⟨pb, 0, none⟩ = some (.int .i64 (l + v0)) := (cell_row (j := 0) FX.out).trans rfl
            have d1 : (w13.setCell ⟨pb, 8, none⟩ (.int .i64 v8)).cell? ⟨pb, 1, none⟩ = some (.int .i64 v1) := (cell_row (j := 1) FX.out).trans rfl
            have d2 : (w13.setCell ⟨pb, 8, none⟩ (.int .i64 v8)).cell? ⟨pb, 2, none⟩ = some (.int .i64 v2) := (cell_row (j := 2) FX.out).trans rfl
            have d3 : (w13.setCell ⟨pb, 8, none⟩ (.int .i64 v8)).cell? ⟨pb, 3, none⟩ = some (.int .i64 v3) := (cell_row (j := 3) FX.out).trans rfl
            have d4 : (w13.setCell ⟨pb, 8, none⟩ (.int .i64 v8)).cell? ⟨pb, 4, none⟩ = some (.int .i64 (v3 + v4)) := (cell_row (j := 4) FX.out).trans rfl
            have d5 : (w13.setCell ⟨pb, 8, none⟩ (.int .i64 v8)).cell? ⟨pb, 5, none⟩ = some (.int .i64 v5) := (cell_row (j := 5) FX.out).trans rfl
            have d6 : (w13.setCell ⟨pb, 8, none⟩ (.int .i64 v8)).cell? ⟨pb, 6, none⟩ = some (.int .i64 v6) := (cell_row (j := 6) FX.out).trans rfl
            have d7 : (w13.setCell ⟨pb, 8, none⟩ (.int .i64 v8)).cell? ⟨pb, 7, none⟩ = some (.int .i64 v7) := (cell_row (j := 7) FX.out).trans rfl
            have d8 : (w13.setCell ⟨pb, 8, none⟩ (.int .i64 v8)).cell? ⟨pb, 8, none⟩ = some (.int .i64 v8) := (cell_row (j := 8) FX.out).trans rfl
            have HRK := hid (RowsAt.one (heap_alloc_at (w13.setCell ⟨pb, 8, none⟩ (.int .i64 v8)) _ _ (by simp)) : RowsAt ((w13.setCell ⟨pb, 8, none⟩ (.int .i64 v8)).alloc (.cells #[.int .i64 (l + v0), .int .i64 v1, .int .i64 v2, .int .i64 v3, .int .i64 (v3 + v4), .int .i64 v5, .int .i64 v6, .int .i64 v7, .int .i64 v8] 36)) w13.heap.size 0 9 [[.int .i64 (l + v0), .int .i64 v1, .int .i64 v2, .int .i64 v3, .int .i64 (v3 + v4), .int .i64 v5, .int .i64 v6, .int .i64 v7, .int .i64 v8]])
            have HOA := hid (OwnR.grow (W' := (w13.setCell ⟨pb, 8, none⟩ (.int .i64 v8)).alloc (.cells #[.int .i64 (l + v0), .int .i64 v1, .int .i64 v2, .int .i64 v3, .int .i64 (v3 + v4), .int .i64 v5, .int .i64 v6, .int .i64 v7, .int .i64 v8] 36)) (HO.out.only OX.out (Nat.le_refl _) hrb) ((Below.refl _ _).alloc (Nat.le_refl _) _) : OwnR _ w.heap.size 36 9 (.slice oa on oc) (A.map Pt.row))
            have RB := hid (RX.out.alloc (.cells #[.int .i64 (l + v0), .int .i64 v1, .int .i64 v2, .int .i64 v3, .int .i64 (v3 + v4), .int .i64 v5, .int .i64 v6, .int .i64 v7, .int .i64 v8] 36))
            have OB := hid ((O2.out.trans OX.out O2.out.size).alloc (by have := O2.out.size; simp; omega) (.cells #[.int .i64 (l + v0), .int .i64 v1, .int .i64 v2, .int .i64 v3, .int .i64 (v3 + v4), .int .i64 v5, .int .i64 v6, .int .i64 v7, .int .i64 v8] 36))
            have HL1 := hid (show (A.map Pt.row).length + 1 ≤ maxLen by rw [List.length_map, HA.out]; unfold maxLen; omega)
            have HL2 := hid (show ((A.map Pt.row).length + 1) * 72 ≤ 140737488355328 by rw [List.length_map, HA.out]; omega)
            have HBS := hid (show w.heap.size ≤ ((w13.setCell ⟨pb, 8, none⟩ (.int .i64 v8)).alloc (.cells #[.int .i64 (l + v0), .int .i64 v1, .int .i64 v2, .int .i64 v3, .int .i64 (v3 + v4), .int .i64 v5, .int .i64 v6, .int .i64 v7, .int .i64 v8] 36)).heap.size by have := O2.out.size; simp; omega)
            go_wp2_with (first
              | (at_builtin
                 go_loud (refine wpList_append_rows rfl (.tmp 89) (.tmp 91) 22 rfl w.heap.size 36 i0 _ 9 72 Try.underlying22 HI.out HZ0.out HZ1.out HZ2.out rfl (by decide) _ (A.map Pt.row) [[.int .i64 (l + v0), .int .i64 v1, .int .i64 v2, .int .i64 v3, .int .i64 (v3 + v4), .int .i64 v5, .int .i64 v6, .int .i64 v7, .int .i64 v8]] rfl HOA.out w13.heap.size 0 1 1 rfl rfl HRK.out (wide9d _ _ _ _ _ _ _ _ _) HL1.out HL2.out HBS.out ?_)
                 intro v10 W6 hown6 hg6 z6
                 clear z6
                 have HO6 := hid (show OwnP W6 w.heap.size v10 (A ++ [⟨(l + v0), v1, v2, v3, (v3 + v4), v5, v6, v7, v8⟩]) by unfold OwnP; rw [List.map_append]; exact hown6)
                 have R6X := hid (RB.out.kept hg6 (fun e => by have := OwnR.ownBlock HOA.out rb e.symm; omega) (fun e => by have := OwnR.ownBlock HOA.out b e.symm; omega))
                 have O6X := hid (OB.out.kept hg6 (by have := O2.out.size; simp; omega) (fun k e => OwnR.ownBlock HOA.out k e))
                 clear hown6 hg6))
            obtain ⟨oa6, oc6, hv6⟩ := HO6.out.slice
            refine ⟨⟨i + 1, A ++ [⟨(l + v0), v1, v2, v3, (v3 + v4), v5, v6, v7, v8⟩], l + v0, t9, oa6, _, oc6, hv6, by omega, by simp [HA.out], by go_num, rfl, hv6 ▸ HO6.out, R6X.out, O6X.out, fun hb => ?_, ?_⟩, by simp [intOf]; omega⟩
            · exact HBB.out hb
            · rw [HE.out, show N - i = (N - (i + 1)) + 1 by omega, ptsR_next HBD.out HPT.out]
              simp
          · skip
            by_cases h2 : 268435456 < v3
            · skip
              have hs5 : t5.mark = (if v3 < -268435456 ∨ 268435456 < v3 ∨ 536870912 < v4 ∨ 1152921504606846976 < l + v0 then t5.mark else t5) := (if_pos (Or.inr (Or.inl h2))).symm
              have hpt := HP0.out _ hs5
              rcases e5 : nextS false t5.mark with ⟨v5, t6⟩
              rcases e6 : nextS false t6 with ⟨v6, t7⟩
              rcases e7 : nextS false t7 with ⟨v7, t8⟩
              rcases e8 : nextS false t8 with ⟨v8, t9⟩
              simp only [e5, e6, e7, e8] at hpt
              have HPT := hid hpt
              have HBB := hid (show t9.bad = false → 0 ≤ l + v0 ∧ l + v0 ≤ 1152921504606846976 from fun hb => by
                have k5 : (t5.mark).bad = true := rfl
                have k6 := nextS_keeps false _ k5; rw [e5] at k6
                have k7 := nextS_keeps false _ k6; rw [e6] at k7
                have k8 := nextS_keeps false _ k7; rw [e7] at k8
                have k9 := nextS_keeps false _ k8; rw [e8] at k9
                exact absurd (hb.symm.trans k9) (by decide))
              have k1 : decide (v3 < (-268435456 : Int)) = false := decide_eq_false h1
              have k2 : decide ((268435456 : Int) < v3) = true := decide_eq_true h2
              have E5 := hid e5
              have E6 := hid e6
              have E7 := hid e7
              have E8 := hid e8
              clear e5 e6 e7 e8 hs5 hpt HP0 h1 h2
              have FA := hid (heap_alloc_at wr (.cells #[.int .i64 0, .int .i64 0, .int .i64 0, .int .i64 0, .int .i64 0, .int .i64 0, .int .i64 0, .int .i64 0, .int .i64 0] 36) pb hpb)
              have RA := hid (R2.out.alloc (.cells #[.int .i64 0, .int .i64 0, .int .i64 0, .int .i64 0, .int .i64 0, .int .i64 0, .int .i64 0, .int .i64 0, .int .i64 0] 36))
              have OA := hid ((Only.refl rb wr.heap.size wr).alloc (Nat.le_refl _) (.cells #[.int .i64 0, .int .i64 0, .int .i64 0, .int .i64 0, .int .i64 0, .int .i64 0, .int .i64 0, .int .i64 0, .int .i64 0] 36))
              have zA : (wr.alloc (.cells #[.int .i64 0, .int .i64 0, .int .i64 0, .int .i64 0, .int .i64 0, .int .i64 0, .int .i64 0, .int .i64 0, .int .i64 0] 36)).heap.size = pb + 1 := by simp [hpb]
              have HPB := hid hpb
              clear hpb
              go_wp2_with fail
              rw [← HPB.out]
              clear HPB
              generalize wr.alloc (.cells #[.int .i64 0, .int .i64 0, .int .i64 0, .int .i64 0, .int .i64 0, .int .i64 0, .int .i64 0, .int .i64 0, .int .i64 0] 36) = W3 at *
              refine (rnum_at _ E0.out RA.out).mono ?_
              rintro r w5 ⟨rfl, hrd, hol⟩
              have R5 := hid hrd
              have F5 := hid (show w5.heap[pb]? = some (.cells #[.int .i64 0, .int .i64 0, .int .i64 0, .int .i64 0, .int .i64 0, .int .i64 0, .int .i64 0, .int .i64 0, .int .i64 0] 36) from hol.heap (by omega) FA.out)
              have O5 := hid (OA.out.trans hol (by omega))
              have hz5 : pb < w5.heap.size := (Array.getElem?_eq_some_iff.1 F5.out).1
              clear hrd hol fb
              have c5 : w5.cell? ⟨pb, 0, none⟩ = some (.int .i64 0) := (cell_row (j := 0) F5.out).trans rfl
              have f5 : w5.frozen? ⟨pb, 0, none⟩ = false := by have hh := F5.out; simp [World.frozen?, hh]
              go_wp2_with fail
              refine (rsig_at _ E1.out (R5.out.set (by omega) (by omega) _)).mono ?_
              rintro r w6 ⟨rfl, hrd, hol⟩
              have R6 := hid hrd
              have F6 := hid (show w6.heap[pb]? = some (.cells #[.int .i64 (l + v0), .int .i64 0, .int .i64 0, .int .i64 0, .int .i64 0, .int .i64 0, .int .i64 0, .int .i64 0, .int .i64 0] 36) from hol.heap (by omega) (heap_setCell F5.out _))
              have O6 := hid ((O5.out.set (by omega) _).trans hol (by first | omega | (simp; omega)))
              have hz6 : pb < w6.heap.size := (Array.getElem?_eq_some_iff.1 F6.out).1
              clear hrd hol
              have c6 : w6.cell? ⟨pb, 1, none⟩ = some (.int .i64 0) := (cell_row (j := 1) F6.out).trans rfl
              have f6 : w6.frozen? ⟨pb, 1, none⟩ = false := by have hh := F6.out; simp [World.frozen?, hh]
              go_wp2_with fail
              refine (rsig_at _ E2.out (R6.out.set (by omega) (by omega) _)).mono ?_
              rintro r w7 ⟨rfl, hrd, hol⟩
              have R7 := hid hrd
              have F7 := hid (show w7.heap[pb]? = some (.cells #[.int .i64 (l + v0), .int .i64 v1, .int .i64 0, .int .i64 0, .int .i64 0, .int .i64 0, .int .i64 0, .int .i64 0, .int .i64 0] 36) from hol.heap (by omega) (heap_setCell F6.out _))
              have O7 := hid ((O6.out.set (by omega) _).trans hol (by first | omega | (simp; omega)))
              have hz7 : pb < w7.heap.size := (Array.getElem?_eq_some_iff.1 F7.out).1
              clear hrd hol
              have c7 : w7.cell? ⟨pb, 2, none⟩ = some (.int .i64 0) := (cell_row (j := 2) F7.out).trans rfl
              have f7 : w7.frozen? ⟨pb, 2, none⟩ = false := by have hh := F7.out; simp [World.frozen?, hh]
              go_wp2_with fail
              refine (rsig_at _ E3.out (R7.out.set (by omega) (by omega) _)).mono ?_
              rintro r w8 ⟨rfl, hrd, hol⟩
              have R8 := hid hrd
              have F8 := hid (show w8.heap[pb]? = some (.cells #[.int .i64 (l + v0), .int .i64 v1, .int .i64 v2, .int .i64 0, .int .i64 0, .int .i64 0, .int .i64 0, .int .i64 0, .int .i64 0] 36) from hol.heap (by omega) (heap_setCell F7.out _))
              have O8 := hid ((O7.out.set (by omega) _).trans hol (by first | omega | (simp; omega)))
              have hz8 : pb < w8.heap.size := (Array.getElem?_eq_some_iff.1 F8.out).1
              clear hrd hol
              have c8 : w8.cell? ⟨pb, 3, none⟩ = some (.int .i64 0) := (cell_row (j := 3) F8.out).trans rfl
              have f8 : w8.frozen? ⟨pb, 3, none⟩ = false := by have hh := F8.out; simp [World.frozen?, hh]
              go_wp2_with fail
              refine (rnum_at _ E4.out (R8.out.set (by omega) (by omega) _)).mono ?_
              rintro r w9 ⟨rfl, hrd, hol⟩
              have R9 := hid hrd
              have F9 := hid (show w9.heap[pb]? = some (.cells #[.int .i64 (l + v0), .int .i64 v1, .int .i64 v2, .int .i64 v3, .int .i64 0, .int .i64 0, .int .i64 0, .int .i64 0, .int .i64 0] 36) from hol.heap (by omega) (heap_setCell F8.out _))
              have O9 := hid ((O8.out.set (by omega) _).trans hol (by first | omega | (simp; omega)))
              have hz9 : pb < w9.heap.size := (Array.getElem?_eq_some_iff.1 F9.out).1
              clear hrd hol
              clear c5 f5 c6 f6 c7 f7 c8 f8
              have y3 : w9.cell? ⟨pb, 3, none⟩ = some (.int .i64 v3) := (cell_row (j := 3) F9.out).trans rfl
              have y0 : w9.cell? ⟨pb, 0, none⟩ = some (.int .i64 (l + v0)) := (cell_row (j := 0) F9.out).trans rfl
              have yb2 := R9.out.flag.1
              have yf2 := R9.out.flag.2
              have RZ := hid R9.out.mark
              have FZ := hid (heap_set_other (j := 1) (g := rb) F9.out (by omega) (.bool true))
              have OZ := hid (only_setCell (j := 1) O9.out (.bool true))
              have y3b : (w9.setCell ⟨rb, 1, none⟩ (.bool true)).cell? ⟨pb, 3, none⟩ = some (.int .i64 v3) := (cell_row (j := 3) FZ.out).trans rfl
              have c9 : (w9.setCell ⟨rb, 1, none⟩ (.bool true)).cell? ⟨pb, 4, none⟩ = some (.int .i64 0) := (cell_row (j := 4) FZ.out).trans rfl
              have f9 : (w9.setCell ⟨rb, 1, none⟩ (.bool true)).frozen? ⟨pb, 4, none⟩ = false := by have hh := FZ.out; simp [World.frozen?, hh]
              go_wp2_with fail
              refine (rnum_at _ E5.out (RZ.out.set (by omega) (by omega) _)).mono ?_
              rintro r w10 ⟨rfl, hrd, hol⟩
              have R10 := hid hrd
              have F10 := hid (show w10.heap[pb]? = some (.cells #[.int .i64 (l + v0), .int .i64 v1, .int .i64 v2, .int .i64 v3, .int .i64 (v3 + v4), .int .i64 0, .int .i64 0, .int .i64 0, .int .i64 0] 36) from hol.heap (by omega) (heap_setCell FZ.out _))
              have O10 := hid ((OZ.out.set (by omega) _).trans hol (by first | omega | (simp; omega)))
              have hz10 : pb < w10.heap.size := (Array.getElem?_eq_some_iff.1 F10.out).1
              clear hrd hol
              have c10 : w10.cell? ⟨pb, 5, none⟩ = some (.int .i64 0) := (cell_row (j := 5) F10.out).trans rfl
              have f10 : w10.frozen? ⟨pb, 5, none⟩ = false := by have hh := F10.out; simp [World.frozen?, hh]
              go_wp2_with fail
              refine (rnum_at _ E6.out (R10.out.set (by omega) (by omega) _)).mono ?_
              rintro r w11 ⟨rfl, hrd, hol⟩
              have R11 := hid hrd
              have F11 := hid (show w11.heap[pb]? = some (.cells #[.int .i64 (l + v0), .int .i64 v1, .int .i64 v2, .int .i64 v3, .int .i64 (v3 + v4), .int .i64 v5, .int .i64 0, .int .i64 0, .int .i64 0] 36) from hol.heap (by omega) (heap_setCell F10.out _))
              have O11 := hid ((O10.out.set (by omega) _).trans hol (by first | omega | (simp; omega)))
              have hz11 : pb < w11.heap.size := (Array.getElem?_eq_some_iff.1 F11.out).1
              clear hrd hol
              have c11 : w11.cell? ⟨pb, 6, none⟩ = some (.int .i64 0) := (cell_row (j := 6) F11.out).trans rfl
              have f11 : w11.frozen? ⟨pb, 6, none⟩ = false := by have hh := F11.out; simp [World.frozen?, hh]
              go_wp2_with fail
              refine (rnum_at _ E7.out (R11.out.set (by omega) (by omega) _)).mono ?_
              rintro r w12 ⟨rfl, hrd, hol⟩
              have R12 := hid hrd
              have F12 := hid (show w12.heap[pb]? = some (.cells #[.int .i64 (l + v0), .int .i64 v1, .int .i64 v2, .int .i64 v3, .int .i64 (v3 + v4), .int .i64 v5, .int .i64 v6, .int .i64 0, .int .i64 0] 36) from hol.heap (by omega) (heap_setCell F11.out _))
              have O12 := hid ((O11.out.set (by omega) _).trans hol (by first | omega | (simp; omega)))
              have hz12 : pb < w12.heap.size := (Array.getElem?_eq_some_iff.1 F12.out).1
              clear hrd hol
              have c12 : w12.cell? ⟨pb, 7, none⟩ = some (.int .i64 0) := (cell_row (j := 7) F12.out).trans rfl
              have f12 : w12.frozen? ⟨pb, 7, none⟩ = false := by have hh := F12.out; simp [World.frozen?, hh]
              go_wp2_with fail
              refine (rnum_at _ E8.out (R12.out.set (by omega) (by omega) _)).mono ?_
              rintro r w13 ⟨rfl, hrd, hol⟩
              have R13 := hid hrd
              have F13 := hid (show w13.heap[pb]? = some (.cells #[.int .i64 (l + v0), .int .i64 v1, .int .i64 v2, .int .i64 v3, .int .i64 (v3 + v4), .int .i64 v5, .int .i64 v6, .int .i64 v7, .int .i64 0] 36) from hol.heap (by omega) (heap_setCell F12.out _))
              have O13 := hid ((O12.out.set (by omega) _).trans hol (by first | omega | (simp; omega)))
              have hz13 : pb < w13.heap.size := (Array.getElem?_eq_some_iff.1 F13.out).1
              clear hrd hol
              have c13 : w13.cell? ⟨pb, 8, none⟩ = some (.int .i64 0) := (cell_row (j := 8) F13.out).trans rfl
              have f13 : w13.frozen? ⟨pb, 8, none⟩ = false := by have hh := F13.out; simp [World.frozen?, hh]
              have RX := hid (show RdAt (w13.setCell ⟨pb, 8, none⟩ (.int .i64 v8)) rb 123 b t9 from (R13.out.set (by omega) (by omega) _))
              have FX := hid (show (w13.setCell ⟨pb, 8, none⟩ (.int .i64 v8)).heap[pb]? = some (.cells #[.int .i64 (l + v0), .int .i64 v1, .int .i64 v2, .int .i64 v3, .int .i64 (v3 + v4), .int .i64 v5, .int .i64 v6, .int .i64 v7, .int .i64 v8] 36) from (heap_setCell F13.out _))
              have OX := hid (show Only rb wr.heap.size wr (w13.setCell ⟨pb, 8, none⟩ (.int .i64 v8)) from (O13.out.set (by omega) _))
              have d0 : (w13.setCell ⟨pb, 8, none⟩ (.int .i64 v8)).cell? ⟨pb, 0, none⟩ = some (.int .i64 (l + v0)) := (cell_row (j := 0) FX.out).trans rfl
              have d1 : (w13.setCell ⟨pb, 8, none⟩ (.int .i64 v8)).cell? ⟨pb, 1, none⟩ = some (.int .i64 v1) := (cell_row (j := 1) FX.out).trans rfl
              have d2 : (w13.setCell ⟨pb, 8, none⟩ (.int .i64 v8)).cell? ⟨pb, 2, none⟩ = some (.int .i64 v2) := (cell_row (j := 2) FX.out).trans rfl
              have d3 : (w13.setCell ⟨pb, 8, none⟩ (.int .i64 v8)).cell? ⟨pb, 3, none⟩ = some (.int .i64 v3) := (cell_row (j := 3) FX.out).trans rfl
              have d4 : (w13.setCell ⟨pb, 8, none⟩ (.int .i64 v8)).cell? ⟨pb, 4, none⟩ = some (.int .i64 (v3 + v4)) := (cell_row (j := 4) FX.out).trans rfl
              have d5 : (w13.setCell ⟨pb, 8, none⟩ (.int .i64 v8)).cell? ⟨pb, 5, none⟩ = some (.int .i64 v5) := (cell_row (j := 5) FX.out).trans rfl
              have d6 : (w13.setCell ⟨pb, 8, none⟩ (.int .i64 v8)).cell? ⟨pb, 6, none⟩ = some (.int .i64 v6) := (cell_row (j := 6) FX.out).trans rfl
              have d7 : (w13.setCell ⟨pb, 8, none⟩ (.int .i64 v8)).cell? ⟨pb, 7, none⟩ = some (.int .i64 v7) := (cell_row (j := 7) FX.out).trans rfl
              have d8 : (w13.setCell ⟨pb, 8, none⟩ (.int .i64 v8)).cell? ⟨pb, 8, none⟩ = some (.int .i64 v8) := (cell_row (j := 8) FX.out).trans rfl
              have HRK := hid (RowsAt.one (heap_alloc_at (w13.setCell ⟨pb, 8, none⟩ (.int .i64 v8)) _ _ (by simp)) : RowsAt ((w13.setCell ⟨pb, 8, none⟩ (.int .i64 v8)).alloc (.cells #[.int .i64 (l + v0), .int .i64 v1, .int .i64 v2, .int .i64 v3, .int .i64 (v3 + v4), .int .i64 v5, .int .i64 v6, .int .i64 v7, .int .i64 v8] 36)) w13.heap.size 0 9 [[.int .i64 (l + v0), .int .i64 v1, .int .i64 v2, .int .i64 v3, .int .i64 (v3 + v4), .int .i64 v5, .int .i64 v6, .int .i64 v7, .int .i64 v8]])
              have HOA := hid (OwnR.grow (W' := (w13.setCell ⟨pb, 8, none⟩ (.int .i64 v8)).alloc (.cells #[.int .i64 (l + v0), .int .i64 v1, .int .i64 v2, .int .i64 v3, .int .i64 (v3 + v4), .int .i64 v5, .int .i64 v6, .int .i64 v7, .int .i64 v8] 36)) (HO.out.only OX.out (Nat.le_refl _) hrb) ((Below.refl _ _).alloc (Nat.le_refl _) _) : OwnR _ w.heap.size 36 9 (.slice oa on oc) (A.map Pt.row))
              have RB := hid (RX.out.alloc (.cells #[.int .i64 (l + v0), .int .i64 v1, .int .i64 v2, .int .i64 v3, .int .i64 (v3 + v4), .int .i64 v5, .int .i64 v6, .int .i64 v7, .int .i64 v8] 36))
              have OB := hid ((O2.out.trans OX.out O2.out.size).alloc (by have := O2.out.size; simp; omega) (.cells #[.int .i64 (l + v0), .int .i64 v1, .int .i64 v2, .int .i64 v3, .int .i64 (v3 + v4), .int .i64 v5, .int .i64 v6, .int .i64 v7, .int .i64 v8] 36))
              have HL1 := hid (show (A.map Pt.row).length + 1 ≤ maxLen by rw [List.length_map, HA.out]; unfold maxLen; omega)
              have HL2 := hid (show ((A.map Pt.row).length + 1) * 72 ≤ 140737488355328 by rw [List.length_map, HA.out]; omega)
              have HBS := hid (show w.heap.size ≤ ((w13.setCell ⟨pb, 8, none⟩ (.int .i64 v8)).alloc (.cells #[.int .i64 (l + v0), .int .i64 v1, .int .i64 v2, .int .i64 v3, .int .i64 (v3 + v4), .int .i64 v5, .int .i64 v6, .int .i64 v7, .int .i64 v8] 36)).heap.size by have := O2.out.size; simp; omega)
              go_wp2_with (first
                | (at_builtin
                   go_loud (refine wpList_append_rows rfl (.tmp 89) (.tmp 91) 22 rfl w.heap.size 36 i0 _ 9 72 Try.underlying22 HI.out HZ0.out HZ1.out HZ2.out rfl (by decide) _ (A.map Pt.row) [[.int .i64 (l + v0), .int .i64 v1, .int .i64 v2, .int .i64 v3, .int .i64 (v3 + v4), .int .i64 v5, .int .i64 v6, .int .i64 v7, .int .i64 v8]] rfl HOA.out w13.heap.size 0 1 1 rfl rfl HRK.out (wide9d _ _ _ _ _ _ _ _ _) HL1.out HL2.out HBS.out ?_)
                   intro v10 W6 hown6 hg6 z6
                   clear z6
                   have HO6 := hid (show OwnP W6 w.heap.size v10 (A ++ [⟨(l + v0), v1, v2, v3, (v3 + v4), v5, v6, v7, v8⟩]) by unfold OwnP; rw [List.map_append]; exact hown6)
                   have R6X := hid (RB.out.kept hg6 (fun e => by have := OwnR.ownBlock HOA.out rb e.symm; omega) (fun e => by have := OwnR.ownBlock HOA.out b e.symm; omega))
                   have O6X := hid (OB.out.kept hg6 (by have := O2.out.size; simp; omega) (fun k e => OwnR.ownBlock HOA.out k e))
                   clear hown6 hg6))
              obtain ⟨oa6, oc6, hv6⟩ := HO6.out.slice
              refine ⟨⟨i + 1, A ++ [⟨(l + v0), v1, v2, v3, (v3 + v4), v5, v6, v7, v8⟩], l + v0, t9, oa6, _, oc6, hv6, by omega, by simp [HA.out], by go_num, rfl, hv6 ▸ HO6.out, R6X.out, O6X.out, fun hb => ?_, ?_⟩, by simp [intOf]; omega⟩
              · exact HBB.out hb
              · rw [HE.out, show N - i = (N - (i + 1)) + 1 by omega, ptsR_next HBD.out HPT.out]
                simp
            · skip
              by_cases h3 : 536870912 < v4
              · skip
                have hs5 : t5.mark = (if v3 < -268435456 ∨ 268435456 < v3 ∨ 536870912 < v4 ∨ 1152921504606846976 < l + v0 then t5.mark else t5) := (if_pos (Or.inr (Or.inr (Or.inl h3)))).symm
                have hpt := HP0.out _ hs5
                rcases e5 : nextS false t5.mark with ⟨v5, t6⟩
                rcases e6 : nextS false t6 with ⟨v6, t7⟩
                rcases e7 : nextS false t7 with ⟨v7, t8⟩
                rcases e8 : nextS false t8 with ⟨v8, t9⟩
                simp only [e5, e6, e7, e8] at hpt
                have HPT := hid hpt
                have HBB := hid (show t9.bad = false → 0 ≤ l + v0 ∧ l + v0 ≤ 1152921504606846976 from fun hb => by
                  have k5 : (t5.mark).bad = true := rfl
                  have k6 := nextS_keeps false _ k5; rw [e5] at k6
                  have k7 := nextS_keeps false _ k6; rw [e6] at k7
                  have k8 := nextS_keeps false _ k7; rw [e7] at k8
                  have k9 := nextS_keeps false _ k8; rw [e8] at k9
                  exact absurd (hb.symm.trans k9) (by decide))
                have k1 : decide (v3 < (-268435456 : Int)) = false := decide_eq_false h1
                have k2 : decide ((268435456 : Int) < v3) = false := decide_eq_false h2
                have k3 : decide ((536870912 : Int) < v4) = true := decide_eq_true h3
                have E5 := hid e5
                have E6 := hid e6
                have E7 := hid e7
                have E8 := hid e8
                clear e5 e6 e7 e8 hs5 hpt HP0 h1 h2 h3
                have FA := hid (heap_alloc_at wr (.cells #[.int .i64 0, .int .i64 0, .int .i64 0, .int .i64 0, .int .i64 0, .int .i64 0, .int .i64 0, .int .i64 0, .int .i64 0] 36) pb hpb)
                have RA := hid (R2.out.alloc (.cells #[.int .i64 0, .int .i64 0, .int .i64 0, .int .i64 0, .int .i64 0, .int .i64 0, .int .i64 0, .int .i64 0, .int .i64 0] 36))
                have OA := hid ((Only.refl rb wr.heap.size wr).alloc (Nat.le_refl _) (.cells #[.int .i64 0, .int .i64 0, .int .i64 0, .int .i64 0, .int .i64 0, .int .i64 0, .int .i64 0, .int .i64 0, .int .i64 0] 36))
                have zA : (wr.alloc (.cells #[.int .i64 0, .int .i64 0, .int .i64 0, .int .i64 0, .int .i64 0, .int .i64 0, .int .i64 0, .int .i64 0, .int .i64 0] 36)).heap.size = pb + 1 := by simp [hpb]
                have HPB := hid hpb
                clear hpb
                go_wp2_with fail
                rw [← HPB.out]
                clear HPB
                generalize wr.alloc (.cells #[.int .i64 0, .int .i64 0, .int .i64 0, .int .i64 0, .int .i64 0, .int .i64 0, .int .i64 0, .int .i64 0, .int .i64 0] 36) = W3 at *
                refine (rnum_at _ E0.out RA.out).mono ?_
                rintro r w5 ⟨rfl, hrd, hol⟩
                have R5 := hid hrd
                have F5 := hid (show w5.heap[pb]? = some (.cells #[.int .i64 0, .int .i64 0, .int .i64 0, .int .i64 0, .int .i64 0, .int .i64 0, .int .i64 0, .int .i64 0, .int .i64 0] 36) from hol.heap (by omega) FA.out)
                have O5 := hid (OA.out.trans hol (by omega))
                have hz5 : pb < w5.heap.size := (Array.getElem?_eq_some_iff.1 F5.out).1
                clear hrd hol fb
                have c5 : w5.cell? ⟨pb, 0, none⟩ = some (.int .i64 0) := (cell_row (j := 0) F5.out).trans rfl
                have f5 : w5.frozen? ⟨pb, 0, none⟩ = false := by have hh := F5.out; simp [World.frozen?, hh]
                go_wp2_with fail
                refine (rsig_at _ E1.out (R5.out.set (by omega) (by omega) _)).mono ?_
                rintro r w6 ⟨rfl, hrd, hol⟩
                have R6 := hid hrd
                have F6 := hid (show w6.heap[pb]? = some (.cells #[.int .i64 (l + v0), .int .i64 0, .int .i64 0, .int .i64 0, .int .i64 0, .int .i64 0, .int .i64 0, .int .i64 0, .int .i64 0] 36) from hol.heap (by omega) (heap_setCell F5.out _))
                have O6 := hid ((O5.out.set (by omega) _).trans hol (by first | omega | (simp; omega)))
                have hz6 : pb < w6.heap.size := (Array.getElem?_eq_some_iff.1 F6.out).1
                clear hrd hol
                have c6 : w6.cell? ⟨pb, 1, none⟩ = some (.int .i64 0) := (cell_row (j := 1) F6.out).trans rfl
                have f6 : w6.frozen? ⟨pb, 1, none⟩ = false := by have hh := F6.out; simp [World.frozen?, hh]
                go_wp2_with fail
                refine (rsig_at _ E2.out (R6.out.set (by omega) (by omega) _)).mono ?_
                rintro r w7 ⟨rfl, hrd, hol⟩
                have R7 := hid hrd
                have F7 := hid (show w7.heap[pb]? = some (.cells #[.int .i64 (l + v0), .int .i64 v1, .int .i64 0, .int .i64 0, .int .i64 0, .int .i64 0, .int .i64 0, .int .i64 0, .int .i64 0] 36) from hol.heap (by omega) (heap_setCell F6.out _))
                have O7 := hid ((O6.out.set (by omega) _).trans hol (by first | omega | (simp; omega)))
                have hz7 : pb < w7.heap.size := (Array.getElem?_eq_some_iff.1 F7.out).1
                clear hrd hol
                have c7 : w7.cell? ⟨pb, 2, none⟩ = some (.int .i64 0) := (cell_row (j := 2) F7.out).trans rfl
                have f7 : w7.frozen? ⟨pb, 2, none⟩ = false := by have hh := F7.out; simp [World.frozen?, hh]
                go_wp2_with fail
                refine (rsig_at _ E3.out (R7.out.set (by omega) (by omega) _)).mono ?_
                rintro r w8 ⟨rfl, hrd, hol⟩
                have R8 := hid hrd
                have F8 := hid (show w8.heap[pb]? = some (.cells #[.int .i64 (l + v0), .int .i64 v1, .int .i64 v2, .int .i64 0, .int .i64 0, .int .i64 0, .int .i64 0, .int .i64 0, .int .i64 0] 36) from hol.heap (by omega) (heap_setCell F7.out _))
                have O8 := hid ((O7.out.set (by omega) _).trans hol (by first | omega | (simp; omega)))
                have hz8 : pb < w8.heap.size := (Array.getElem?_eq_some_iff.1 F8.out).1
                clear hrd hol
                have c8 : w8.cell? ⟨pb, 3, none⟩ = some (.int .i64 0) := (cell_row (j := 3) F8.out).trans rfl
                have f8 : w8.frozen? ⟨pb, 3, none⟩ = false := by have hh := F8.out; simp [World.frozen?, hh]
                go_wp2_with fail
                refine (rnum_at _ E4.out (R8.out.set (by omega) (by omega) _)).mono ?_
                rintro r w9 ⟨rfl, hrd, hol⟩
                have R9 := hid hrd
                have F9 := hid (show w9.heap[pb]? = some (.cells #[.int .i64 (l + v0), .int .i64 v1, .int .i64 v2, .int .i64 v3, .int .i64 0, .int .i64 0, .int .i64 0, .int .i64 0, .int .i64 0] 36) from hol.heap (by omega) (heap_setCell F8.out _))
                have O9 := hid ((O8.out.set (by omega) _).trans hol (by first | omega | (simp; omega)))
                have hz9 : pb < w9.heap.size := (Array.getElem?_eq_some_iff.1 F9.out).1
                clear hrd hol
                clear c5 f5 c6 f6 c7 f7 c8 f8
                have y3 : w9.cell? ⟨pb, 3, none⟩ = some (.int .i64 v3) := (cell_row (j := 3) F9.out).trans rfl
                have y0 : w9.cell? ⟨pb, 0, none⟩ = some (.int .i64 (l + v0)) := (cell_row (j := 0) F9.out).trans rfl
                have yb2 := R9.out.flag.1
                have yf2 := R9.out.flag.2
                have RZ := hid R9.out.mark
                have FZ := hid (heap_set_other (j := 1) (g := rb) F9.out (by omega) (.bool true))
                have OZ := hid (only_setCell (j := 1) O9.out (.bool true))
                have y3b : (w9.setCell ⟨rb, 1, none⟩ (.bool true)).cell? ⟨pb, 3, none⟩ = some (.int .i64 v3) := (cell_row (j := 3) FZ.out).trans rfl
                have c9 : (w9.setCell ⟨rb, 1, none⟩ (.bool true)).cell? ⟨pb, 4, none⟩ = some (.int .i64 0) := (cell_row (j := 4) FZ.out).trans rfl
                have f9 : (w9.setCell ⟨rb, 1, none⟩ (.bool true)).frozen? ⟨pb, 4, none⟩ = false := by have hh := FZ.out; simp [World.frozen?, hh]
                go_wp2_with fail
                refine (rnum_at _ E5.out (RZ.out.set (by omega) (by omega) _)).mono ?_
                rintro r w10 ⟨rfl, hrd, hol⟩
                have R10 := hid hrd
                have F10 := hid (show w10.heap[pb]? = some (.cells #[.int .i64 (l + v0), .int .i64 v1, .int .i64 v2, .int .i64 v3, .int .i64 (v3 + v4), .int .i64 0, .int .i64 0, .int .i64 0, .int .i64 0] 36) from hol.heap (by omega) (heap_setCell FZ.out _))
                have O10 := hid ((OZ.out.set (by omega) _).trans hol (by first | omega | (simp; omega)))
                have hz10 : pb < w10.heap.size := (Array.getElem?_eq_some_iff.1 F10.out).1
                clear hrd hol
                have c10 : w10.cell? ⟨pb, 5, none⟩ = some (.int .i64 0) := (cell_row (j := 5) F10.out).trans rfl
                have f10 : w10.frozen? ⟨pb, 5, none⟩ = false := by have hh := F10.out; simp [World.frozen?, hh]
                go_wp2_with fail
                refine (rnum_at _ E6.out (R10.out.set (by omega) (by omega) _)).mono ?_
                rintro r w11 ⟨rfl, hrd, hol⟩
                have R11 := hid hrd
                have F11 := hid (show w11.heap[pb]? = some (.cells #[.int .i64 (l + v0), .int .i64 v1, .int .i64 v2, .int .i64 v3, .int .i64 (v3 + v4), .int .i64 v5, .int .i64 0, .int .i64 0, .int .i64 0] 36) from hol.heap (by omega) (heap_setCell F10.out _))
                have O11 := hid ((O10.out.set (by omega) _).trans hol (by first | omega | (simp; omega)))
                have hz11 : pb < w11.heap.size := (Array.getElem?_eq_some_iff.1 F11.out).1
                clear hrd hol
                have c11 : w11.cell? ⟨pb, 6, none⟩ = some (.int .i64 0) := (cell_row (j := 6) F11.out).trans rfl
                have f11 : w11.frozen? ⟨pb, 6, none⟩ = false := by have hh := F11.out; simp [World.frozen?, hh]
                go_wp2_with fail
                refine (rnum_at _ E7.out (R11.out.set (by omega) (by omega) _)).mono ?_
                rintro r w12 ⟨rfl, hrd, hol⟩
                have R12 := hid hrd
                have F12 := hid (show w12.heap[pb]? = some (.cells #[.int .i64 (l + v0), .int .i64 v1, .int .i64 v2, .int .i64 v3, .int .i64 (v3 + v4), .int .i64 v5, .int .i64 v6, .int .i64 0, .int .i64 0] 36) from hol.heap (by omega) (heap_setCell F11.out _))
                have O12 := hid ((O11.out.set (by omega) _).trans hol (by first | omega | (simp; omega)))
                have hz12 : pb < w12.heap.size := (Array.getElem?_eq_some_iff.1 F12.out).1
                clear hrd hol
                have c12 : w12.cell? ⟨pb, 7, none⟩ = some (.int .i64 0) := (cell_row (j := 7) F12.out).trans rfl
                have f12 : w12.frozen? ⟨pb, 7, none⟩ = false := by have hh := F12.out; simp [World.frozen?, hh]
                go_wp2_with fail
                refine (rnum_at _ E8.out (R12.out.set (by omega) (by omega) _)).mono ?_
                rintro r w13 ⟨rfl, hrd, hol⟩
                have R13 := hid hrd
                have F13 := hid (show w13.heap[pb]? = some (.cells #[.int .i64 (l + v0), .int .i64 v1, .int .i64 v2, .int .i64 v3, .int .i64 (v3 + v4), .int .i64 v5, .int .i64 v6, .int .i64 v7, .int .i64 0] 36) from hol.heap (by omega) (heap_setCell F12.out _))
                have O13 := hid ((O12.out.set (by omega) _).trans hol (by first | omega | (simp; omega)))
                have hz13 : pb < w13.heap.size := (Array.getElem?_eq_some_iff.1 F13.out).1
                clear hrd hol
                have c13 : w13.cell? ⟨pb, 8, none⟩ = some (.int .i64 0) := (cell_row (j := 8) F13.out).trans rfl
                have f13 : w13.frozen? ⟨pb, 8, none⟩ = false := by have hh := F13.out; simp [World.frozen?, hh]
                have RX := hid (show RdAt (w13.setCell ⟨pb, 8, none⟩ (.int .i64 v8)) rb 123 b t9 from (R13.out.set (by omega) (by omega) _))
                have FX := hid (show (w13.setCell ⟨pb, 8, none⟩ (.int .i64 v8)).heap[pb]? = some (.cells #[.int .i64 (l + v0), .int .i64 v1, .int .i64 v2, .int .i64 v3, .int .i64 (v3 + v4), .int .i64 v5, .int .i64 v6, .int .i64 v7, .int .i64 v8] 36) from (heap_setCell F13.out _))
                have OX := hid (show Only rb wr.heap.size wr (w13.setCell ⟨pb, 8, none⟩ (.int .i64 v8)) from (O13.out.set (by omega) _))
                have d0 : (w13.setCell ⟨pb, 8, none⟩ (.int .i64 v8)).cell? ⟨pb, 0, none⟩ = some (.int .i64 (l + v0)) := (cell_row (j := 0) FX.out).trans rfl
                have d1 : (w13.setCell ⟨pb, 8, none⟩ (.int .i64 v8)).cell? ⟨pb, 1, none⟩ = some (.int .i64 v1) := (cell_row (j := 1) FX.out).trans rfl
                have d2 : (w13.setCell ⟨pb, 8, none⟩ (.int .i64 v8)).cell? ⟨pb, 2, none⟩ = some (.int .i64 v2) := (cell_row (j := 2) FX.out).trans rfl
                have d3 : (w13.setCell ⟨pb, 8, none⟩ (.int .i64 v8)).cell? ⟨pb, 3, none⟩ = some (.int .i64 v3) := (cell_row (j := 3) FX.out).trans rfl
                have d4 : (w13.setCell ⟨pb, 8, none⟩ (.int .i64 v8)).cell? ⟨pb, 4, none⟩ = some (.int .i64 (v3 + v4)) := (cell_row (j := 4) FX.out).trans rfl
                have d5 : (w13.setCell ⟨pb, 8, none⟩ (.int .i64 v8)).cell? ⟨pb, 5, none⟩ = some (.int .i64 v5) := (cell_row (j := 5) FX.out).trans rfl
                have d6 : (w13.setCell ⟨pb, 8, none⟩ (.int .i64 v8)).cell? ⟨pb, 6, none⟩ = some (.int .i64 v6) := (cell_row (j := 6) FX.out).trans rfl
                have d7 : (w13.setCell ⟨pb, 8, none⟩ (.int .i64 v8)).cell? ⟨pb, 7, none⟩ = some (.int .i64 v7) := (cell_row (j := 7) FX.out).trans rfl
                have d8 : (w13.setCell ⟨pb, 8, none⟩ (.int .i64 v8)).cell? ⟨pb, 8, none⟩ = some (.int .i64 v8) := (cell_row (j := 8) FX.out).trans rfl
                have HRK := hid (RowsAt.one (heap_alloc_at (w13.setCell ⟨pb, 8, none⟩ (.int .i64 v8)) _ _ (by simp)) : RowsAt ((w13.setCell ⟨pb, 8, none⟩ (.int .i64 v8)).alloc (.cells #[.int .i64 (l + v0), .int .i64 v1, .int .i64 v2, .int .i64 v3, .int .i64 (v3 + v4), .int .i64 v5, .int .i64 v6, .int .i64 v7, .int .i64 v8] 36)) w13.heap.size 0 9 [[.int .i64 (l + v0), .int .i64 v1, .int .i64 v2, .int .i64 v3, .int .i64 (v3 + v4), .int .i64 v5, .int .i64 v6, .int .i64 v7, .int .i64 v8]])
                have HOA := hid (OwnR.grow (W' := (w13.setCell ⟨pb, 8, none⟩ (.int .i64 v8)).alloc (.cells #[.int .i64 (l + v0), .int .i64 v1, .int .i64 v2, .int .i64 v3, .int .i64 (v3 + v4), .int .i64 v5, .int .i64 v6, .int .i64 v7, .int .i64 v8] 36)) (HO.out.only OX.out (Nat.le_refl _) hrb) ((Below.refl _ _).alloc (Nat.le_refl _) _) : OwnR _ w.heap.size 36 9 (.slice oa on oc) (A.map Pt.row))
                have RB := hid (RX.out.alloc (.cells #[.int .i64 (l + v0), .int .i64 v1, .int .i64 v2, .int .i64 v3, .int .i64 (v3 + v4), .int .i64 v5, .int .i64 v6, .int .i64 v7, .int .i64 v8] 36))
                have OB := hid ((O2.out.trans OX.out O2.out.size).alloc (by have := O2.out.size; simp; omega) (.cells #[.int .i64 (l + v0), .int .i64 v1, .int .i64 v2, .int .i64 v3, .int .i64 (v3 + v4), .int .i64 v5, .int .i64 v6, .int .i64 v7, .int .i64 v8] 36))
                have HL1 := hid (show (A.map Pt.row).length + 1 ≤ maxLen by rw [List.length_map, HA.out]; unfold maxLen; omega)
                have HL2 := hid (show ((A.map Pt.row).length + 1) * 72 ≤ 140737488355328 by rw [List.length_map, HA.out]; omega)
                have HBS := hid (show w.heap.size ≤ ((w13.setCell ⟨pb, 8, none⟩ (.int .i64 v8)).alloc (.cells #[.int .i64 (l + v0), .int .i64 v1, .int .i64 v2, .int .i64 v3, .int .i64 (v3 + v4), .int .i64 v5, .int .i64 v6, .int .i64 v7, .int .i64 v8] 36)).heap.size by have := O2.out.size; simp; omega)
                go_wp2_with (first
                  | (at_builtin
                     go_loud (refine wpList_append_rows rfl (.tmp 89) (.tmp 91) 22 rfl w.heap.size 36 i0 _ 9 72 Try.underlying22 HI.out HZ0.out HZ1.out HZ2.out rfl (by decide) _ (A.map Pt.row) [[.int .i64 (l + v0), .int .i64 v1, .int .i64 v2, .int .i64 v3, .int .i64 (v3 + v4), .int .i64 v5, .int .i64 v6, .int .i64 v7, .int .i64 v8]] rfl HOA.out w13.heap.size 0 1 1 rfl rfl HRK.out (wide9d _ _ _ _ _ _ _ _ _) HL1.out HL2.out HBS.out ?_)
                     intro v10 W6 hown6 hg6 z6
                     clear z6
                     have HO6 := hid (show OwnP W6 w.heap.size v10 (A ++ [⟨(l + v0), v1, v2, v3, (v3 + v4), v5, v6, v7, v8⟩]) by unfold OwnP; rw [List.map_append]; exact hown6)
                     have R6X := hid (RB.out.kept hg6 (fun e => by have := OwnR.ownBlock HOA.out rb e.symm; omega) (fun e => by have := OwnR.ownBlock HOA.out b e.symm; omega))
                     have O6X := hid (OB.out.kept hg6 (by have := O2.out.size; simp; omega) (fun k e => OwnR.ownBlock HOA.out k e))
                     clear hown6 hg6))
                obtain ⟨oa6, oc6, hv6⟩ := HO6.out.slice
                refine ⟨⟨i + 1, A ++ [⟨(l + v0), v1, v2, v3, (v3 + v4), v5, v6, v7, v8⟩], l + v0, t9, oa6, _, oc6, hv6, by omega, by simp [HA.out], by go_num, rfl, hv6 ▸ HO6.out, R6X.out, O6X.out, fun hb => ?_, ?_⟩, by simp [intOf]; omega⟩
                · exact HBB.out hb
                · rw [HE.out, show N - i = (N - (i + 1)) + 1 by omega, ptsR_next HBD.out HPT.out]
                  simp
              · skip
                by_cases h4 : 1152921504606846976 < l + v0
                · skip
                  have hs5 : t5.mark = (if v3 < -268435456 ∨ 268435456 < v3 ∨ 536870912 < v4 ∨ 1152921504606846976 < l + v0 then t5.mark else t5) := (if_pos (Or.inr (Or.inr (Or.inr h4)))).symm
                  have hpt := HP0.out _ hs5
                  rcases e5 : nextS false t5.mark with ⟨v5, t6⟩
                  rcases e6 : nextS false t6 with ⟨v6, t7⟩
                  rcases e7 : nextS false t7 with ⟨v7, t8⟩
                  rcases e8 : nextS false t8 with ⟨v8, t9⟩
                  simp only [e5, e6, e7, e8] at hpt
                  have HPT := hid hpt
                  have HBB := hid (show t9.bad = false → 0 ≤ l + v0 ∧ l + v0 ≤ 1152921504606846976 from fun hb => by
                    have k5 : (t5.mark).bad = true := rfl
                    have k6 := nextS_keeps false _ k5; rw [e5] at k6
                    have k7 := nextS_keeps false _ k6; rw [e6] at k7
                    have k8 := nextS_keeps false _ k7; rw [e7] at k8
                    have k9 := nextS_keeps false _ k8; rw [e8] at k9
                    exact absurd (hb.symm.trans k9) (by decide))
                  have k1 : decide (v3 < (-268435456 : Int)) = false := decide_eq_false h1
                  have k2 : decide ((268435456 : Int) < v3) = false := decide_eq_false h2
                  have k3 : decide ((536870912 : Int) < v4) = false := decide_eq_false h3
                  have k4 : decide ((1152921504606846976 : Int) < l + v0) = true := decide_eq_true h4
                  have E5 := hid e5
                  have E6 := hid e6
                  have E7 := hid e7
                  have E8 := hid e8
                  clear e5 e6 e7 e8 hs5 hpt HP0 h1 h2 h3 h4
                  have FA := hid (heap_alloc_at wr (.cells #[.int .i64 0, .int .i64 0, .int .i64 0, .int .i64 0, .int .i64 0, .int .i64 0, .int .i64 0, .int .i64 0, .int .i64 0] 36) pb hpb)
                  have RA := hid (R2.out.alloc (.cells #[.int .i64 0, .int .i64 0, .int .i64 0, .int .i64 0, .int .i64 0, .int .i64 0, .int .i64 0, .int .i64 0, .int .i64 0] 36))
                  have OA := hid ((Only.refl rb wr.heap.size wr).alloc (Nat.le_refl _) (.cells #[.int .i64 0, .int .i64 0, .int .i64 0, .int .i64 0, .int .i64 0, .int .i64 0, .int .i64 0, .int .i64 0, .int .i64 0] 36))
                  have zA : (wr.alloc (.cells #[.int .i64 0, .int .i64 0, .int .i64 0, .int .i64 0, .int .i64 0, .int .i64 0, .int .i64 0, .int .i64 0, .int .i64 0] 36)).heap.size = pb + 1 := by simp [hpb]
                  have HPB := hid hpb
                  clear hpb
                  go_wp2_with fail
                  rw [← HPB.out]
                  clear HPB
                  generalize wr.alloc (.cells #[.int .i64 0, .int .i64 0, .int .i64 0, .int .i64 0, .int .i64 0, .int .i64 0, .int .i64 0, .int .i64 0, .int .i64 0] 36) = W3 at *
                  refine (rnum_at _ E0.out RA.out).mono ?_
                  rintro r w5 ⟨rfl, hrd, hol⟩
                  have R5 := hid hrd
                  have F5 := hid (show w5.heap[pb]? = some (.cells #[.int .i64 0, .int .i64 0, .int .i64 0, .int .i64 0, .int .i64 0, .int .i64 0, .int .i64 0, .int .i64 0, .int .i64 0] 36) from hol.heap (by omega) FA.out)
                  have O5 := hid (OA.out.trans hol (by omega))
                  have hz5 : pb < w5.heap.size := (Array.getElem?_eq_some_iff.1 F5.out).1
                  clear hrd hol fb
                  have c5 : w5.cell? ⟨pb, 0, none⟩ = some (.int .i64 0) := (cell_row (j := 0) F5.out).trans rfl
                  have f5 : w5.frozen? ⟨pb, 0, none⟩ = false := by have hh := F5.out; simp [World.frozen?, hh]
                  go_wp2_with fail
                  refine (rsig_at _ E1.out (R5.out.set (by omega) (by omega) _)).mono ?_
                  rintro r w6 ⟨rfl, hrd, hol⟩
                  have R6 := hid hrd
                  have F6 := hid (show w6.heap[pb]? = some (.cells #[.int .i64 (l + v0), .int .i64 0, .int .i64 0, .int .i64 0, .int .i64 0, .int .i64 0, .int .i64 0, .int .i64 0, .int .i64 0] 36) from hol.heap (by omega) (heap_setCell F5.out _))
                  have O6 := hid ((O5.out.set (by omega) _).trans hol (by first | omega | (simp; omega)))
                  have hz6 : pb < w6.heap.size := (Array.getElem?_eq_some_iff.1 F6.out).1
                  clear hrd hol
                  have c6 : w6.cell? ⟨pb, 1, none⟩ = some (.int .i64 0) := (cell_row (j := 1) F6.out).trans rfl
                  have f6 : w6.frozen? ⟨pb, 1, none⟩ = false := by have hh := F6.out; simp [World.frozen?, hh]
                  go_wp2_with fail
                  refine (rsig_at _ E2.out (R6.out.set (by omega) (by omega) _)).mono ?_
                  rintro r w7 ⟨rfl, hrd, hol⟩
                  have R7 := hid hrd
                  have F7 := hid (show w7.heap[pb]? = some (.cells #[.int .i64 (l + v0), .int .i64 v1, .int .i64 0, .int .i64 0, .int .i64 0, .int .i64 0, .int .i64 0, .int .i64 0, .int .i64 0] 36) from hol.heap (by omega) (heap_setCell F6.out _))
                  have O7 := hid ((O6.out.set (by omega) _).trans hol (by first | omega | (simp; omega)))
                  have hz7 : pb < w7.heap.size := (Array.getElem?_eq_some_iff.1 F7.out).1
                  clear hrd hol
                  have c7 : w7.cell? ⟨pb, 2, none⟩ = some (.int .i64 0) := (cell_row (j := 2) F7.out).trans rfl
                  have f7 : w7.frozen? ⟨pb, 2, none⟩ = false := by have hh := F7.out; simp [World.frozen?, hh]
                  go_wp2_with fail
                  refine (rsig_at _ E3.out (R7.out.set (by omega) (by omega) _)).mono ?_
                  rintro r w8 ⟨rfl, hrd, hol⟩
                  have R8 := hid hrd
                  have F8 := hid (show w8.heap[pb]? = some (.cells #[.int .i64 (l + v0), .int .i64 v1, .int .i64 v2, .int .i64 0, .int .i64 0, .int .i64 0, .int .i64 0, .int .i64 0, .int .i64 0] 36) from hol.heap (by omega) (heap_setCell F7.out _))
                  have O8 := hid ((O7.out.set (by omega) _).trans hol (by first | omega | (simp; omega)))
                  have hz8 : pb < w8.heap.size := (Array.getElem?_eq_some_iff.1 F8.out).1
                  clear hrd hol
                  have c8 : w8.cell? ⟨pb, 3, none⟩ = some (.int .i64 0) := (cell_row (j := 3) F8.out).trans rfl
                  have f8 : w8.frozen? ⟨pb, 3, none⟩ = false := by have hh := F8.out; simp [World.frozen?, hh]
                  go_wp2_with fail
                  refine (rnum_at _ E4.out (R8.out.set (by omega) (by omega) _)).mono ?_
                  rintro r w9 ⟨rfl, hrd, hol⟩
                  have R9 := hid hrd
                  have F9 := hid (show w9.heap[pb]? = some (.cells #[.int .i64 (l + v0), .int .i64 v1, .int .i64 v2, .int .i64 v3, .int .i64 0, .int .i64 0, .int .i64 0, .int .i64 0, .int .i64 0] 36) from hol.heap (by omega) (heap_setCell F8.out _))
                  have O9 := hid ((O8.out.set (by omega) _).trans hol (by first | omega | (simp; omega)))
                  have hz9 : pb < w9.heap.size := (Array.getElem?_eq_some_iff.1 F9.out).1
                  clear hrd hol
                  clear c5 f5 c6 f6 c7 f7 c8 f8
                  have y3 : w9.cell? ⟨pb, 3, none⟩ = some (.int .i64 v3) := (cell_row (j := 3) F9.out).trans rfl
                  have y0 : w9.cell? ⟨pb, 0, none⟩ = some (.int .i64 (l + v0)) := (cell_row (j := 0) F9.out).trans rfl
                  have yb2 := R9.out.flag.1
                  have yf2 := R9.out.flag.2
                  have RZ := hid R9.out.mark
                  have FZ := hid (heap_set_other (j := 1) (g := rb) F9.out (by omega) (.bool true))
                  have OZ := hid (only_setCell (j := 1) O9.out (.bool true))
                  have y3b : (w9.setCell ⟨rb, 1, none⟩ (.bool true)).cell? ⟨pb, 3, none⟩ = some (.int .i64 v3) := (cell_row (j := 3) FZ.out).trans rfl
                  have c9 : (w9.setCell ⟨rb, 1, none⟩ (.bool true)).cell? ⟨pb, 4, none⟩ = some (.int .i64 0) := (cell_row (j := 4) FZ.out).trans rfl
                  have f9 : (w9.setCell ⟨rb, 1, none⟩ (.bool true)).frozen? ⟨pb, 4, none⟩ = false := by have hh := FZ.out; simp [World.frozen?, hh]
                  go_wp2_with fail
                  refine (rnum_at _ E5.out (RZ.out.set (by omega) (by omega) _)).mono ?_
                  rintro r w10 ⟨rfl, hrd, hol⟩
                  have R10 := hid hrd
                  have F10 := hid (show w10.heap[pb]? = some (.cells #[.int .i64 (l + v0), .int .i64 v1, .int .i64 v2, .int .i64 v3, .int .i64 (v3 + v4), .int .i64 0, .int .i64 0, .int .i64 0, .int .i64 0] 36) from hol.heap (by omega) (heap_setCell FZ.out _))
                  have O10 := hid ((OZ.out.set (by omega) _).trans hol (by first | omega | (simp; omega)))
                  have hz10 : pb < w10.heap.size := (Array.getElem?_eq_some_iff.1 F10.out).1
                  clear hrd hol
                  have c10 : w10.cell? ⟨pb, 5, none⟩ = some (.int .i64 0) := (cell_row (j := 5) F10.out).trans rfl
                  have f10 : w10.frozen? ⟨pb, 5, none⟩ = false := by have hh := F10.out; simp [World.frozen?, hh]
                  go_wp2_with fail
                  refine (rnum_at _ E6.out (R10.out.set (by omega) (by omega) _)).mono ?_
                  rintro r w11 ⟨rfl, hrd, hol⟩
                  have R11 := hid hrd
                  have F11 := hid (show w11.heap[pb]? = some (.cells #[.int .i64 (l + v0), .int .i64 v1, .int .i64 v2, .int .i64 v3, .int .i64 (v3 + v4), .int .i64 v5, .int .i64 0, .int .i64 0, .int .i64 0] 36) from hol.heap (by omega) (heap_setCell F10.out _))
                  have O11 := hid ((O10.out.set (by omega) _).trans hol (by first | omega | (simp; omega)))
                  have hz11 : pb < w11.heap.size := (Array.getElem?_eq_some_iff.1 F11.out).1
                  clear hrd hol
                  have c11 : w11.cell? ⟨pb, 6, none⟩ = some (.int .i64 0) := (cell_row (j := 6) F11.out).trans rfl
                  have f11 : w11.frozen? ⟨pb, 6, none⟩ = false := by have hh := F11.out; simp [World.frozen?, hh]
                  go_wp2_with fail
                  refine (rnum_at _ E7.out (R11.out.set (by omega) (by omega) _)).mono ?_
                  rintro r w12 ⟨rfl, hrd, hol⟩
                  have R12 := hid hrd
                  have F12 := hid (show w12.heap[pb]? = some (.cells #[.int .i64 (l + v0), .int .i64 v1, .int .i64 v2, .int .i64 v3, .int .i64 (v3 + v4), .int .i64 v5, .int .i64 v6, .int .i64 0, .int .i64 0] 36) from hol.heap (by omega) (heap_setCell F11.out _))
                  have O12 := hid ((O11.out.set (by omega) _).trans hol (by first | omega | (simp; omega)))
                  have hz12 : pb < w12.heap.size := (Array.getElem?_eq_some_iff.1 F12.out).1
                  clear hrd hol
                  have c12 : w12.cell? ⟨pb, 7, none⟩ = some (.int .i64 0) := (cell_row (j := 7) F12.out).trans rfl
                  have f12 : w12.frozen? ⟨pb, 7, none⟩ = false := by have hh := F12.out; simp [World.frozen?, hh]
                  go_wp2_with fail
                  refine (rnum_at _ E8.out (R12.out.set (by omega) (by omega) _)).mono ?_
                  rintro r w13 ⟨rfl, hrd, hol⟩
                  have R13 := hid hrd
                  have F13 := hid (show w13.heap[pb]? = some (.cells #[.int .i64 (l + v0), .int .i64 v1, .int .i64 v2, .int .i64 v3, .int .i64 (v3 + v4), .int .i64 v5, .int .i64 v6, .int .i64 v7, .int .i64 0] 36) from hol.heap (by omega) (heap_setCell F12.out _))
                  have O13 := hid ((O12.out.set (by omega) _).trans hol (by first | omega | (simp; omega)))
                  have hz13 : pb < w13.heap.size := (Array.getElem?_eq_some_iff.1 F13.out).1
                  clear hrd hol
                  have c13 : w13.cell? ⟨pb, 8, none⟩ = some (.int .i64 0) := (cell_row (j := 8) F13.out).trans rfl
                  have f13 : w13.frozen? ⟨pb, 8, none⟩ = false := by have hh := F13.out; simp [World.frozen?, hh]
                  have RX := hid (show RdAt (w13.setCell ⟨pb, 8, none⟩ (.int .i64 v8)) rb 123 b t9 from (R13.out.set (by omega) (by omega) _))
                  have FX := hid (show (w13.setCell ⟨pb, 8, none⟩ (.int .i64 v8)).heap[pb]? = some (.cells #[.int .i64 (l + v0), .int .i64 v1, .int .i64 v2, .int .i64 v3, .int .i64 (v3 + v4), .int .i64 v5, .int .i64 v6, .int .i64 v7, .int .i64 v8] 36) from (heap_setCell F13.out _))
                  have OX := hid (show Only rb wr.heap.size wr (w13.setCell ⟨pb, 8, none⟩ (.int .i64 v8)) from (O13.out.set (by omega) _))
                  have d0 : (w13.setCell ⟨pb, 8, none⟩ (.int .i64 v8)).cell? ⟨pb, 0, none⟩ = some (.int .i64 (l + v0)) := (cell_row (j := 0) FX.out).trans rfl
                  have d1 : (w13.setCell ⟨pb, 8, none⟩ (.int .i64 v8)).cell? ⟨pb, 1, none⟩ = some (.int .i64 v1) := (cell_row (j := 1) FX.out).trans rfl
                  have d2 : (w13.setCell ⟨pb, 8, none⟩ (.int .i64 v8)).cell? ⟨pb, 2, none⟩ = some (.int .i64 v2) := (cell_row (j := 2) FX.out).trans rfl
                  have d3 : (w13.setCell ⟨pb, 8, none⟩ (.int .i64 v8)).cell? ⟨pb, 3, none⟩ = some (.int .i64 v3) := (cell_row (j := 3) FX.out).trans rfl
                  have d4 : (w13.setCell ⟨pb, 8, none⟩ (.int .i64 v8)).cell? ⟨pb, 4, none⟩ = some (.int .i64 (v3 + v4)) := (cell_row (j := 4) FX.out).trans rfl
                  have d5 : (w13.setCell ⟨pb, 8, none⟩ (.int .i64 v8)).cell? ⟨pb, 5, none⟩ = some (.int .i64 v5) := (cell_row (j := 5) FX.out).trans rfl
                  have d6 : (w13.setCell ⟨pb, 8, none⟩ (.int .i64 v8)).cell? ⟨pb, 6, none⟩ = some (.int .i64 v6) := (cell_row (j := 6) FX.out).trans rfl
                  have d7 : (w13.setCell ⟨pb, 8, none⟩ (.int .i64 v8)).cell? ⟨pb, 7, none⟩ = some (.int .i64 v7) := (cell_row (j := 7) FX.out).trans rfl
                  have d8 : (w13.setCell ⟨pb, 8, none⟩ (.int .i64 v8)).cell? ⟨pb, 8, none⟩ = some (.int .i64 v8) := (cell_row (j := 8) FX.out).trans rfl
                  have HRK := hid (RowsAt.one (heap_alloc_at (w13.setCell ⟨pb, 8, none⟩ (.int .i64 v8)) _ _ (by simp)) : RowsAt ((w13.setCell ⟨pb, 8, none⟩ (.int .i64 v8)).alloc (.cells #[.int .i64 (l + v0), .int .i64 v1, .int .i64 v2, .int .i64 v3, .int .i64 (v3 + v4), .int .i64 v5, .int .i64 v6, .int .i64 v7, .int .i64 v8] 36)) w13.heap.size 0 9 [[.int .i64 (l + v0), .int .i64 v1, .int .i64 v2, .int .i64 v3, .int .i64 (v3 + v4), .int .i64 v5, .int .i64 v6, .int .i64 v7, .int .i64 v8]])
                  have HOA := hid (OwnR.grow (W' := (w13.setCell ⟨pb, 8, none⟩ (.int .i64 v8)).alloc (.cells #[.int .i64 (l + v0), .int .i64 v1, .int .i64 v2, .int .i64 v3, .int .i64 (v3 + v4), .int .i64 v5, .int .i64 v6, .int .i64 v7, .int .i64 v8] 36)) (HO.out.only OX.out (Nat.le_refl _) hrb) ((Below.refl _ _).alloc (Nat.le_refl _) _) : OwnR _ w.heap.size 36 9 (.slice oa on oc) (A.map Pt.row))
                  have RB := hid (RX.out.alloc (.cells #[.int .i64 (l + v0), .int .i64 v1, .int .i64 v2, .int .i64 v3, .int .i64 (v3 + v4), .int .i64 v5, .int .i64 v6, .int .i64 v7, .int .i64 v8] 36))
                  have OB := hid ((O2.out.trans OX.out O2.out.size).alloc (by have := O2.out.size; simp; omega) (.cells #[.int .i64 (l + v0), .int .i64 v1, .int .i64 v2, .int .i64 v3, .int .i64 (v3 + v4), .int .i64 v5, .int .i64 v6, .int .i64 v7, .int .i64 v8] 36))
                  have HL1 := hid (show (A.map Pt.row).length + 1 ≤ maxLen by rw [List.length_map, HA.out]; unfold maxLen; omega)
                  have HL2 := hid (show ((A.map Pt.row).length + 1) * 72 ≤ 140737488355328 by rw [List.length_map, HA.out]; omega)
                  have HBS := hid (show w.heap.size ≤ ((w13.setCell ⟨pb, 8, none⟩ (.int .i64 v8)).alloc (.cells #[.int .i64 (l + v0), .int .i64 v1, .int .i64 v2, .int .i64 v3, .int .i64 (v3 + v4), .int .i64 v5, .int .i64 v6, .int .i64 v7, .int .i64 v8] 36)).heap.size by have := O2.out.size; simp; omega)
                  go_wp2_with (first
                    | (at_builtin
                       go_loud (refine wpList_append_rows rfl (.tmp 89) (.tmp 91) 22 rfl w.heap.size 36 i0 _ 9 72 Try.underlying22 HI.out HZ0.out HZ1.out HZ2.out rfl (by decide) _ (A.map Pt.row) [[.int .i64 (l + v0), .int .i64 v1, .int .i64 v2, .int .i64 v3, .int .i64 (v3 + v4), .int .i64 v5, .int .i64 v6, .int .i64 v7, .int .i64 v8]] rfl HOA.out w13.heap.size 0 1 1 rfl rfl HRK.out (wide9d _ _ _ _ _ _ _ _ _) HL1.out HL2.out HBS.out ?_)
                       intro v10 W6 hown6 hg6 z6
                       clear z6
                       have HO6 := hid (show OwnP W6 w.heap.size v10 (A ++ [⟨(l + v0), v1, v2, v3, (v3 + v4), v5, v6, v7, v8⟩]) by unfold OwnP; rw [List.map_append]; exact hown6)
                       have R6X := hid (RB.out.kept hg6 (fun e => by have := OwnR.ownBlock HOA.out rb e.symm; omega) (fun e => by have := OwnR.ownBlock HOA.out b e.symm; omega))
                       have O6X := hid (OB.out.kept hg6 (by have := O2.out.size; simp; omega) (fun k e => OwnR.ownBlock HOA.out k e))
                       clear hown6 hg6))
                  obtain ⟨oa6, oc6, hv6⟩ := HO6.out.slice
                  refine ⟨⟨i + 1, A ++ [⟨(l + v0), v1, v2, v3, (v3 + v4), v5, v6, v7, v8⟩], l + v0, t9, oa6, _, oc6, hv6, by omega, by simp [HA.out], by go_num, rfl, hv6 ▸ HO6.out, R6X.out, O6X.out, fun hb => ?_, ?_⟩, by simp [intOf]; omega⟩
                  · exact HBB.out hb
                  · rw [HE.out, show N - i = (N - (i + 1)) + 1 by omega, ptsR_next HBD.out HPT.out]
                    simp
                · skip
                  have hs5 : t5 = (if v3 < -268435456 ∨ 268435456 < v3 ∨ 536870912 < v4 ∨ 1152921504606846976 < l + v0 then t5.mark else t5) := (if_neg (fun h => h.elim h1 (fun h => h.elim h2 (fun h => h.elim h3 h4)))).symm
                  have hpt := HP0.out _ hs5
                  rcases e5 : nextS false t5 with ⟨v5, t6⟩
                  rcases e6 : nextS false t6 with ⟨v6, t7⟩
                  rcases e7 : nextS false t7 with ⟨v7, t8⟩
                  rcases e8 : nextS false t8 with ⟨v8, t9⟩
                  simp only [e5, e6, e7, e8] at hpt
                  have HPT := hid hpt
                  have HBB := hid (show t9.bad = false → 0 ≤ l + v0 ∧ l + v0 ≤ 1152921504606846976 from fun _ => by omega)
                  have k1 : decide (v3 < (-268435456 : Int)) = false := decide_eq_false h1
                  have k2 : decide ((268435456 : Int) < v3) = false := decide_eq_false h2
                  have k3 : decide ((536870912 : Int) < v4) = false := decide_eq_false h3
                  have k4 : decide ((1152921504606846976 : Int) < l + v0) = false := decide_eq_false h4
                  have E5 := hid e5
                  have E6 := hid e6
                  have E7 := hid e7
                  have E8 := hid e8
                  clear e5 e6 e7 e8 hs5 hpt HP0 h1 h2 h3 h4
                  have FA := hid (heap_alloc_at wr (.cells #[.int .i64 0, .int .i64 0, .int .i64 0, .int .i64 0, .int .i64 0, .int .i64 0, .int .i64 0, .int .i64 0, .int .i64 0] 36) pb hpb)
                  have RA := hid (R2.out.alloc (.cells #[.int .i64 0, .int .i64 0, .int .i64 0, .int .i64 0, .int .i64 0, .int .i64 0, .int .i64 0, .int .i64 0, .int .i64 0] 36))
                  have OA := hid ((Only.refl rb wr.heap.size wr).alloc (Nat.le_refl _) (.cells #[.int .i64 0, .int .i64 0, .int .i64 0, .int .i64 0, .int .i64 0, .int .i64 0, .int .i64 0, .int .i64 0, .int .i64 0] 36))
                  have zA : (wr.alloc (.cells #[.int .i64 0, .int .i64 0, .int .i64 0, .int .i64 0, .int .i64 0, .int .i64 0, .int .i64 0, .int .i64 0, .int .i64 0] 36)).heap.size = pb + 1 := by simp [hpb]
                  have HPB := hid hpb
                  clear hpb
                  go_wp2_with fail
                  rw [← HPB.out]
                  clear HPB
                  generalize wr.alloc (.cells #[.int .i64 0, .int .i64 0, .int .i64 0, .int .i64 0, .int .i64 0, .int .i64 0, .int .i64 0, .int .i64 0, .int .i64 0] 36) = W3 at *
                  refine (rnum_at _ E0.out RA.out).mono ?_
                  rintro r w5 ⟨rfl, hrd, hol⟩
                  have R5 := hid hrd
                  have F5 := hid (show w5.heap[pb]? = some (.cells #[.int .i64 0, .int .i64 0, .int .i64 0, .int .i64 0, .int .i64 0, .int .i64 0, .int .i64 0, .int .i64 0, .int .i64 0] 36) from hol.heap (by omega) FA.out)
                  have O5 := hid (OA.out.trans hol (by omega))
                  have hz5 : pb < w5.heap.size := (Array.getElem?_eq_some_iff.1 F5.out).1
                  clear hrd hol fb
                  have c5 : w5.cell? ⟨pb, 0, none⟩ = some (.int .i64 0) := (cell_row (j := 0) F5.out).trans rfl
                  have f5 : w5.frozen? ⟨pb, 0, none⟩ = false := by have hh := F5.out; simp [World.frozen?, hh]
                  go_wp2_with fail
                  refine (rsig_at _ E1.out (R5.out.set (by omega) (by omega) _)).mono ?_
                  rintro r w6 ⟨rfl, hrd, hol⟩
                  have R6 := hid hrd
                  have F6 := hid (show w6.heap[pb]? = some (.cells #[.int .i64 (l + v0), .int .i64 0, .int .i64 0, .int .i64 0, .int .i64 0, .int .i64 0, .int .i64 0, .int .i64 0, .int .i64 0] 36) from hol.heap (by omega) (heap_setCell F5.out _))
                  have O6 := hid ((O5.out.set (by omega) _).trans hol (by first | omega | (simp; omega)))
                  have hz6 : pb < w6.heap.size := (Array.getElem?_eq_some_iff.1 F6.out).1
                  clear hrd hol
                  have c6 : w6.cell? ⟨pb, 1, none⟩ = some (.int .i64 0) := (cell_row (j := 1) F6.out).trans rfl
                  have f6 : w6.frozen? ⟨pb, 1, none⟩ = false := by have hh := F6.out; simp [World.frozen?, hh]
                  go_wp2_with fail
                  refine (rsig_at _ E2.out (R6.out.set (by omega) (by omega) _)).mono ?_
                  rintro r w7 ⟨rfl, hrd, hol⟩
                  have R7 := hid hrd
                  have F7 := hid (show w7.heap[pb]? = some (.cells #[.int .i64 (l + v0), .int .i64 v1, .int .i64 0, .int .i64 0, .int .i64 0, .int .i64 0, .int .i64 0, .int .i64 0, .int .i64 0] 36) from hol.heap (by omega) (heap_setCell F6.out _))
                  have O7 := hid ((O6.out.set (by omega) _).trans hol (by first | omega | (simp; omega)))
                  have hz7 : pb < w7.heap.size := (Array.getElem?_eq_some_iff.1 F7.out).1
                  clear hrd hol
                  have c7 : w7.cell? ⟨pb, 2, none⟩ = some (.int .i64 0) := (cell_row (j := 2) F7.out).trans rfl
                  have f7 : w7.frozen? ⟨pb, 2, none⟩ = false := by have hh := F7.out; simp [World.frozen?, hh]
                  go_wp2_with fail
                  refine (rsig_at _ E3.out (R7.out.set (by omega) (by omega) _)).mono ?_
                  rintro r w8 ⟨rfl, hrd, hol⟩
                  have R8 := hid hrd
                  have F8 := hid (show w8.heap[pb]? = some (.cells #[.int .i64 (l + v0), .int .i64 v1, .int .i64 v2, .int .i64 0, .int .i64 0, .int .i64 0, .int .i64 0, .int .i64 0, .int .i64 0] 36) from hol.heap (by omega) (heap_setCell F7.out _))
                  have O8 := hid ((O7.out.set (by omega) _).trans hol (by first | omega | (simp; omega)))
                  have hz8 : pb < w8.heap.size := (Array.getElem?_eq_some_iff.1 F8.out).1
                  clear hrd hol
                  have c8 : w8.cell? ⟨pb, 3, none⟩ = some (.int .i64 0) := (cell_row (j := 3) F8.out).trans rfl
                  have f8 : w8.frozen? ⟨pb, 3, none⟩ = false := by have hh := F8.out; simp [World.frozen?, hh]
                  go_wp2_with fail
                  refine (rnum_at _ E4.out (R8.out.set (by omega) (by omega) _)).mono ?_
                  rintro r w9 ⟨rfl, hrd, hol⟩
                  have R9 := hid hrd
                  have F9 := hid (show w9.heap[pb]? = some (.cells #[.int .i64 (l + v0), .int .i64 v1, .int .i64 v2, .int .i64 v3, .int .i64 0, .int .i64 0, .int .i64 0, .int .i64 0, .int .i64 0] 36) from hol.heap (by omega) (heap_setCell F8.out _))
                  have O9 := hid ((O8.out.set (by omega) _).trans hol (by first | omega | (simp; omega)))
                  have hz9 : pb < w9.heap.size := (Array.getElem?_eq_some_iff.1 F9.out).1
                  clear hrd hol
                  clear c5 f5 c6 f6 c7 f7 c8 f8
                  have y3 : w9.cell? ⟨pb, 3, none⟩ = some (.int .i64 v3) := (cell_row (j := 3) F9.out).trans rfl
                  have y0 : w9.cell? ⟨pb, 0, none⟩ = some (.int .i64 (l + v0)) := (cell_row (j := 0) F9.out).trans rfl
                  have c9 : w9.cell? ⟨pb, 4, none⟩ = some (.int .i64 0) := (cell_row (j := 4) F9.out).trans rfl
                  have f9 : w9.frozen? ⟨pb, 4, none⟩ = false := by have hh := F9.out; simp [World.frozen?, hh]
                  go_wp2_with fail
                  refine (rnum_at _ E5.out (R9.out.set (by omega) (by omega) _)).mono ?_
                  rintro r w10 ⟨rfl, hrd, hol⟩
                  have R10 := hid hrd
                  have F10 := hid (show w10.heap[pb]? = some (.cells #[.int .i64 (l + v0), .int .i64 v1, .int .i64 v2, .int .i64 v3, .int .i64 (v3 + v4), .int .i64 0, .int .i64 0, .int .i64 0, .int .i64 0] 36) from hol.heap (by omega) (heap_setCell F9.out _))
                  have O10 := hid ((O9.out.set (by omega) _).trans hol (by first | omega | (simp; omega)))
                  have hz10 : pb < w10.heap.size := (Array.getElem?_eq_some_iff.1 F10.out).1
                  clear hrd hol
                  have c10 : w10.cell? ⟨pb, 5, none⟩ = some (.int .i64 0) := (cell_row (j := 5) F10.out).trans rfl
                  have f10 : w10.frozen? ⟨pb, 5, none⟩ = false := by have hh := F10.out; simp [World.frozen?, hh]
                  go_wp2_with fail
                  refine (rnum_at _ E6.out (R10.out.set (by omega) (by omega) _)).mono ?_
                  rintro r w11 ⟨rfl, hrd, hol⟩
                  have R11 := hid hrd
                  have F11 := hid (show w11.heap[pb]? = some (.cells #[.int .i64 (l + v0), .int .i64 v1, .int .i64 v2, .int .i64 v3, .int .i64 (v3 + v4), .int .i64 v5, .int .i64 0, .int .i64 0, .int .i64 0] 36) from hol.heap (by omega) (heap_setCell F10.out _))
                  have O11 := hid ((O10.out.set (by omega) _).trans hol (by first | omega | (simp; omega)))
                  have hz11 : pb < w11.heap.size := (Array.getElem?_eq_some_iff.1 F11.out).1
                  clear hrd hol
                  have c11 : w11.cell? ⟨pb, 6, none⟩ = some (.int .i64 0) := (cell_row (j := 6) F11.out).trans rfl
                  have f11 : w11.frozen? ⟨pb, 6, none⟩ = false := by have hh := F11.out; simp [World.frozen?, hh]
                  go_wp2_with fail
                  refine (rnum_at _ E7.out (R11.out.set (by omega) (by omega) _)).mono ?_
                  rintro r w12 ⟨rfl, hrd, hol⟩
                  have R12 := hid hrd
                  have F12 := hid (show w12.heap[pb]? = some (.cells #[.int .i64 (l + v0), .int .i64 v1, .int .i64 v2, .int .i64 v3, .int .i64 (v3 + v4), .int .i64 v5, .int .i64 v6, .int .i64 0, .int .i64 0] 36) from hol.heap (by omega) (heap_setCell F11.out _))
                  have O12 := hid ((O11.out.set (by omega) _).trans hol (by first | omega | (simp; omega)))
                  have hz12 : pb < w12.heap.size := (Array.getElem?_eq_some_iff.1 F12.out).1
                  clear hrd hol
                  have c12 : w12.cell? ⟨pb, 7, none⟩ = some (.int .i64 0) := (cell_row (j := 7) F12.out).trans rfl
                  have f12 : w12.frozen? ⟨pb, 7, none⟩ = false := by have hh := F12.out; simp [World.frozen?, hh]
                  go_wp2_with fail
                  refine (rnum_at _ E8.out (R12.out.set (by omega) (by omega) _)).mono ?_
                  rintro r w13 ⟨rfl, hrd, hol⟩
                  have R13 := hid hrd
                  have F13 := hid (show w13.heap[pb]? = some (.cells #[.int .i64 (l + v0), .int .i64 v1, .int .i64 v2, .int .i64 v3, .int .i64 (v3 + v4), .int .i64 v5, .int .i64 v6, .int .i64 v7, .int .i64 0] 36) from hol.heap (by omega) (heap_setCell F12.out _))
                  have O13 := hid ((O12.out.set (by omega) _).trans hol (by first | omega | (simp; omega)))
                  have hz13 : pb < w13.heap.size := (Array.getElem?_eq_some_iff.1 F13.out).1
                  clear hrd hol
                  have c13 : w13.cell? ⟨pb, 8, none⟩ = some (.int .i64 0) := (cell_row (j := 8) F13.out).trans rfl
                  have f13 : w13.frozen? ⟨pb, 8, none⟩ = false := by have hh := F13.out; simp [World.frozen?, hh]
                  have RX := hid (show RdAt (w13.setCell ⟨pb, 8, none⟩ (.int .i64 v8)) rb 123 b t9 from (R13.out.set (by omega) (by omega) _))
                  have FX := hid (show (w13.setCell ⟨pb, 8, none⟩ (.int .i64 v8)).heap[pb]? = some (.cells #[.int .i64 (l + v0), .int .i64 v1, .int .i64 v2, .int .i64 v3, .int .i64 (v3 + v4), .int .i64 v5, .int .i64 v6, .int .i64 v7, .int .i64 v8] 36) from (heap_setCell F13.out _))
                  have OX := hid (show Only rb wr.heap.size wr (w13.setCell ⟨pb, 8, none⟩ (.int .i64 v8)) from (O13.out.set (by omega) _))
                  have d0 : (w13.setCell ⟨pb, 8, none⟩ (.int .i64 v8)).cell? ⟨pb, 0, none⟩ = some (.int .i64 (l + v0)) := (cell_row (j := 0) FX.out).trans rfl
                  have d1 : (w13.setCell ⟨pb, 8, none⟩ (.int .i64 v8)).cell? ⟨pb, 1, none⟩ = some (.int .i64 v1) := (cell_row (j := 1) FX.out).trans rfl
                  have d2 : (w13.setCell ⟨pb, 8, none⟩ (.int .i64 v8)).cell? ⟨pb, 2, none⟩ = some (.int .i64 v2) := (cell_row (j := 2) FX.out).trans rfl
                  have d3 : (w13.setCell ⟨pb, 8, none⟩ (.int .i64 v8)).cell? ⟨pb, 3, none⟩ = some (.int .i64 v3) := (cell_row (j := 3) FX.out).trans rfl
                  have d4 : (w13.setCell ⟨pb, 8, none⟩ (.int .i64 v8)).cell? ⟨pb, 4, none⟩ = some (.int .i64 (v3 + v4)) := (cell_row (j := 4) FX.out).trans rfl
                  have d5 : (w13.setCell ⟨pb, 8, none⟩ (.int .i64 v8)).cell? ⟨pb, 5, none⟩ = some (.int .i64 v5) := (cell_row (j := 5) FX.out).trans rfl
                  have d6 : (w13.setCell ⟨pb, 8, none⟩ (.int .i64 v8)).cell? ⟨pb, 6, none⟩ = some (.int .i64 v6) := (cell_row (j := 6) FX.out).trans rfl
                  have d7 : (w13.setCell ⟨pb, 8, none⟩ (.int .i64 v8)).cell? ⟨pb, 7, none⟩ = some (.int .i64 v7) := (cell_row (j := 7) FX.out).trans rfl
                  have d8 : (w13.setCell ⟨pb, 8, none⟩ (.int .i64 v8)).cell? ⟨pb, 8, none⟩ = some (.int .i64 v8) := (cell_row (j := 8) FX.out).trans rfl
                  have HRK := hid (RowsAt.one (heap_alloc_at (w13.setCell ⟨pb, 8, none⟩ (.int .i64 v8)) _ _ (by simp)) : RowsAt ((w13.setCell ⟨pb, 8, none⟩ (.int .i64 v8)).alloc (.cells #[.int .i64 (l + v0), .int .i64 v1, .int .i64 v2, .int .i64 v3, .int .i64 (v3 + v4), .int .i64 v5, .int .i64 v6, .int .i64 v7, .int .i64 v8] 36)) w13.heap.size 0 9 [[.int .i64 (l + v0), .int .i64 v1, .int .i64 v2, .int .i64 v3, .int .i64 (v3 + v4), .int .i64 v5, .int .i64 v6, .int .i64 v7, .int .i64 v8]])
                  have HOA := hid (OwnR.grow (W' := (w13.setCell ⟨pb, 8, none⟩ (.int .i64 v8)).alloc (.cells #[.int .i64 (l + v0), .int .i64 v1, .int .i64 v2, .int .i64 v3, .int .i64 (v3 + v4), .int .i64 v5, .int .i64 v6, .int .i64 v7, .int .i64 v8] 36)) (HO.out.only OX.out (Nat.le_refl _) hrb) ((Below.refl _ _).alloc (Nat.le_refl _) _) : OwnR _ w.heap.size 36 9 (.slice oa on oc) (A.map Pt.row))
                  have RB := hid (RX.out.alloc (.cells #[.int .i64 (l + v0), .int .i64 v1, .int .i64 v2, .int .i64 v3, .int .i64 (v3 + v4), .int .i64 v5, .int .i64 v6, .int .i64 v7, .int .i64 v8] 36))
                  have OB := hid ((O2.out.trans OX.out O2.out.size).alloc (by have := O2.out.size; simp; omega) (.cells #[.int .i64 (l + v0), .int .i64 v1, .int .i64 v2, .int .i64 v3, .int .i64 (v3 + v4), .int .i64 v5, .int .i64 v6, .int .i64 v7, .int .i64 v8] 36))
                  have HL1 := hid (show (A.map Pt.row).length + 1 ≤ maxLen by rw [List.length_map, HA.out]; unfold maxLen; omega)
                  have HL2 := hid (show ((A.map Pt.row).length + 1) * 72 ≤ 140737488355328 by rw [List.length_map, HA.out]; omega)
                  have HBS := hid (show w.heap.size ≤ ((w13.setCell ⟨pb, 8, none⟩ (.int .i64 v8)).alloc (.cells #[.int .i64 (l + v0), .int .i64 v1, .int .i64 v2, .int .i64 v3, .int .i64 (v3 + v4), .int .i64 v5, .int .i64 v6, .int .i64 v7, .int .i64 v8] 36)).heap.size by have := O2.out.size; simp; omega)
                  go_wp2_with (first
                    | (at_builtin
                       go_loud (refine wpList_append_rows rfl (.tmp 89) (.tmp 91) 22 rfl w.heap.size 36 i0 _ 9 72 Try.underlying22 HI.out HZ0.out HZ1.out HZ2.out rfl (by decide) _ (A.map Pt.row) [[.int .i64 (l + v0), .int .i64 v1, .int .i64 v2, .int .i64 v3, .int .i64 (v3 + v4), .int .i64 v5, .int .i64 v6, .int .i64 v7, .int .i64 v8]] rfl HOA.out w13.heap.size 0 1 1 rfl rfl HRK.out (wide9d _ _ _ _ _ _ _ _ _) HL1.out HL2.out HBS.out ?_)
                       intro v10 W6 hown6 hg6 z6
                       clear z6
                       have HO6 := hid (show OwnP W6 w.heap.size v10 (A ++ [⟨(l + v0), v1, v2, v3, (v3 + v4), v5, v6, v7, v8⟩]) by unfold OwnP; rw [List.map_append]; exact hown6)
                       have R6X := hid (RB.out.kept hg6 (fun e => by have := OwnR.ownBlock HOA.out rb e.symm; omega) (fun e => by have := OwnR.ownBlock HOA.out b e.symm; omega))
                       have O6X := hid (OB.out.kept hg6 (by have := O2.out.size; simp; omega) (fun k e => OwnR.ownBlock HOA.out k e))
                       clear hown6 hg6))
                  obtain ⟨oa6, oc6, hv6⟩ := HO6.out.slice
                  refine ⟨⟨i + 1, A ++ [⟨(l + v0), v1, v2, v3, (v3 + v4), v5, v6, v7, v8⟩], l + v0, t9, oa6, _, oc6, hv6, by omega, by simp [HA.out], by go_num, rfl, hv6 ▸ HO6.out, R6X.out, O6X.out, fun hb => ?_, ?_⟩, by simp [intOf]; omega⟩
                  · exact HBB.out hb
                  · rw [HE.out, show N - i = (N - (i + 1)) + 1 by omega, ptsR_next HBD.out HPT.out]
                    simp
      · have HF := hid (ptsR_bad (N - i) l s2 hbad)
        rw [hbad] at fb
        clear hbad
        go_wp2_with fail
        go_ret
        rw [HE.out, HF.out, List.append_nil]
        exact ⟨⟨_, rfl, HO.out, by rw [HA.out]; omega⟩, R2.out, O2.out⟩
    · obtain rfl : i = N := by omega
      have HF := hid (show ptsR (i - i) l s2 = ([], s2) by rw [Nat.sub_self]; rfl)
      have d1 : decide ((i : Int) < (i : Int)) = false := by simp
      go_wp2_with fail
      go_ret
      rw [HE.out, HF.out, List.append_nil]
      exact ⟨⟨_, rfl, HO.out, by rw [HA.out]; omega⟩, R2.out, O2.out⟩
end Go.Proofs.Yteanlcefdoigcaa
