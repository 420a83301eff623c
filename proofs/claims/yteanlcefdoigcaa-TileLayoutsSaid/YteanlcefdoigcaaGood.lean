/- Which lists of points are good (valid, and every class from 0 to 255): what the program and its reference return. -/
import Derived.Test.YteanlcefdoigcaaValidP
namespace Go.Proofs.Yteanlcefdoigcaa
open Go.RowKit Go.Maps

def clsB (F : Nat → Nat → Int) (i : Nat) : Bool := inB 0 255 (F i 8)
def goodV (F : Nat → Nat → Int) (n : Nat) : Bool := allN (clsB F) n && validV F n
theorem goodV_none (F : Nat → Nat → Int) : goodV F 0 = true := rfl
theorem clsB_bad {F : Nat → Nat → Int} {i : Nat} (h : F i 8 < 0 ∨ 255 < F i 8) : clsB F i = false := by
  unfold clsB inB
  simp
  omega
theorem clsB_yes {F : Nat → Nat → Int} {i : Nat} (h : ¬ F i 8 < 0) (h2 : ¬ 255 < F i 8) : clsB F i = true := by
  unfold clsB inB
  simp
  omega
set_option maxRecDepth 100000 in
theorem valid_none (a : Option Addr) (c : Nat) (w : World) :
    Calls Try.prog 93 #[.slice a 0 c] w fun r w' => r = .returned (.bool true) ∧ Below w.heap.size w w' := by
  have hmm := fun (x : Int) (W : World) => (show (Instr.makeMap 137 (some (.int .i64 x))).run Try.prog W = .ok (.map (some W.heap.size)) (W.alloc (.map #[] 0)) by simp [Instr.makeMap, run_underlying Try.underlying137, asInt, newObj]; rfl)
  go_enter Try.func93, Try.ntmps93
  go_wp2_with fail
  refine wp_loop_rounds 1 ?_
  rw [rounds_succ]
  go_wp2_with fail
  go_ret
  exact ⟨rfl, by (repeat' (first | (with_reducible exact Below.refl _ _) | (with_reducible assumption) | (with_reducible refine Below.alloc ?_ ?_ _) | (with_reducible refine Below.drew ?_) | (with_reducible refine below_drewN ?_ _) | (with_reducible refine Below.setCell ?_ ?_ _) | (with_reducible refine below_setRow ?_ ?_ _) | go_size))⟩
set_option maxRecDepth 100000 in
theorem good_none (a : Option Addr) (c : Nat) (w : World) :
    Calls Try.prog 48 #[.slice a 0 c] w fun r w' => r = .returned (.bool true) ∧ Below w.heap.size w w' := by
  go_enter Try.func48, Try.ntmps48
  go_wp2_with fail
  refine wp_loop_rounds 1 ?_
  rw [rounds_succ]
  go_wp2_with fail
  refine (valid_none _ _ _).mono ?_
  rintro r w1 ⟨rfl, hb⟩
  go_wp2_with fail
  go_ret
  exact ⟨rfl, hb⟩
set_option maxRecDepth 100000 in
set_option maxHeartbeats 1600000 in
theorem good_any (b off n c : Nat) (F : Nat → Nat → Int) (w : World) (hn0 : 0 < n) (hnm : n ≤ maxLen) (hbw : b < w.heap.size) (hr : recs9 w b off n F) :
    Calls Try.prog 48 #[.slice (some ⟨b, off, none⟩) n c] w fun r w' => r = .returned (.bool (goodV F n)) ∧ Below w.heap.size w w' := by
  have HC := hid hr
  clear hr
  have hnm' : n ≤ 9223372036854775807 := by unfold maxLen at hnm; omega
  clear hnm
  go_enter Try.func48, Try.ntmps48
  go_wp2_with fail
  go_loopw [7] (fun iv W => ∃ k : Nat, k ≤ n ∧ iv = .int .i64 (k : Int) ∧ allN (clsB F) k = true ∧ Below w.heap.size w W) (fun iv _ => n - (intOf iv).toNat)
  case atStart => exact ⟨0, by omega, rfl, rfl, Below.refl _ _⟩
  case round =>
    obtain ⟨k, hk, rfl, hall, hB⟩ := hrel
    have HBwr := hid hB
    have hzwr := hB.size
    have HA := hid hall
    clear hall
    by_cases hlt : k < n
    · have hcs := HC.out.still hB hbw k hlt
      have c0 := hcs 0 (by decide)
      have c1 := hcs 1 (by decide)
      have c2 := hcs 2 (by decide)
      have c3 := hcs 3 (by decide)
      have c4 := hcs 4 (by decide)
      have c5 := hcs 5 (by decide)
      have c6 := hcs 6 (by decide)
      have c7 := hcs 7 (by decide)
      have c8 := hcs 8 (by decide)
      rw [Nat.add_zero] at c0
      have HBAD := hid (fun h : F k 8 < 0 ∨ 255 < F k 8 => show goodV F n = false by unfold goodV; rw [allN_stop hlt (clsB_bad h)]; rfl)
      have HYES := hid (fun (h : ¬ F k 8 < 0) (h2 : ¬ 255 < F k 8) => allN_next HA.out (clsB_yes h h2))
      clear hB hcs
      generalize F k 0 = p0 at *
      generalize F k 1 = p1 at *
      generalize F k 2 = p2 at *
      generalize F k 3 = p3 at *
      generalize F k 4 = p4 at *
      generalize F k 5 = p5 at *
      generalize F k 6 = p6 at *
      generalize F k 7 = p7 at *
      generalize F k 8 = p8 at *
      by_cases hl : p8 < 0
      · have HX := hid (HBAD.out (.inl hl))
        go_wp2_with fail
        go_ret
        exact ⟨by rw [HX.out]; rfl, HBwr.out.alloc hzwr _⟩
      by_cases hg : 255 < p8
      · have HX := hid (HBAD.out (.inr hg))
        go_wp2_with fail
        go_ret
        exact ⟨by rw [HX.out]; rfl, HBwr.out.alloc hzwr _⟩
      have HX := hid (HYES.out hl hg)
      go_wp2_with fail
      exact ⟨⟨k + 1, by omega, by go_num, HX.out, HBwr.out.alloc hzwr _⟩, by simp [intOf]; omega⟩
    · obtain rfl : k = n := by omega
      have HV := hid (show goodV F k = validV F k by unfold goodV; rw [HA.out]; rfl)
      have HRC := hid (HC.out.still hB hbw)
      clear hB
      go_wp2_with fail
      refine (valid_any b off k c F wr hn0 (by omega) HRC.out).mono ?_
      rintro r w1 ⟨rfl, hb⟩
      go_wp2_with fail
      go_ret
      exact ⟨by rw [HV.out]; rfl, HBwr.out.trans (hb.mono hzwr)⟩
end Go.Proofs.Yteanlcefdoigcaa
